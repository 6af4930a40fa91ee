/- Texts of this seat, one behind the other (merge.py): the walks of the functions that the law VersionCodes uses, and plain words on what they come to. No condition. -/
import Derived.Laws.BitsAllLaws
import Derived.OpenShut
import Derived.Laws.BytesArg
import Derived.Test.YtmajbcglpcagoaaDoorXMVersionCodes1
-- YtmajbcglpcagoaaDoorX46
namespace Go.Proofs.YtmajbcglpcagoaaDoor.X
open Go.RowKit Go.Proofs.YtmajbcglpcagoaaDoorW.PrintWords Go.Proofs.YtmajbcglpcagoaaDoorW.PrintLast Go.Proofs.YtmajbcglpcagoaaDoorW.PrintMore
attribute [local go_sem] max2_int min2_int max_two min_two max_three min_three max_four min_four   -- for this text's walks alone
set_option linter.unusedVariables false
set_option linter.unusedSimpArgs false

/-! ### version_Code: function 21 -/
def version_Code.f (k : Nat) (l0 : List Int) (a1 : Int) : Option (List Int × Int) := (conv_Code.f k l0).bind fun bt540 => (if bt540.2 = 0 then (if a1 < 0 then (some (([] : List Int), 1)) else (if a1 ≥ 4 then (some (([] : List Int), 1)) else ((version_Split.f k bt540.1).bind fun bt544 => (if a1 = 0 then (some (bt544.1, bt544.2.2.2.2)) else (if a1 = 1 then (some (bt544.2.1, bt544.2.2.2.2)) else (if a1 = 2 then (some (bt544.2.2.1, bt544.2.2.2.2)) else (if a1 = 3 then (some (bt544.2.2.2.1, bt544.2.2.2.2)) else (none)))))))) else (some (([] : List Int), bt540.2)))
theorem version_Code.mono : ∀ a0 a1 k, LeO (version_Code.f k a0 a1) (version_Code.f (k + 1) a0 a1) := by
  intro a0 a1 k
  unfold version_Code.f
  repeat' first
      | (with_reducible exact conv_Code.mono _ _)
      | (with_reducible exact version_Split.mono _ _)
      | (with_reducible exact LeO.refl _)
      | (with_reducible exact LeO.none _)
      | (with_reducible refine LeO.ite ?_ ?_)
      | (with_reducible refine LeO.bind ?_ (fun _ => ?_))
      | exact conv_Code.mono _ _
      | exact version_Split.mono _ _
      | exact LeO.none _
      | refine LeO.ite ?_ ?_
      | refine LeO.bind ?_ (fun _ => ?_)
set_option maxHeartbeats 8000000 in
set_option maxRecDepth 100000 in
theorem version_Code.calls (k : Nat) (A0 : Option Addr) (c0 : Nat) (l0 : List Int) (a1 : Int) (r1 : List Int) (r2 : Int) (w : World) (hr0 : Kd.C (Kd.int .u8) w A0 l0.length l0) (hc0 : l0.length ≤ c0) (h : version_Code.f k l0 a1 = some (r1, r2)) (hT_ : TP w := by first | assumption | exact TP_of (by assumption : TP _) (by repeat (first | (with_reducible first | apply below_alloc | apply pw_below_drewN | apply below_drew1 | refine below_set ?_ (Aside0.out (by assumption))) | exact Aside0.out (by assumption) | exact Below.refl _ _))) :
    Calls Tryd.prog 21 #[.slice A0 l0.length c0, .int .i64 a1] w fun e w' => ∃ v0_ : Value, e = .returned (.tuple #[v0_, .int .i64 r2]) ∧ Kd.R (Kd.int .u8) 5 w' w.heap.size (fun _ => True) v0_ r1 ∧ Below w.heap.size w w' := by
  have hu63 := Tryd.underlying63
  have HR0 := Aside0.mk hr0
  have HC0 := Aside0.mk hc0
  clear hr0 hc0
  have HB := Aside0.mk (Below.refl w.heap.size w)
  have H : ((conv_Code.f k l0).bind fun bt540 => (if bt540.2 = 0 then (if a1 < 0 then (some (([] : List Int), 1)) else (if a1 ≥ 4 then (some (([] : List Int), 1)) else ((version_Split.f k bt540.1).bind fun bt544 => (if a1 = 0 then (some (bt544.1, bt544.2.2.2.2)) else (if a1 = 1 then (some (bt544.2.1, bt544.2.2.2.2)) else (if a1 = 2 then (some (bt544.2.2.1, bt544.2.2.2.2)) else (if a1 = 3 then (some (bt544.2.2.2.1, bt544.2.2.2.2)) else (none)))))))) else (some (([] : List Int), bt540.2)))) = some (r1, r2) := h
  clear h
  replace H := Option.bind_eq_some_iff.mp H
  obtain ⟨⟨t540, t541⟩, A30, H⟩ := H
  replace H : (if t541 = 0 then (if a1 < 0 then (some (([] : List Int), 1)) else (if a1 ≥ 4 then (some (([] : List Int), 1)) else ((version_Split.f k t540).bind fun bt544 => (if a1 = 0 then (some (bt544.1, bt544.2.2.2.2)) else (if a1 = 1 then (some (bt544.2.1, bt544.2.2.2.2)) else (if a1 = 2 then (some (bt544.2.2.1, bt544.2.2.2.2)) else (if a1 = 3 then (some (bt544.2.2.2.1, bt544.2.2.2.2)) else (none)))))))) else (some (([] : List Int), t541))) = some (r1, r2) := H
  have A3 := Aside0.mk A30
  clear A30
  by_cases c4 : t541 = 0
  · rw [if_pos c4] at H
    have c4b0 : (t541 == 0) = true := beq_iff_eq.mpr c4
    have c4b1 : (t541 != 0) = false := bne_eq_false_iff_eq.mpr c4
    clear c4
    by_cases c5 : a1 < 0
    · rw [if_pos c5] at H
      have c5b0 : decide (a1 < 0) = true := decide_eq_true c5
      clear c5
      simp only [Option.some.injEq, Prod.mk.injEq] at H
      obtain ⟨rfl, rfl⟩ := H
      go_enter Tryd.func21, Tryd.ntmps21
      go_wp2_with (first | ((with_reducible refine gate_callee (f := 28) rfl ?_); refine goesL_ (some 11) rfl rfl Tryd.func28 (by kernel_rfl) rfl #[.slice A0 l0.length c0] rfl (by (try simp only [List.map_toArray, List.map_cons, List.map_nil]); first | done | rfl | (simp only [List.length_drop, List.length_take]; rfl)) ?_; (with_reducible refine (conv_Code.calls k _ _ l0 t540 t541 _ ?side1 ?side2 A3.out).mono ?_); (case side1 => repeat (first | exact HR0.out | (with_reducible refine Kd.C_alloc ?_ _) | (with_reducible refine Kd.C_drewN ?_ _) | (with_reducible refine Kd.C_drew ?_))); (case side2 => exact HC0.out); rintro e w6 ⟨v542, rfl, ho0, hb⟩; refine ⟨_, rfl, ?_⟩; have n0_ := Aside0.mk (Kd.R_lower ho0 (below_size (by repeat (first | (with_reducible first | exact HB.out | apply below_alloc | apply pw_below_drewN | apply below_drew1) | exact HB.out)))); have n1_ := Aside0.mk (below_step (by repeat (first | (with_reducible first | exact HB.out | apply below_alloc | apply pw_below_drewN | apply below_drew1) | exact HB.out)) hb); clear HB; have HO543 := n0_; have HB := n1_; clear n0_ n1_; (try clear hb); (try clear hb2); (try clear hk); (try clear hi); (try clear ho0)))
      go_ret2
      exact ⟨_, by first | rfl | (simp [errW_none, errW_some] <;> rfl) | (simp [*, errW_none, errW_some] <;> rfl), by first | exact Kd.R_nil _ _ _ _ _ | exact Kd.N_nil _ _ _ _ _ | exact Kd.V_nil _ _ _ _ _ | exact Kd.Q_nil _ _ _ _ _ | exact Kd.S_nil _ _ _ _ _, by repeat (first | (with_reducible first | exact HB.out | apply below_alloc | apply pw_below_drewN | apply below_drew1) | exact HB.out)⟩
    · rw [if_neg c5] at H
      have c5b0 : decide (a1 < 0) = false := decide_eq_false c5
      clear c5
      by_cases c7 : a1 ≥ 4
      · rw [if_pos c7] at H
        have c7b0 : decide (4 ≤ a1) = true := decide_eq_true c7
        clear c7
        simp only [Option.some.injEq, Prod.mk.injEq] at H
        obtain ⟨rfl, rfl⟩ := H
        go_enter Tryd.func21, Tryd.ntmps21
        go_wp2_with (first | ((with_reducible refine gate_callee (f := 28) rfl ?_); refine goesL_ (some 11) rfl rfl Tryd.func28 (by kernel_rfl) rfl #[.slice A0 l0.length c0] rfl (by (try simp only [List.map_toArray, List.map_cons, List.map_nil]); first | done | rfl | (simp only [List.length_drop, List.length_take]; rfl)) ?_; (with_reducible refine (conv_Code.calls k _ _ l0 t540 t541 _ ?side1 ?side2 A3.out).mono ?_); (case side1 => repeat (first | exact HR0.out | (with_reducible refine Kd.C_alloc ?_ _) | (with_reducible refine Kd.C_drewN ?_ _) | (with_reducible refine Kd.C_drew ?_))); (case side2 => exact HC0.out); rintro e w8 ⟨v542, rfl, ho0, hb⟩; refine ⟨_, rfl, ?_⟩; have n0_ := Aside0.mk (Kd.R_lower ho0 (below_size (by repeat (first | (with_reducible first | exact HB.out | apply below_alloc | apply pw_below_drewN | apply below_drew1) | exact HB.out)))); have n1_ := Aside0.mk (below_step (by repeat (first | (with_reducible first | exact HB.out | apply below_alloc | apply pw_below_drewN | apply below_drew1) | exact HB.out)) hb); clear HB; have HO543 := n0_; have HB := n1_; clear n0_ n1_; (try clear hb); (try clear hb2); (try clear hk); (try clear hi); (try clear ho0)))
        go_ret2
        exact ⟨_, by first | rfl | (simp [errW_none, errW_some] <;> rfl) | (simp [*, errW_none, errW_some] <;> rfl), by first | exact Kd.R_nil _ _ _ _ _ | exact Kd.N_nil _ _ _ _ _ | exact Kd.V_nil _ _ _ _ _ | exact Kd.Q_nil _ _ _ _ _ | exact Kd.S_nil _ _ _ _ _, by repeat (first | (with_reducible first | exact HB.out | apply below_alloc | apply pw_below_drewN | apply below_drew1) | exact HB.out)⟩
      · rw [if_neg c7] at H
        have c7b0 : decide (4 ≤ a1) = false := decide_eq_false c7
        clear c7
        replace H := Option.bind_eq_some_iff.mp H
        obtain ⟨⟨t544, t547, t550, t553, t556⟩, A90, H⟩ := H
        replace H : (if a1 = 0 then (some (t544, t556)) else (if a1 = 1 then (some (t547, t556)) else (if a1 = 2 then (some (t550, t556)) else (if a1 = 3 then (some (t553, t556)) else (none))))) = some (r1, r2) := H
        have A9 := Aside0.mk A90
        clear A90
        by_cases c10 : a1 = 0
        · rw [if_pos c10] at H
          subst c10
          simp only [Option.some.injEq, Prod.mk.injEq] at H
          obtain ⟨rfl, rfl⟩ := H
          go_enter Tryd.func21, Tryd.ntmps21
          go_wp2_with (first | ((with_reducible refine gate_callee (f := 28) rfl ?_); refine goesL_ (some 11) rfl rfl Tryd.func28 (by kernel_rfl) rfl #[.slice A0 l0.length c0] rfl (by (try simp only [List.map_toArray, List.map_cons, List.map_nil]); first | done | rfl | (simp only [List.length_drop, List.length_take]; rfl)) ?_; (with_reducible refine (conv_Code.calls k _ _ l0 t540 t541 _ ?side1 ?side2 A3.out).mono ?_); (case side1 => repeat (first | exact HR0.out | (with_reducible refine Kd.C_alloc ?_ _) | (with_reducible refine Kd.C_drewN ?_ _) | (with_reducible refine Kd.C_drew ?_))); (case side2 => exact HC0.out); rintro e w11 ⟨v542, rfl, ho0, hb⟩; refine ⟨_, rfl, ?_⟩; have n0_ := Aside0.mk (Kd.R_lower ho0 (below_size (by repeat (first | (with_reducible first | exact HB.out | apply below_alloc | apply pw_below_drewN | apply below_drew1) | exact HB.out)))); have n1_ := Aside0.mk (below_step (by repeat (first | (with_reducible first | exact HB.out | apply below_alloc | apply pw_below_drewN | apply below_drew1) | exact HB.out)) hb); clear HB; have HO543 := n0_; have HB := n1_; clear n0_ n1_; (try clear hb); (try clear hb2); (try clear hk); (try clear hi); (try clear ho0); obtain ⟨Ao12, co12, eo12⟩ := Kd.R_slice HO543.out; subst eo12) | ((with_reducible refine gate_callee (f := 36) rfl ?_); refine goesL_ (some 25) rfl rfl Tryd.func36 (by kernel_rfl) rfl #[.slice Ao12 t540.length co12] rfl (by (try simp only [List.map_toArray, List.map_cons, List.map_nil]); first | done | rfl | (simp only [List.length_drop, List.length_take]; rfl)) ?_; (with_reducible refine (version_Split.calls k _ _ t540 t544 t547 t550 t553 t556 _ ?side1 ?side2 A9.out).mono ?_); (case side1 => repeat (first | exact (Kd.R_reads' HO543.out).2.2 | (with_reducible refine Kd.C_alloc ?_ _) | (with_reducible refine Kd.C_drewN ?_ _) | (with_reducible refine Kd.C_drew ?_))); (case side2 => exact (Kd.R_reads' HO543.out).2.1); rintro e w13 ⟨v545, v548, v551, v554, rfl, ho0, ho1, ho2, ho3, hb⟩; refine ⟨_, rfl, ?_⟩; have n0_ := Aside0.mk (Kd.R_mono (Kd.R_told (Kd.R_told (Kd.R_told (Kd.R_told (Kd.R_old (by (with_reducible repeat (first | apply Kd.R_alloc | apply Kd.R_drewN | apply Kd.R_drew)); exact HO543.out) hb) (Kd.R_base ho0)) (Kd.R_base ho1)) (Kd.R_base ho2)) (Kd.R_base ho3)) (fun _ h_ => h_.1)); have n1_ := Aside0.mk (Kd.R_lower (Kd.R_new' ho0 (Kd.R_lt (by (with_reducible repeat (first | apply Kd.R_alloc | apply Kd.R_drewN | apply Kd.R_drew)); exact HO543.out))) (below_size (by repeat (first | (with_reducible first | exact HB.out | apply below_alloc | apply pw_below_drewN | apply below_drew1) | exact HB.out)))); have n2_ := Aside0.mk (Kd.R_lower (Kd.R_new' ho1 (Kd.R_lt (by (with_reducible repeat (first | apply Kd.R_alloc | apply Kd.R_drewN | apply Kd.R_drew)); exact HO543.out))) (below_size (by repeat (first | (with_reducible first | exact HB.out | apply below_alloc | apply pw_below_drewN | apply below_drew1) | exact HB.out)))); have n3_ := Aside0.mk (Kd.R_lower (Kd.R_new' ho2 (Kd.R_lt (by (with_reducible repeat (first | apply Kd.R_alloc | apply Kd.R_drewN | apply Kd.R_drew)); exact HO543.out))) (below_size (by repeat (first | (with_reducible first | exact HB.out | apply below_alloc | apply pw_below_drewN | apply below_drew1) | exact HB.out)))); have n4_ := Aside0.mk (Kd.R_lower (Kd.R_new' ho3 (Kd.R_lt (by (with_reducible repeat (first | apply Kd.R_alloc | apply Kd.R_drewN | apply Kd.R_drew)); exact HO543.out))) (below_size (by repeat (first | (with_reducible first | exact HB.out | apply below_alloc | apply pw_below_drewN | apply below_drew1) | exact HB.out)))); have n5_ := Aside0.mk (below_step (by repeat (first | (with_reducible first | exact HB.out | apply below_alloc | apply pw_below_drewN | apply below_drew1) | exact HB.out)) hb); clear HO543; clear HB; have HO543 := n0_; have HO546 := n1_; have HO549 := n2_; have HO552 := n3_; have HO555 := n4_; have HB := n5_; clear n0_ n1_ n2_ n3_ n4_ n5_; (try clear hb); (try clear hb2); (try clear hk); (try clear hi); (try clear ho0); (try clear ho1); (try clear ho2); (try clear ho3)) | ((with_reducible refine gate_dst (N := 8) rfl ?_); refine box_event ?hg (N := 8) ?hd (cs := #[.slice none 0 0, .slice none 0 0, .slice none 0 0, .slice none 0 0]) (t := 63) ?hr ?_; (case hd => rfl); (case hg => rfl); (case hr => first | (go_simp; done) | (go_simp; rfl)); intro gb557 hg w14 hbox hb; have n0_ := Aside0.mk (Kd.R_below (by (with_reducible repeat (first | apply Kd.R_alloc | apply Kd.R_drewN | apply Kd.R_drew)); exact HO543.out) hb); have n1_ := Aside0.mk (Kd.R_below (by (with_reducible repeat (first | apply Kd.R_alloc | apply Kd.R_drewN | apply Kd.R_drew)); exact HO546.out) hb); have n2_ := Aside0.mk (Kd.R_below (by (with_reducible repeat (first | apply Kd.R_alloc | apply Kd.R_drewN | apply Kd.R_drew)); exact HO549.out) hb); have n3_ := Aside0.mk (Kd.R_below (by (with_reducible repeat (first | apply Kd.R_alloc | apply Kd.R_drewN | apply Kd.R_drew)); exact HO552.out) hb); have n4_ := Aside0.mk (Kd.R_below (by (with_reducible repeat (first | apply Kd.R_alloc | apply Kd.R_drewN | apply Kd.R_drew)); exact HO555.out) hb); have n5_ := Aside0.mk (below_step (by repeat (first | (with_reducible first | exact HB.out | apply below_alloc | apply pw_below_drewN | apply below_drew1) | exact HB.out)) hb); have n6_ := Aside0.mk (hbox); have n7_ := Aside0.mk ((by rw [hg]; exact (below_size (by repeat (first | (with_reducible first | exact HB.out | apply below_alloc | apply pw_below_drewN | apply below_drew1) | exact HB.out))) : w.heap.size ≤ gb557)); have n8_ := Aside0.mk ((by rw [hg]; exact (below_size (by repeat (first | (with_reducible first | exact HB.out | apply below_alloc | apply pw_below_drewN | apply below_drew1) | exact HB.out))) : w.heap.size ≤ gb557)); clear HO543; clear HO546; clear HO549; clear HO552; clear HO555; clear HB; have HO543 := n0_; have HO546 := n1_; have HO549 := n2_; have HO552 := n3_; have HO555 := n4_; have HB := n5_; have BK557 := n6_; have GW557 := n7_; have GE557 := n8_; clear n0_ n1_ n2_ n3_ n4_ n5_ n6_ n7_ n8_; clear hb hbox hg; obtain ⟨Ao15, co15, eo15⟩ := Kd.R_slice HO546.out; subst eo15; have hcz16_0 : w14.cell? ⟨gb557, 0, none⟩ = some (.slice none 0 0) := (blk_cell BK557.out 0).trans rfl; have hcz16_1 : w14.cell? ⟨gb557, 1, none⟩ = some (.slice none 0 0) := (blk_cell BK557.out 1).trans rfl; have hcz16_2 : w14.cell? ⟨gb557, 2, none⟩ = some (.slice none 0 0) := (blk_cell BK557.out 2).trans rfl; have hcz16_3 : w14.cell? ⟨gb557, 3, none⟩ = some (.slice none 0 0) := (blk_cell BK557.out 3).trans rfl; have hfz16_0 := blk_frozen BK557.out 0; have hfz16_1 := blk_frozen BK557.out 1; have hfz16_2 := blk_frozen BK557.out 2; have hfz16_3 := blk_frozen BK557.out 3; obtain ⟨Ao17, co17, eo17⟩ := Kd.R_slice HO549.out; subst eo17; obtain ⟨Ao18, co18, eo18⟩ := Kd.R_slice HO552.out; subst eo18; obtain ⟨Ao19, co19, eo19⟩ := Kd.R_slice HO555.out; subst eo19))
          go_ret2
          exact ⟨_, by first | rfl | (simp [errW_none, errW_some] <;> rfl) | (simp [*, errW_none, errW_some] <;> rfl), by (with_reducible repeat (first | apply Kd.R_alloc | apply Kd.R_drewN | apply Kd.R_drew)); exact Kd.R_mono (Kd.R_far (p := ⟨gb557, 3, none⟩) (Kd.R_far (p := ⟨gb557, 2, none⟩) (Kd.R_far (p := ⟨gb557, 1, none⟩) (Kd.R_far (p := ⟨gb557, 0, none⟩) (Kd.R_types HO546.out BK557.out (by decide)) (fun _ hk => hk.2) (.slice Ao15 t544.length co15)) (fun _ hk => hk.2) (.slice Ao17 t547.length co17)) (fun _ hk => hk.2) (.slice Ao18 t550.length co18)) (fun _ hk => hk.2) (.slice Ao19 t553.length co19)) (fun _ hk => trivial), by repeat (first | (with_reducible first | exact HB.out | apply below_alloc | apply pw_below_drewN | apply below_drew1 | refine below_set ?_ GE557.out) | exact HB.out)⟩
        · rw [if_neg c10] at H
          clear c10
          by_cases c20 : a1 = 1
          · rw [if_pos c20] at H
            subst c20
            simp only [Option.some.injEq, Prod.mk.injEq] at H
            obtain ⟨rfl, rfl⟩ := H
            go_enter Tryd.func21, Tryd.ntmps21
            go_wp2_with (first | ((with_reducible refine gate_callee (f := 28) rfl ?_); refine goesL_ (some 11) rfl rfl Tryd.func28 (by kernel_rfl) rfl #[.slice A0 l0.length c0] rfl (by (try simp only [List.map_toArray, List.map_cons, List.map_nil]); first | done | rfl | (simp only [List.length_drop, List.length_take]; rfl)) ?_; (with_reducible refine (conv_Code.calls k _ _ l0 t540 t541 _ ?side1 ?side2 A3.out).mono ?_); (case side1 => repeat (first | exact HR0.out | (with_reducible refine Kd.C_alloc ?_ _) | (with_reducible refine Kd.C_drewN ?_ _) | (with_reducible refine Kd.C_drew ?_))); (case side2 => exact HC0.out); rintro e w21 ⟨v542, rfl, ho0, hb⟩; refine ⟨_, rfl, ?_⟩; have n0_ := Aside0.mk (Kd.R_lower ho0 (below_size (by repeat (first | (with_reducible first | exact HB.out | apply below_alloc | apply pw_below_drewN | apply below_drew1) | exact HB.out)))); have n1_ := Aside0.mk (below_step (by repeat (first | (with_reducible first | exact HB.out | apply below_alloc | apply pw_below_drewN | apply below_drew1) | exact HB.out)) hb); clear HB; have HO543 := n0_; have HB := n1_; clear n0_ n1_; (try clear hb); (try clear hb2); (try clear hk); (try clear hi); (try clear ho0); obtain ⟨Ao22, co22, eo22⟩ := Kd.R_slice HO543.out; subst eo22) | ((with_reducible refine gate_callee (f := 36) rfl ?_); refine goesL_ (some 25) rfl rfl Tryd.func36 (by kernel_rfl) rfl #[.slice Ao22 t540.length co22] rfl (by (try simp only [List.map_toArray, List.map_cons, List.map_nil]); first | done | rfl | (simp only [List.length_drop, List.length_take]; rfl)) ?_; (with_reducible refine (version_Split.calls k _ _ t540 t544 t547 t550 t553 t556 _ ?side1 ?side2 A9.out).mono ?_); (case side1 => repeat (first | exact (Kd.R_reads' HO543.out).2.2 | (with_reducible refine Kd.C_alloc ?_ _) | (with_reducible refine Kd.C_drewN ?_ _) | (with_reducible refine Kd.C_drew ?_))); (case side2 => exact (Kd.R_reads' HO543.out).2.1); rintro e w23 ⟨v545, v548, v551, v554, rfl, ho0, ho1, ho2, ho3, hb⟩; refine ⟨_, rfl, ?_⟩; have n0_ := Aside0.mk (Kd.R_mono (Kd.R_told (Kd.R_told (Kd.R_told (Kd.R_told (Kd.R_old (by (with_reducible repeat (first | apply Kd.R_alloc | apply Kd.R_drewN | apply Kd.R_drew)); exact HO543.out) hb) (Kd.R_base ho0)) (Kd.R_base ho1)) (Kd.R_base ho2)) (Kd.R_base ho3)) (fun _ h_ => h_.1)); have n1_ := Aside0.mk (Kd.R_lower (Kd.R_new' ho0 (Kd.R_lt (by (with_reducible repeat (first | apply Kd.R_alloc | apply Kd.R_drewN | apply Kd.R_drew)); exact HO543.out))) (below_size (by repeat (first | (with_reducible first | exact HB.out | apply below_alloc | apply pw_below_drewN | apply below_drew1) | exact HB.out)))); have n2_ := Aside0.mk (Kd.R_lower (Kd.R_new' ho1 (Kd.R_lt (by (with_reducible repeat (first | apply Kd.R_alloc | apply Kd.R_drewN | apply Kd.R_drew)); exact HO543.out))) (below_size (by repeat (first | (with_reducible first | exact HB.out | apply below_alloc | apply pw_below_drewN | apply below_drew1) | exact HB.out)))); have n3_ := Aside0.mk (Kd.R_lower (Kd.R_new' ho2 (Kd.R_lt (by (with_reducible repeat (first | apply Kd.R_alloc | apply Kd.R_drewN | apply Kd.R_drew)); exact HO543.out))) (below_size (by repeat (first | (with_reducible first | exact HB.out | apply below_alloc | apply pw_below_drewN | apply below_drew1) | exact HB.out)))); have n4_ := Aside0.mk (Kd.R_lower (Kd.R_new' ho3 (Kd.R_lt (by (with_reducible repeat (first | apply Kd.R_alloc | apply Kd.R_drewN | apply Kd.R_drew)); exact HO543.out))) (below_size (by repeat (first | (with_reducible first | exact HB.out | apply below_alloc | apply pw_below_drewN | apply below_drew1) | exact HB.out)))); have n5_ := Aside0.mk (below_step (by repeat (first | (with_reducible first | exact HB.out | apply below_alloc | apply pw_below_drewN | apply below_drew1) | exact HB.out)) hb); clear HO543; clear HB; have HO543 := n0_; have HO546 := n1_; have HO549 := n2_; have HO552 := n3_; have HO555 := n4_; have HB := n5_; clear n0_ n1_ n2_ n3_ n4_ n5_; (try clear hb); (try clear hb2); (try clear hk); (try clear hi); (try clear ho0); (try clear ho1); (try clear ho2); (try clear ho3)) | ((with_reducible refine gate_dst (N := 8) rfl ?_); refine box_event ?hg (N := 8) ?hd (cs := #[.slice none 0 0, .slice none 0 0, .slice none 0 0, .slice none 0 0]) (t := 63) ?hr ?_; (case hd => rfl); (case hg => rfl); (case hr => first | (go_simp; done) | (go_simp; rfl)); intro gb557 hg w24 hbox hb; have n0_ := Aside0.mk (Kd.R_below (by (with_reducible repeat (first | apply Kd.R_alloc | apply Kd.R_drewN | apply Kd.R_drew)); exact HO543.out) hb); have n1_ := Aside0.mk (Kd.R_below (by (with_reducible repeat (first | apply Kd.R_alloc | apply Kd.R_drewN | apply Kd.R_drew)); exact HO546.out) hb); have n2_ := Aside0.mk (Kd.R_below (by (with_reducible repeat (first | apply Kd.R_alloc | apply Kd.R_drewN | apply Kd.R_drew)); exact HO549.out) hb); have n3_ := Aside0.mk (Kd.R_below (by (with_reducible repeat (first | apply Kd.R_alloc | apply Kd.R_drewN | apply Kd.R_drew)); exact HO552.out) hb); have n4_ := Aside0.mk (Kd.R_below (by (with_reducible repeat (first | apply Kd.R_alloc | apply Kd.R_drewN | apply Kd.R_drew)); exact HO555.out) hb); have n5_ := Aside0.mk (below_step (by repeat (first | (with_reducible first | exact HB.out | apply below_alloc | apply pw_below_drewN | apply below_drew1) | exact HB.out)) hb); have n6_ := Aside0.mk (hbox); have n7_ := Aside0.mk ((by rw [hg]; exact (below_size (by repeat (first | (with_reducible first | exact HB.out | apply below_alloc | apply pw_below_drewN | apply below_drew1) | exact HB.out))) : w.heap.size ≤ gb557)); have n8_ := Aside0.mk ((by rw [hg]; exact (below_size (by repeat (first | (with_reducible first | exact HB.out | apply below_alloc | apply pw_below_drewN | apply below_drew1) | exact HB.out))) : w.heap.size ≤ gb557)); clear HO543; clear HO546; clear HO549; clear HO552; clear HO555; clear HB; have HO543 := n0_; have HO546 := n1_; have HO549 := n2_; have HO552 := n3_; have HO555 := n4_; have HB := n5_; have BK557 := n6_; have GW557 := n7_; have GE557 := n8_; clear n0_ n1_ n2_ n3_ n4_ n5_ n6_ n7_ n8_; clear hb hbox hg; obtain ⟨Ao25, co25, eo25⟩ := Kd.R_slice HO546.out; subst eo25; have hcz26_0 : w24.cell? ⟨gb557, 0, none⟩ = some (.slice none 0 0) := (blk_cell BK557.out 0).trans rfl; have hcz26_1 : w24.cell? ⟨gb557, 1, none⟩ = some (.slice none 0 0) := (blk_cell BK557.out 1).trans rfl; have hcz26_2 : w24.cell? ⟨gb557, 2, none⟩ = some (.slice none 0 0) := (blk_cell BK557.out 2).trans rfl; have hcz26_3 : w24.cell? ⟨gb557, 3, none⟩ = some (.slice none 0 0) := (blk_cell BK557.out 3).trans rfl; have hfz26_0 := blk_frozen BK557.out 0; have hfz26_1 := blk_frozen BK557.out 1; have hfz26_2 := blk_frozen BK557.out 2; have hfz26_3 := blk_frozen BK557.out 3; obtain ⟨Ao27, co27, eo27⟩ := Kd.R_slice HO549.out; subst eo27; obtain ⟨Ao28, co28, eo28⟩ := Kd.R_slice HO552.out; subst eo28; obtain ⟨Ao29, co29, eo29⟩ := Kd.R_slice HO555.out; subst eo29))
            go_ret2
            exact ⟨_, by first | rfl | (simp [errW_none, errW_some] <;> rfl) | (simp [*, errW_none, errW_some] <;> rfl), by (with_reducible repeat (first | apply Kd.R_alloc | apply Kd.R_drewN | apply Kd.R_drew)); exact Kd.R_mono (Kd.R_far (p := ⟨gb557, 3, none⟩) (Kd.R_far (p := ⟨gb557, 2, none⟩) (Kd.R_far (p := ⟨gb557, 1, none⟩) (Kd.R_far (p := ⟨gb557, 0, none⟩) (Kd.R_types HO549.out BK557.out (by decide)) (fun _ hk => hk.2) (.slice Ao25 t544.length co25)) (fun _ hk => hk.2) (.slice Ao27 t547.length co27)) (fun _ hk => hk.2) (.slice Ao28 t550.length co28)) (fun _ hk => hk.2) (.slice Ao29 t553.length co29)) (fun _ hk => trivial), by repeat (first | (with_reducible first | exact HB.out | apply below_alloc | apply pw_below_drewN | apply below_drew1 | refine below_set ?_ GE557.out) | exact HB.out)⟩
          · rw [if_neg c20] at H
            clear c20
            by_cases c30 : a1 = 2
            · rw [if_pos c30] at H
              subst c30
              simp only [Option.some.injEq, Prod.mk.injEq] at H
              obtain ⟨rfl, rfl⟩ := H
              go_enter Tryd.func21, Tryd.ntmps21
              go_wp2_with (first | ((with_reducible refine gate_callee (f := 28) rfl ?_); refine goesL_ (some 11) rfl rfl Tryd.func28 (by kernel_rfl) rfl #[.slice A0 l0.length c0] rfl (by (try simp only [List.map_toArray, List.map_cons, List.map_nil]); first | done | rfl | (simp only [List.length_drop, List.length_take]; rfl)) ?_; (with_reducible refine (conv_Code.calls k _ _ l0 t540 t541 _ ?side1 ?side2 A3.out).mono ?_); (case side1 => repeat (first | exact HR0.out | (with_reducible refine Kd.C_alloc ?_ _) | (with_reducible refine Kd.C_drewN ?_ _) | (with_reducible refine Kd.C_drew ?_))); (case side2 => exact HC0.out); rintro e w31 ⟨v542, rfl, ho0, hb⟩; refine ⟨_, rfl, ?_⟩; have n0_ := Aside0.mk (Kd.R_lower ho0 (below_size (by repeat (first | (with_reducible first | exact HB.out | apply below_alloc | apply pw_below_drewN | apply below_drew1) | exact HB.out)))); have n1_ := Aside0.mk (below_step (by repeat (first | (with_reducible first | exact HB.out | apply below_alloc | apply pw_below_drewN | apply below_drew1) | exact HB.out)) hb); clear HB; have HO543 := n0_; have HB := n1_; clear n0_ n1_; (try clear hb); (try clear hb2); (try clear hk); (try clear hi); (try clear ho0); obtain ⟨Ao32, co32, eo32⟩ := Kd.R_slice HO543.out; subst eo32) | ((with_reducible refine gate_callee (f := 36) rfl ?_); refine goesL_ (some 25) rfl rfl Tryd.func36 (by kernel_rfl) rfl #[.slice Ao32 t540.length co32] rfl (by (try simp only [List.map_toArray, List.map_cons, List.map_nil]); first | done | rfl | (simp only [List.length_drop, List.length_take]; rfl)) ?_; (with_reducible refine (version_Split.calls k _ _ t540 t544 t547 t550 t553 t556 _ ?side1 ?side2 A9.out).mono ?_); (case side1 => repeat (first | exact (Kd.R_reads' HO543.out).2.2 | (with_reducible refine Kd.C_alloc ?_ _) | (with_reducible refine Kd.C_drewN ?_ _) | (with_reducible refine Kd.C_drew ?_))); (case side2 => exact (Kd.R_reads' HO543.out).2.1); rintro e w33 ⟨v545, v548, v551, v554, rfl, ho0, ho1, ho2, ho3, hb⟩; refine ⟨_, rfl, ?_⟩; have n0_ := Aside0.mk (Kd.R_mono (Kd.R_told (Kd.R_told (Kd.R_told (Kd.R_told (Kd.R_old (by (with_reducible repeat (first | apply Kd.R_alloc | apply Kd.R_drewN | apply Kd.R_drew)); exact HO543.out) hb) (Kd.R_base ho0)) (Kd.R_base ho1)) (Kd.R_base ho2)) (Kd.R_base ho3)) (fun _ h_ => h_.1)); have n1_ := Aside0.mk (Kd.R_lower (Kd.R_new' ho0 (Kd.R_lt (by (with_reducible repeat (first | apply Kd.R_alloc | apply Kd.R_drewN | apply Kd.R_drew)); exact HO543.out))) (below_size (by repeat (first | (with_reducible first | exact HB.out | apply below_alloc | apply pw_below_drewN | apply below_drew1) | exact HB.out)))); have n2_ := Aside0.mk (Kd.R_lower (Kd.R_new' ho1 (Kd.R_lt (by (with_reducible repeat (first | apply Kd.R_alloc | apply Kd.R_drewN | apply Kd.R_drew)); exact HO543.out))) (below_size (by repeat (first | (with_reducible first | exact HB.out | apply below_alloc | apply pw_below_drewN | apply below_drew1) | exact HB.out)))); have n3_ := Aside0.mk (Kd.R_lower (Kd.R_new' ho2 (Kd.R_lt (by (with_reducible repeat (first | apply Kd.R_alloc | apply Kd.R_drewN | apply Kd.R_drew)); exact HO543.out))) (below_size (by repeat (first | (with_reducible first | exact HB.out | apply below_alloc | apply pw_below_drewN | apply below_drew1) | exact HB.out)))); have n4_ := Aside0.mk (Kd.R_lower (Kd.R_new' ho3 (Kd.R_lt (by (with_reducible repeat (first | apply Kd.R_alloc | apply Kd.R_drewN | apply Kd.R_drew)); exact HO543.out))) (below_size (by repeat (first | (with_reducible first | exact HB.out | apply below_alloc | apply pw_below_drewN | apply below_drew1) | exact HB.out)))); have n5_ := Aside0.mk (below_step (by repeat (first | (with_reducible first | exact HB.out | apply below_alloc | apply pw_below_drewN | apply below_drew1) | exact HB.out)) hb); clear HO543; clear HB; have HO543 := n0_; have HO546 := n1_; have HO549 := n2_; have HO552 := n3_; have HO555 := n4_; have HB := n5_; clear n0_ n1_ n2_ n3_ n4_ n5_; (try clear hb); (try clear hb2); (try clear hk); (try clear hi); (try clear ho0); (try clear ho1); (try clear ho2); (try clear ho3)) | ((with_reducible refine gate_dst (N := 8) rfl ?_); refine box_event ?hg (N := 8) ?hd (cs := #[.slice none 0 0, .slice none 0 0, .slice none 0 0, .slice none 0 0]) (t := 63) ?hr ?_; (case hd => rfl); (case hg => rfl); (case hr => first | (go_simp; done) | (go_simp; rfl)); intro gb557 hg w34 hbox hb; have n0_ := Aside0.mk (Kd.R_below (by (with_reducible repeat (first | apply Kd.R_alloc | apply Kd.R_drewN | apply Kd.R_drew)); exact HO543.out) hb); have n1_ := Aside0.mk (Kd.R_below (by (with_reducible repeat (first | apply Kd.R_alloc | apply Kd.R_drewN | apply Kd.R_drew)); exact HO546.out) hb); have n2_ := Aside0.mk (Kd.R_below (by (with_reducible repeat (first | apply Kd.R_alloc | apply Kd.R_drewN | apply Kd.R_drew)); exact HO549.out) hb); have n3_ := Aside0.mk (Kd.R_below (by (with_reducible repeat (first | apply Kd.R_alloc | apply Kd.R_drewN | apply Kd.R_drew)); exact HO552.out) hb); have n4_ := Aside0.mk (Kd.R_below (by (with_reducible repeat (first | apply Kd.R_alloc | apply Kd.R_drewN | apply Kd.R_drew)); exact HO555.out) hb); have n5_ := Aside0.mk (below_step (by repeat (first | (with_reducible first | exact HB.out | apply below_alloc | apply pw_below_drewN | apply below_drew1) | exact HB.out)) hb); have n6_ := Aside0.mk (hbox); have n7_ := Aside0.mk ((by rw [hg]; exact (below_size (by repeat (first | (with_reducible first | exact HB.out | apply below_alloc | apply pw_below_drewN | apply below_drew1) | exact HB.out))) : w.heap.size ≤ gb557)); have n8_ := Aside0.mk ((by rw [hg]; exact (below_size (by repeat (first | (with_reducible first | exact HB.out | apply below_alloc | apply pw_below_drewN | apply below_drew1) | exact HB.out))) : w.heap.size ≤ gb557)); clear HO543; clear HO546; clear HO549; clear HO552; clear HO555; clear HB; have HO543 := n0_; have HO546 := n1_; have HO549 := n2_; have HO552 := n3_; have HO555 := n4_; have HB := n5_; have BK557 := n6_; have GW557 := n7_; have GE557 := n8_; clear n0_ n1_ n2_ n3_ n4_ n5_ n6_ n7_ n8_; clear hb hbox hg; obtain ⟨Ao35, co35, eo35⟩ := Kd.R_slice HO546.out; subst eo35; have hcz36_0 : w34.cell? ⟨gb557, 0, none⟩ = some (.slice none 0 0) := (blk_cell BK557.out 0).trans rfl; have hcz36_1 : w34.cell? ⟨gb557, 1, none⟩ = some (.slice none 0 0) := (blk_cell BK557.out 1).trans rfl; have hcz36_2 : w34.cell? ⟨gb557, 2, none⟩ = some (.slice none 0 0) := (blk_cell BK557.out 2).trans rfl; have hcz36_3 : w34.cell? ⟨gb557, 3, none⟩ = some (.slice none 0 0) := (blk_cell BK557.out 3).trans rfl; have hfz36_0 := blk_frozen BK557.out 0; have hfz36_1 := blk_frozen BK557.out 1; have hfz36_2 := blk_frozen BK557.out 2; have hfz36_3 := blk_frozen BK557.out 3; obtain ⟨Ao37, co37, eo37⟩ := Kd.R_slice HO549.out; subst eo37; obtain ⟨Ao38, co38, eo38⟩ := Kd.R_slice HO552.out; subst eo38; obtain ⟨Ao39, co39, eo39⟩ := Kd.R_slice HO555.out; subst eo39))
              go_ret2
              exact ⟨_, by first | rfl | (simp [errW_none, errW_some] <;> rfl) | (simp [*, errW_none, errW_some] <;> rfl), by (with_reducible repeat (first | apply Kd.R_alloc | apply Kd.R_drewN | apply Kd.R_drew)); exact Kd.R_mono (Kd.R_far (p := ⟨gb557, 3, none⟩) (Kd.R_far (p := ⟨gb557, 2, none⟩) (Kd.R_far (p := ⟨gb557, 1, none⟩) (Kd.R_far (p := ⟨gb557, 0, none⟩) (Kd.R_types HO552.out BK557.out (by decide)) (fun _ hk => hk.2) (.slice Ao35 t544.length co35)) (fun _ hk => hk.2) (.slice Ao37 t547.length co37)) (fun _ hk => hk.2) (.slice Ao38 t550.length co38)) (fun _ hk => hk.2) (.slice Ao39 t553.length co39)) (fun _ hk => trivial), by repeat (first | (with_reducible first | exact HB.out | apply below_alloc | apply pw_below_drewN | apply below_drew1 | refine below_set ?_ GE557.out) | exact HB.out)⟩
            · rw [if_neg c30] at H
              clear c30
              by_cases c40 : a1 = 3
              · rw [if_pos c40] at H
                subst c40
                simp only [Option.some.injEq, Prod.mk.injEq] at H
                obtain ⟨rfl, rfl⟩ := H
                go_enter Tryd.func21, Tryd.ntmps21
                go_wp2_with (first | ((with_reducible refine gate_callee (f := 28) rfl ?_); refine goesL_ (some 11) rfl rfl Tryd.func28 (by kernel_rfl) rfl #[.slice A0 l0.length c0] rfl (by (try simp only [List.map_toArray, List.map_cons, List.map_nil]); first | done | rfl | (simp only [List.length_drop, List.length_take]; rfl)) ?_; (with_reducible refine (conv_Code.calls k _ _ l0 t540 t541 _ ?side1 ?side2 A3.out).mono ?_); (case side1 => repeat (first | exact HR0.out | (with_reducible refine Kd.C_alloc ?_ _) | (with_reducible refine Kd.C_drewN ?_ _) | (with_reducible refine Kd.C_drew ?_))); (case side2 => exact HC0.out); rintro e w41 ⟨v542, rfl, ho0, hb⟩; refine ⟨_, rfl, ?_⟩; have n0_ := Aside0.mk (Kd.R_lower ho0 (below_size (by repeat (first | (with_reducible first | exact HB.out | apply below_alloc | apply pw_below_drewN | apply below_drew1) | exact HB.out)))); have n1_ := Aside0.mk (below_step (by repeat (first | (with_reducible first | exact HB.out | apply below_alloc | apply pw_below_drewN | apply below_drew1) | exact HB.out)) hb); clear HB; have HO543 := n0_; have HB := n1_; clear n0_ n1_; (try clear hb); (try clear hb2); (try clear hk); (try clear hi); (try clear ho0); obtain ⟨Ao42, co42, eo42⟩ := Kd.R_slice HO543.out; subst eo42) | ((with_reducible refine gate_callee (f := 36) rfl ?_); refine goesL_ (some 25) rfl rfl Tryd.func36 (by kernel_rfl) rfl #[.slice Ao42 t540.length co42] rfl (by (try simp only [List.map_toArray, List.map_cons, List.map_nil]); first | done | rfl | (simp only [List.length_drop, List.length_take]; rfl)) ?_; (with_reducible refine (version_Split.calls k _ _ t540 t544 t547 t550 t553 t556 _ ?side1 ?side2 A9.out).mono ?_); (case side1 => repeat (first | exact (Kd.R_reads' HO543.out).2.2 | (with_reducible refine Kd.C_alloc ?_ _) | (with_reducible refine Kd.C_drewN ?_ _) | (with_reducible refine Kd.C_drew ?_))); (case side2 => exact (Kd.R_reads' HO543.out).2.1); rintro e w43 ⟨v545, v548, v551, v554, rfl, ho0, ho1, ho2, ho3, hb⟩; refine ⟨_, rfl, ?_⟩; have n0_ := Aside0.mk (Kd.R_mono (Kd.R_told (Kd.R_told (Kd.R_told (Kd.R_told (Kd.R_old (by (with_reducible repeat (first | apply Kd.R_alloc | apply Kd.R_drewN | apply Kd.R_drew)); exact HO543.out) hb) (Kd.R_base ho0)) (Kd.R_base ho1)) (Kd.R_base ho2)) (Kd.R_base ho3)) (fun _ h_ => h_.1)); have n1_ := Aside0.mk (Kd.R_lower (Kd.R_new' ho0 (Kd.R_lt (by (with_reducible repeat (first | apply Kd.R_alloc | apply Kd.R_drewN | apply Kd.R_drew)); exact HO543.out))) (below_size (by repeat (first | (with_reducible first | exact HB.out | apply below_alloc | apply pw_below_drewN | apply below_drew1) | exact HB.out)))); have n2_ := Aside0.mk (Kd.R_lower (Kd.R_new' ho1 (Kd.R_lt (by (with_reducible repeat (first | apply Kd.R_alloc | apply Kd.R_drewN | apply Kd.R_drew)); exact HO543.out))) (below_size (by repeat (first | (with_reducible first | exact HB.out | apply below_alloc | apply pw_below_drewN | apply below_drew1) | exact HB.out)))); have n3_ := Aside0.mk (Kd.R_lower (Kd.R_new' ho2 (Kd.R_lt (by (with_reducible repeat (first | apply Kd.R_alloc | apply Kd.R_drewN | apply Kd.R_drew)); exact HO543.out))) (below_size (by repeat (first | (with_reducible first | exact HB.out | apply below_alloc | apply pw_below_drewN | apply below_drew1) | exact HB.out)))); have n4_ := Aside0.mk (Kd.R_lower (Kd.R_new' ho3 (Kd.R_lt (by (with_reducible repeat (first | apply Kd.R_alloc | apply Kd.R_drewN | apply Kd.R_drew)); exact HO543.out))) (below_size (by repeat (first | (with_reducible first | exact HB.out | apply below_alloc | apply pw_below_drewN | apply below_drew1) | exact HB.out)))); have n5_ := Aside0.mk (below_step (by repeat (first | (with_reducible first | exact HB.out | apply below_alloc | apply pw_below_drewN | apply below_drew1) | exact HB.out)) hb); clear HO543; clear HB; have HO543 := n0_; have HO546 := n1_; have HO549 := n2_; have HO552 := n3_; have HO555 := n4_; have HB := n5_; clear n0_ n1_ n2_ n3_ n4_ n5_; (try clear hb); (try clear hb2); (try clear hk); (try clear hi); (try clear ho0); (try clear ho1); (try clear ho2); (try clear ho3)) | ((with_reducible refine gate_dst (N := 8) rfl ?_); refine box_event ?hg (N := 8) ?hd (cs := #[.slice none 0 0, .slice none 0 0, .slice none 0 0, .slice none 0 0]) (t := 63) ?hr ?_; (case hd => rfl); (case hg => rfl); (case hr => first | (go_simp; done) | (go_simp; rfl)); intro gb557 hg w44 hbox hb; have n0_ := Aside0.mk (Kd.R_below (by (with_reducible repeat (first | apply Kd.R_alloc | apply Kd.R_drewN | apply Kd.R_drew)); exact HO543.out) hb); have n1_ := Aside0.mk (Kd.R_below (by (with_reducible repeat (first | apply Kd.R_alloc | apply Kd.R_drewN | apply Kd.R_drew)); exact HO546.out) hb); have n2_ := Aside0.mk (Kd.R_below (by (with_reducible repeat (first | apply Kd.R_alloc | apply Kd.R_drewN | apply Kd.R_drew)); exact HO549.out) hb); have n3_ := Aside0.mk (Kd.R_below (by (with_reducible repeat (first | apply Kd.R_alloc | apply Kd.R_drewN | apply Kd.R_drew)); exact HO552.out) hb); have n4_ := Aside0.mk (Kd.R_below (by (with_reducible repeat (first | apply Kd.R_alloc | apply Kd.R_drewN | apply Kd.R_drew)); exact HO555.out) hb); have n5_ := Aside0.mk (below_step (by repeat (first | (with_reducible first | exact HB.out | apply below_alloc | apply pw_below_drewN | apply below_drew1) | exact HB.out)) hb); have n6_ := Aside0.mk (hbox); have n7_ := Aside0.mk ((by rw [hg]; exact (below_size (by repeat (first | (with_reducible first | exact HB.out | apply below_alloc | apply pw_below_drewN | apply below_drew1) | exact HB.out))) : w.heap.size ≤ gb557)); have n8_ := Aside0.mk ((by rw [hg]; exact (below_size (by repeat (first | (with_reducible first | exact HB.out | apply below_alloc | apply pw_below_drewN | apply below_drew1) | exact HB.out))) : w.heap.size ≤ gb557)); clear HO543; clear HO546; clear HO549; clear HO552; clear HO555; clear HB; have HO543 := n0_; have HO546 := n1_; have HO549 := n2_; have HO552 := n3_; have HO555 := n4_; have HB := n5_; have BK557 := n6_; have GW557 := n7_; have GE557 := n8_; clear n0_ n1_ n2_ n3_ n4_ n5_ n6_ n7_ n8_; clear hb hbox hg; obtain ⟨Ao45, co45, eo45⟩ := Kd.R_slice HO546.out; subst eo45; have hcz46_0 : w44.cell? ⟨gb557, 0, none⟩ = some (.slice none 0 0) := (blk_cell BK557.out 0).trans rfl; have hcz46_1 : w44.cell? ⟨gb557, 1, none⟩ = some (.slice none 0 0) := (blk_cell BK557.out 1).trans rfl; have hcz46_2 : w44.cell? ⟨gb557, 2, none⟩ = some (.slice none 0 0) := (blk_cell BK557.out 2).trans rfl; have hcz46_3 : w44.cell? ⟨gb557, 3, none⟩ = some (.slice none 0 0) := (blk_cell BK557.out 3).trans rfl; have hfz46_0 := blk_frozen BK557.out 0; have hfz46_1 := blk_frozen BK557.out 1; have hfz46_2 := blk_frozen BK557.out 2; have hfz46_3 := blk_frozen BK557.out 3; obtain ⟨Ao47, co47, eo47⟩ := Kd.R_slice HO549.out; subst eo47; obtain ⟨Ao48, co48, eo48⟩ := Kd.R_slice HO552.out; subst eo48; obtain ⟨Ao49, co49, eo49⟩ := Kd.R_slice HO555.out; subst eo49))
                go_ret2
                exact ⟨_, by first | rfl | (simp [errW_none, errW_some] <;> rfl) | (simp [*, errW_none, errW_some] <;> rfl), by (with_reducible repeat (first | apply Kd.R_alloc | apply Kd.R_drewN | apply Kd.R_drew)); exact Kd.R_mono (Kd.R_far (p := ⟨gb557, 3, none⟩) (Kd.R_far (p := ⟨gb557, 2, none⟩) (Kd.R_far (p := ⟨gb557, 1, none⟩) (Kd.R_far (p := ⟨gb557, 0, none⟩) (Kd.R_types HO555.out BK557.out (by decide)) (fun _ hk => hk.2) (.slice Ao45 t544.length co45)) (fun _ hk => hk.2) (.slice Ao47 t547.length co47)) (fun _ hk => hk.2) (.slice Ao48 t550.length co48)) (fun _ hk => hk.2) (.slice Ao49 t553.length co49)) (fun _ hk => trivial), by repeat (first | (with_reducible first | exact HB.out | apply below_alloc | apply pw_below_drewN | apply below_drew1 | refine below_set ?_ GE557.out) | exact HB.out)⟩
              · rw [if_neg c40] at H
                clear c40
                exact absurd H (by simp)
  · rw [if_neg c4] at H
    have c4b0 : (t541 == 0) = false := beq_eq_false_iff_ne.mpr c4
    have c4b1 : (t541 != 0) = true := bne_iff_ne.mpr c4
    simp only [Option.some.injEq, Prod.mk.injEq] at H
    obtain ⟨rfl, rfl⟩ := H
    go_enter Tryd.func21, Tryd.ntmps21
    go_wp2_with (first | ((with_reducible refine gate_callee (f := 28) rfl ?_); refine goesL_ (some 11) rfl rfl Tryd.func28 (by kernel_rfl) rfl #[.slice A0 l0.length c0] rfl (by (try simp only [List.map_toArray, List.map_cons, List.map_nil]); first | done | rfl | (simp only [List.length_drop, List.length_take]; rfl)) ?_; (with_reducible refine (conv_Code.calls k _ _ l0 t540 t541 _ ?side1 ?side2 A3.out).mono ?_); (case side1 => repeat (first | exact HR0.out | (with_reducible refine Kd.C_alloc ?_ _) | (with_reducible refine Kd.C_drewN ?_ _) | (with_reducible refine Kd.C_drew ?_))); (case side2 => exact HC0.out); rintro e w50 ⟨v542, rfl, ho0, hb⟩; refine ⟨_, rfl, ?_⟩; have n0_ := Aside0.mk (Kd.R_lower ho0 (below_size (by repeat (first | (with_reducible first | exact HB.out | apply below_alloc | apply pw_below_drewN | apply below_drew1) | exact HB.out)))); have n1_ := Aside0.mk (below_step (by repeat (first | (with_reducible first | exact HB.out | apply below_alloc | apply pw_below_drewN | apply below_drew1) | exact HB.out)) hb); clear HB; have HO543 := n0_; have HB := n1_; clear n0_ n1_; (try clear hb); (try clear hb2); (try clear hk); (try clear hi); (try clear ho0)))
    go_ret2
    exact ⟨_, by first | rfl | (simp [errW_none, errW_some] <;> rfl) | (simp [*, errW_none, errW_some] <;> rfl), by first | exact Kd.R_nil _ _ _ _ _ | exact Kd.N_nil _ _ _ _ _ | exact Kd.V_nil _ _ _ _ _ | exact Kd.Q_nil _ _ _ _ _ | exact Kd.S_nil _ _ _ _ _, by repeat (first | (with_reducible first | exact HB.out | apply below_alloc | apply pw_below_drewN | apply below_drew1) | exact HB.out)⟩

end Go.Proofs.YtmajbcglpcagoaaDoor.X

-- YtmajbcglpcagoaaDoorX43
namespace Go.Proofs.YtmajbcglpcagoaaDoor.X
open Go.RowKit Go.Proofs.YtmajbcglpcagoaaDoorW.PrintWords Go.Proofs.YtmajbcglpcagoaaDoorW.PrintLast Go.Proofs.YtmajbcglpcagoaaDoorW.PrintMore
attribute [local go_sem] max2_int min2_int max_two min_two max_three min_three max_four min_four   -- for this text's walks alone
set_option linter.unusedVariables false
set_option linter.unusedSimpArgs false

/-! ### shuttleref10_Stream: function 37 -/
def shuttleref10_Stream.f (a0 : Int) (a1 : Int) : Option (Int) := some (Int.tmod (wrap64 (a0 + (Int.tmod a1 4))) 4)
set_option maxHeartbeats 8000000 in
set_option maxRecDepth 100000 in
theorem shuttleref10_Stream.calls (a0 : Int) (a1 : Int) (r : Int) (w : World) (h : shuttleref10_Stream.f a0 a1 = some r) :
    Calls Tryd.prog 37 #[.int .i64 a0, .int .i64 a1] w fun e w' => e = .returned (.int .i64 r) ∧ Drawn0 w w' := by
  have H : (some (Int.tmod (wrap64 (a0 + (Int.tmod a1 4))) 4)) = some r := h
  clear h
  obtain rfl := Option.some.inj H
  go_enter Tryd.func37, Tryd.ntmps37
  go_wp2
  go_ret
  exact ⟨by first | rfl | (simp; done) | (simp [*]; done), by repeat (first | exact Drawn0.refl _ | apply Drawn0.step)⟩

end Go.Proofs.YtmajbcglpcagoaaDoor.X

-- YtmajbcglpcagoaaDoorX47
namespace Go.Proofs.YtmajbcglpcagoaaDoor.X
open Go.RowKit Go.Proofs.YtmajbcglpcagoaaDoorW.PrintWords Go.Proofs.YtmajbcglpcagoaaDoorW.PrintLast Go.Proofs.YtmajbcglpcagoaaDoorW.PrintMore
attribute [local go_sem] max2_int min2_int max_two min_two max_three min_three max_four min_four   -- for this text's walks alone
set_option linter.unusedVariables false
set_option linter.unusedSimpArgs false

/-! ### shuttleref10_Pick: function 22 -/
def shuttleref10_Pick.l0 : Nat → List Int → Int → List Int → Int → Option (List Int)
  | 0, _, _, _, _ => none
  | k + 1, x0, x1, x5, x6 => if (wrap64 (4 * x6)) < (x0.length : Int) then ((shuttleref10_Stream.f x1 x6).bind fun t558 => (if 0 ≤ (wrap64 ((wrap64 (4 * x6)) + t558)) then (if (wrap64 ((wrap64 (4 * x6)) + t558)) < (x0.length : Int) then (if x5.length < 140737488355328 then (shuttleref10_Pick.l0 k x0 x1 (x5 ++ [rd x0 (wrap64 ((wrap64 (4 * x6)) + t558))]) (wrap64 (x6 + 1))) else (none)) else (none)) else (none))) else (some x5)
def shuttleref10_Pick.f (k : Nat) (l0 : List Int) (a1 : Int) : Option (List Int) := shuttleref10_Pick.l0 k l0 a1 ([] : List Int) 0
theorem shuttleref10_Pick.mono_l : ∀ k, (∀ y0 y1 y2 y3, LeO (shuttleref10_Pick.l0 k y0 y1 y2 y3) (shuttleref10_Pick.l0 (k + 1) y0 y1 y2 y3))
  | 0 => fun _ _ _ _ r h => by simp [shuttleref10_Pick.l0] at h
  | k + 1 => by
    have ih0 := shuttleref10_Pick.mono_l k
    · intro y0 y1 y2 y3
      unfold shuttleref10_Pick.l0
      repeat' first
      | (with_reducible exact ih0 _ _ _ _)
      | (with_reducible exact LeO.refl _)
      | (with_reducible exact LeO.none _)
      | (with_reducible refine LeO.ite ?_ ?_)
      | (with_reducible refine LeO.bind ?_ (fun _ => ?_))
      | exact ih0 _ _ _ _
      | exact LeO.none _
      | refine LeO.ite ?_ ?_
      | refine LeO.bind ?_ (fun _ => ?_)
theorem shuttleref10_Pick.mono : ∀ a0 a1 k, LeO (shuttleref10_Pick.f k a0 a1) (shuttleref10_Pick.f (k + 1) a0 a1) := by
  intro a0 a1 k
  have ih0 := shuttleref10_Pick.mono_l k
  unfold shuttleref10_Pick.f
  repeat' first
      | (with_reducible exact ih0 _ _ _ _)
      | (with_reducible exact LeO.refl _)
      | (with_reducible exact LeO.none _)
      | (with_reducible refine LeO.ite ?_ ?_)
      | (with_reducible refine LeO.bind ?_ (fun _ => ?_))
      | exact ih0 _ _ _ _
      | exact LeO.none _
      | refine LeO.ite ?_ ?_
      | refine LeO.bind ?_ (fun _ => ?_)
set_option maxHeartbeats 8000000 in
set_option maxRecDepth 100000 in
theorem shuttleref10_Pick.calls (k : Nat) (A0 : Option Addr) (c0 : Nat) (l0 : List Int) (a1 : Int) (r : List Int) (w : World) (hr0 : Kd.C (Kd.int .u8) w A0 l0.length l0) (hc0 : l0.length ≤ c0) (h : shuttleref10_Pick.f k l0 a1 = some r) :
    Calls Tryd.prog 22 #[.slice A0 l0.length c0, .int .i64 a1] w fun e w' => ∃ v0_ : Value, e = .returned (v0_) ∧ Kd.R (Kd.int .u8) 5 w' w.heap.size (fun _ => True) v0_ r ∧ Below w.heap.size w w' := by
  have HR0 := Aside0.mk hr0
  have HC0 := Aside0.mk hc0
  clear hr0 hc0
  have HB := Aside0.mk (Below.refl w.heap.size w)
  have H : (shuttleref10_Pick.l0 k l0 a1 ([] : List Int) 0) = some r := h
  clear h
  have H' := Aside0.mk H
  clear H
  go_enter Tryd.func22, Tryd.ntmps22
  go_wp2
  go_loopg [5, 6] k (fun kq v5 v6 w' => ∃ (x5_1 : List Int) (x6_1 : Int), v6 = .int .i64 x6_1 ∧ Aside0 (shuttleref10_Pick.l0 kq l0 a1 x5_1 x6_1 = some r) ∧ Aside0 (kq ≤ k) ∧ Aside0 (Kd.R (Kd.int .u8) 5 w' w.heap.size (fun _ => True) v5 x5_1) ∧ Aside0 (Below w.heap.size w w'))
  case atStart => exact ⟨(([] : List Int)), (0), (by first | rfl | (simp; done) | (simp [*]; done)), H', ⟨Nat.le_refl _⟩, ⟨by first | exact Kd.R_nil _ _ _ _ _ | exact Kd.N_nil _ _ _ _ _ | exact Kd.V_nil _ _ _ _ _ | exact Kd.Q_nil _ _ _ _ _ | exact Kd.S_nil _ _ _ _ _⟩, ⟨by repeat (first | (with_reducible first | exact HB.out | apply below_alloc | apply pw_below_drewN | apply below_drew1) | exact HB.out)⟩⟩
  case round =>
    clear H'
    try clear c2
    try clear p2
    obtain ⟨x5_1, x6_1, rfl, HA, HK1, HO_5, HB⟩ := hrel
    cases gk with
    | zero => exact absurd HA.out (by simp [shuttleref10_Pick.l0])
    | succ k1 =>
      have H := HA.out
      clear HA
      simp only [shuttleref10_Pick.l0] at H
      by_cases c3 : (wrap64 (4 * x6_1)) < (l0.length : Int)
      · rw [if_pos c3] at H
        have c3b0 : decide ((wrap64 (4 * x6_1)) < (l0.length : Int)) = true := decide_eq_true c3
        clear c3
        replace H := Option.bind_eq_some_iff.mp H
        obtain ⟨t558, A40, H⟩ := H
        replace H : (if 0 ≤ (wrap64 ((wrap64 (4 * x6_1)) + t558)) then (if (wrap64 ((wrap64 (4 * x6_1)) + t558)) < (l0.length : Int) then (if x5_1.length < 140737488355328 then (shuttleref10_Pick.l0 k1 l0 a1 (x5_1 ++ [rd l0 (wrap64 ((wrap64 (4 * x6_1)) + t558))]) (wrap64 (x6_1 + 1))) else (none)) else (none)) else (none)) = some r := H
        have A4 := Aside0.mk A40
        clear A40
        obtain ⟨ji5, hji5⟩ : ∃ j_ : Int, (wrap64 ((wrap64 (4 * x6_1)) + t558)) = j_ := ⟨_, rfl⟩
        replace H : (if 0 ≤ (ji5) then (if (ji5) < (l0.length : Int) then (if x5_1.length < 140737488355328 then (shuttleref10_Pick.l0 k1 l0 a1 (x5_1 ++ [rd l0 (ji5)]) (wrap64 (x6_1 + 1))) else (none)) else (none)) else (none)) = some r := by first | (rw [hji5] at H; exact H) | (simp only [hji5] at H ⊢; exact H)
        (try rw [hji5] at A4)
        have hji5w : (IntKind.i64.wrap ((wrap64 (4 * x6_1)) + t558)) = ji5 := (i64_w _).trans hji5
        by_cases c6 : 0 ≤ (ji5)
        · rw [if_pos c6] at H
          have c6b0 : decide (0 ≤ (ji5)) = true := decide_eq_true c6
          clear c6
          by_cases c7 : (ji5) < (l0.length : Int)
          · rw [if_pos c7] at H
            have c7b0 : decide ((ji5) < (l0.length : Int)) = true := decide_eq_true c7
            clear c7
            by_cases c8 : x5_1.length < 140737488355328
            · rw [if_pos c8] at H
              have LMc8 := Aside0.mk c8
              clear c8
              obtain ⟨y560, hy560⟩ : ∃ y_ : List Int, y_ = (x5_1 ++ [rd l0 (ji5)]) := ⟨_, rfl⟩
              replace H : (shuttleref10_Pick.l0 k1 l0 a1 y560 (wrap64 (x6_1 + 1))) = some r := by first | (rw [hy560]; with_reducible exact H) | (have H2_ := (Option.bind_some _ _).symm.trans H; rw [hy560]; with_reducible exact H2_) | (have H2_ := (Option.bind_some _ _).symm.trans H; with_reducible exact H2_) | with_reducible exact H | (rw [hy560]; exact H) | exact H
              have Ny560 := Aside0.mk hy560
              clear hy560
              have H' := Aside0.mk H
              clear H
              go_wp2_with (first | ((with_reducible refine gate_callee (f := 37) rfl ?_); refine goesL_ (some 20) rfl rfl Tryd.func37 (by kernel_rfl) rfl #[.int .i64 a1, .int .i64 x6_1] rfl (by (try simp only [List.map_toArray, List.map_cons, List.map_nil]); first | done | rfl | (simp only [List.length_drop, List.length_take]; rfl)) ?_; (with_reducible refine (shuttleref10_Stream.calls a1 x6_1 t558 _ A4.out).mono ?_); rintro e w' ⟨rfl, ⟨nd, rfl⟩⟩; refine ⟨_, rfl, ?_⟩; have p559 : 0 ≤ ((ji5) : Int) := of_decide_eq_true (by first | (with_reducible assumption) | assumption); have q559 : (ji5) < (l0.length : Int) := of_decide_eq_true (by first | (with_reducible assumption) | assumption); obtain ⟨ad559, e559, hx559_0⟩ := Kd.at_int HR0.out (ji5) p559 q559; cases e559; replace hx559_0 := (HB.out.cell (World.block_lt_of_cell? w _ hx559_0)).trans hx559_0; replace p559 := eq_true p559; replace q559 := eq_true q559) | ((with_reducible refine gate_builtin (b := .append) (xs := #[.tmp 14, .tmp 24]) rfl ?_); at_builtin; refine Kd.R_append (Kd.int .u8) (w0 := w) w.heap.size rfl (.tmp 14) (.tmp 24) 35 5 (.int .u8 0) 1 rfl Tryd.underlying35 info5 rfl (by decide) (by omega) u5 x5_1 (rd l0 (ji5)) [.int .u8 (rd l0 (ji5))] (fun _ => True) (fun _ => False) rfl rfl ?aP (fun _ hk => hk.elim) ?aF ?aO ?aB ?aS ?aL ?_; (case aP => exact rfl); (case aB => exact (by repeat (first | (with_reducible first | exact HB.out | apply below_alloc | apply pw_below_drewN | apply below_drew1) | exact HB.out))); (case aF => exact (fun _ _ => trivial)); (case aO => exact (by (with_reducible repeat (first | apply Kd.R_alloc | apply Kd.R_drewN | apply Kd.R_drew)); exact HO_5.out)); (case aS => exact (below_size (by repeat (first | (with_reducible first | exact HB.out | apply below_alloc | apply pw_below_drewN | apply below_drew1) | exact HB.out)))); (case aL => have := LMc8.out; omega); intro v561 w9 ho hb hg hat; rw [← Ny560.out] at ho; have n0_ := Aside0.mk (hb); have n1_ := Aside0.mk (ho); clear HB; clear HO_5; have HB := n0_; have HO562 := n1_; clear n0_ n1_; clear ho hb hg hat))
              go_roundg k1
              case measure => have := HK1.out; omega
              case rel => exact ⟨(y560), (wrap64 (x6_1 + 1)), (by first | rfl | (simp; done) | (simp [*]; done)), H', ⟨by have := HK1.out; omega⟩, ⟨by (with_reducible repeat (first | apply Kd.R_alloc | apply Kd.R_drewN | apply Kd.R_drew)); exact HO562.out⟩, ⟨by repeat (first | (with_reducible first | exact HB.out | apply below_alloc | apply pw_below_drewN | apply below_drew1) | exact HB.out)⟩⟩
            · rw [if_neg c8] at H
              exact absurd H (by simp)
          · rw [if_neg c7] at H
            exact absurd H (by simp)
        · rw [if_neg c6] at H
          exact absurd H (by simp)
      · rw [if_neg c3] at H
        have c3b0 : decide ((wrap64 (4 * x6_1)) < (l0.length : Int)) = false := decide_eq_false c3
        clear c3
        obtain rfl := Option.some.inj H
        go_wp2
        go_ret
        exact ⟨_, by first | rfl | (simp [errW_none, errW_some] <;> rfl) | (simp [*, errW_none, errW_some] <;> rfl), by (with_reducible repeat (first | apply Kd.R_alloc | apply Kd.R_drewN | apply Kd.R_drew)); exact HO_5.out, by repeat (first | (with_reducible first | exact HB.out | apply below_alloc | apply pw_below_drewN | apply below_drew1) | exact HB.out)⟩

end Go.Proofs.YtmajbcglpcagoaaDoor.X

-- YtmajbcglpcagoaaDoorXVC
namespace Go.Proofs.YtmajbcglpcagoaaDoor.X
open Go.RowKit Go.Proofs.YtmajbcglpcagoaaDoorW.PrintWords Go.Proofs.YtmajbcglpcagoaaDoorW.PrintLast Go.Proofs.YtmajbcglpcagoaaDoorW.PrintMore
attribute [local go_sem] max2_int min2_int max_two min_two max_three min_three max_four min_four   -- for this text's walks alone
set_option linter.unusedVariables false
set_option linter.unusedSimpArgs false

/-! ### shuttlelaw11_VersionCodes: function 7 -/
def shuttlelaw11_VersionCodes.j0 : Nat → List Int → Int → List Int → Int → Bool → Option (Bool)
  | 0, _, _, _, _, _ => none
  | k + 1, x0, x1, x5, x6, x39 => if x39 = true then (if x6 = 1 then (some ((x5.length : Int) == 0)) else (some false)) else ((version_Alone.f k x5 x1).bind fun bt248 => (if x6 = 0 then ((shuttleref06_Code.f k x0).bind fun t252 => ((shuttleref10_Pick.f k t252 x1).bind fun t255 => (if (strOfNums x5).toList = (strOfNums t255).toList then ((version_Bits.f (x0.length : Int)).bind fun t258 => (if (x5.length : Int) = t258 then (if bt248.2 = 0 then (some ((strOfNums bt248.1).toList == (strOfNums x0).toList)) else (some false)) else (some false))) else (some false)))) else (some false)))
def shuttlelaw11_VersionCodes.f (k : Nat) (l0 : List Int) (a1 : Int) : Option (Bool) := (some (([] : List Int) : List Int)).bind fun y235 => (if 0 ≤ (mn (l0.length : Int) 100) then (if (mn (l0.length : Int) 100) ≤ (l0.length : Int) then (if y235.length + (l0.take ((mn (l0.length : Int) 100) : Int).toNat).length < 140737488355328 then ((some (y235 ++ (l0.take ((mn (l0.length : Int) 100) : Int).toNat) : List Int)).bind fun y239 => ((version_Code.f k y239 a1).bind fun bt242 => ((shuttlelaw11_splits.f k).bind fun t246 => (if t246 = true then ((shuttleref01_Right.f k y239).bind fun t247 => (if t247 = true then (if a1 < 0 then (shuttlelaw11_VersionCodes.j0 k y239 a1 bt242.1 bt242.2 true) else (shuttlelaw11_VersionCodes.j0 k y239 a1 bt242.1 bt242.2 (decide (a1 > 3)))) else (if bt242.2 = 5 then (some ((bt242.1.length : Int) == 0)) else (some false)))) else (some false))))) else (none)) else (none)) else (none))
theorem shuttlelaw11_VersionCodes.mono_l : ∀ k, (∀ y0 y1 y2 y3 y4, LeO (shuttlelaw11_VersionCodes.j0 k y0 y1 y2 y3 y4) (shuttlelaw11_VersionCodes.j0 (k + 1) y0 y1 y2 y3 y4))
  | 0 => fun _ _ _ _ _ r h => by simp [shuttlelaw11_VersionCodes.j0] at h
  | k + 1 => by
    have ih0 := shuttlelaw11_VersionCodes.mono_l k
    · intro y0 y1 y2 y3 y4
      unfold shuttlelaw11_VersionCodes.j0
      repeat' first
      | (with_reducible exact ih0 _ _ _ _ _)
      | (with_reducible exact shuttlelaw11_splits.mono _)
      | (with_reducible exact shuttleref01_Right.mono _ _)
      | (with_reducible exact shuttleref06_Code.mono _ _)
      | (with_reducible exact shuttleref10_Pick.mono _ _ _)
      | (with_reducible exact version_Alone.mono _ _ _)
      | (with_reducible exact version_Code.mono _ _ _)
      | (with_reducible exact LeO.refl _)
      | (with_reducible exact LeO.none _)
      | (with_reducible refine LeO.ite ?_ ?_)
      | (with_reducible refine LeO.bind ?_ (fun _ => ?_))
      | exact ih0 _ _ _ _ _
      | exact shuttlelaw11_splits.mono _
      | exact shuttleref01_Right.mono _ _
      | exact shuttleref06_Code.mono _ _
      | exact shuttleref10_Pick.mono _ _ _
      | exact version_Alone.mono _ _ _
      | exact version_Code.mono _ _ _
      | exact LeO.none _
      | refine LeO.ite ?_ ?_
      | refine LeO.bind ?_ (fun _ => ?_)
theorem shuttlelaw11_VersionCodes.mono : ∀ a0 a1 k, LeO (shuttlelaw11_VersionCodes.f k a0 a1) (shuttlelaw11_VersionCodes.f (k + 1) a0 a1) := by
  intro a0 a1 k
  have ih0 := shuttlelaw11_VersionCodes.mono_l k
  unfold shuttlelaw11_VersionCodes.f
  repeat' first
      | (with_reducible exact ih0 _ _ _ _ _)
      | (with_reducible exact shuttlelaw11_splits.mono _)
      | (with_reducible exact shuttleref01_Right.mono _ _)
      | (with_reducible exact shuttleref06_Code.mono _ _)
      | (with_reducible exact shuttleref10_Pick.mono _ _ _)
      | (with_reducible exact version_Alone.mono _ _ _)
      | (with_reducible exact version_Code.mono _ _ _)
      | (with_reducible exact LeO.refl _)
      | (with_reducible exact LeO.none _)
      | (with_reducible refine LeO.ite ?_ ?_)
      | (with_reducible refine LeO.bind ?_ (fun _ => ?_))
      | exact ih0 _ _ _ _ _
      | exact shuttlelaw11_splits.mono _
      | exact shuttleref01_Right.mono _ _
      | exact shuttleref06_Code.mono _ _
      | exact shuttleref10_Pick.mono _ _ _
      | exact version_Alone.mono _ _ _
      | exact version_Code.mono _ _ _
      | exact LeO.none _
      | refine LeO.ite ?_ ?_
      | refine LeO.bind ?_ (fun _ => ?_)
def shuttlelaw11_VersionCodes.T10 : Bool × List (List Nat × List Nat) := (true, [([], []), ([0], [0]), ([1], [1]), ([2], [2]), ([3, 2], [2, 3]), ([2], [2]), ([5, 2, 2], [2, 5]), ([2], [2]), ([6, 7, 6, 2], [2, 6, 7]), ([8, 2], [2, 8]), ([4, 9, 2], [2, 4, 9]), ([2, 10], [2, 10]), ([11, 8], [11]), ([12], [12]), ([13, 12], [12, 13]), ([12], [12]), ([15, 12], [12, 15]), ([16, 12, 12], [12, 16]), ([14, 17, 12], [12, 14, 17]), ([12, 18], [12, 18]), ([19, 17], [19]), ([20], [20]), ([21, 20], [20, 21]), ([20, 22], [20, 22]), ([23, 20], [23]), ([24], [24]), ([25, 24], [24, 25]), ([24], [24]), ([27, 24], [24, 27]), ([26, 28, 24], [24, 26, 28]), ([24, 29], [24, 29]), ([30, 24, 0, 1, 2, 3, 4, 5, 6, 7, 8, 9, 10, 11, 12, 13, 14, 15, 16, 17, 18, 19, 20, 21, 22, 23, 24, 25, 26, 27, 28, 29, 30], [30])])
def shuttlelaw11_VersionCodes.B10 : List Nat := [0, 1, 3, 7, 15, 7, 39, 7, 231, 487, 1023, 2047, 4095, 8191, 16383, 8191, 40959, 106495, 262143, 524287, 1048575, 2097151, 4194303, 8388607, 16777215, 33554431, 67108863, 33554431, 167772159, 536870911, 1073741823, 2147483647]
theorem shuttlelaw11_VersionCodes.tab10 : rtab .any (opsOf Tryd.f7 10) = shuttlelaw11_VersionCodes.T10 := by kernel_rfl
theorem shuttlelaw11_VersionCodes.bits10 : waitsOk shuttlelaw11_VersionCodes.T10.2 shuttlelaw11_VersionCodes.B10 = true := by kernel_rfl
abbrev tY : Bool := true
abbrev tN : Bool := false
theorem sq_a1 {α : Type} (l : List α) (i : Nat) (x : α) : l.toArray.setIfInBounds i x = (l.set i x).toArray := List.setIfInBounds_toArray ..
theorem sq_a2 {α : Type} (a : α) (s : List α) (x : α) : (a :: s).set 0 x = x :: s := List.set_cons_zero
theorem sq_a3 {α : Type} (a : α) (s : List α) (n : Nat) (x : α) : (a :: s).set (n + 1) x = a :: s.set n x := List.set_cons_succ
theorem sq_m {p : Prop} (h : p) : Aside0 p := ⟨h⟩
theorem sq_b {w W : World} (h : Below w.heap.size w W) (o : Obj) : Below w.heap.size w (W.alloc o) := below_alloc h o
theorem sq_n {B : Nat} {w W : World} (h : Below B w W) (n : Nat) : Below B w (W.drewN n) := pw_below_drewN h n
theorem sq_d {B : Nat} {w W : World} (h : Below B w W) : Below B w W.drew := below_drew1 h
theorem sq_N {α : Type} {d : Kd α} {e : Nat} {w : World} {base : Nat} {ok : Nat → Prop} {v : Value} {xs : List α} (h : d.R e w base ok v xs) (m : Nat) : d.R e (w.drewN m) base ok v xs := Kd.R_drewN h m
theorem sq_D {α : Type} {d : Kd α} {e : Nat} {w : World} {base : Nat} {ok : Nat → Prop} {v : Value} {xs : List α} (h : d.R e w base ok v xs) : d.R e w.drew base ok v xs := Kd.R_drew h
theorem sq_A {α : Type} {d : Kd α} {e : Nat} {w : World} {base : Nat} {ok : Nat → Prop} {v : Value} {xs : List α} (h : d.R e w base ok v xs) (o : Obj) : d.R e (w.alloc o) base ok v xs := Kd.R_alloc h o
abbrev mk0 : Array Bool := #[tN,tN,tN,tN,tN,tN,tN,tN,tN,tN,tN,tN,tN,tN,tN,tN,tN,tN,tN,tN,tN,tN,tN,tN,tN,tN,tN,tN,tN,tN,tN,tN]
abbrev mk1 : Array Bool := #[tY,tN,tN,tN,tN,tN,tN,tN,tN,tN,tN,tN,tN,tN,tN,tN,tN,tN,tN,tN,tN,tN,tN,tN,tN,tN,tN,tN,tN,tN,tN,tN]
abbrev mk2 : Array Bool := #[tY,tY,tN,tN,tN,tN,tN,tN,tN,tN,tN,tN,tN,tN,tN,tN,tN,tN,tN,tN,tN,tN,tN,tN,tN,tN,tN,tN,tN,tN,tN,tN]
abbrev mk3 : Array Bool := #[tY,tY,tY,tN,tN,tN,tN,tN,tN,tN,tN,tN,tN,tN,tN,tN,tN,tN,tN,tN,tN,tN,tN,tN,tN,tN,tN,tN,tN,tN,tN,tN]
abbrev mk4 : Array Bool := #[tY,tY,tY,tY,tN,tN,tN,tN,tN,tN,tN,tN,tN,tN,tN,tN,tN,tN,tN,tN,tN,tN,tN,tN,tN,tN,tN,tN,tN,tN,tN,tN]
abbrev mk5 : Array Bool := #[tY,tY,tY,tY,tN,tY,tN,tN,tN,tN,tN,tN,tN,tN,tN,tN,tN,tN,tN,tN,tN,tN,tN,tN,tN,tN,tN,tN,tN,tN,tN,tN]
abbrev mk6 : Array Bool := #[tY,tY,tY,tY,tN,tY,tN,tY,tN,tN,tN,tN,tN,tN,tN,tN,tN,tN,tN,tN,tN,tN,tN,tN,tN,tN,tN,tN,tN,tN,tN,tN]
abbrev mk7 : Array Bool := #[tY,tY,tY,tY,tY,tY,tY,tY,tY,tY,tY,tY,tY,tY,tY,tY,tY,tY,tY,tY,tY,tY,tY,tY,tY,tY,tY,tY,tY,tN,tN,tN]
abbrev mk8 : Array Bool := #[tY,tY,tY,tY,tY,tY,tY,tY,tY,tY,tY,tY,tY,tY,tY,tY,tY,tY,tY,tY,tY,tY,tY,tY,tY,tY,tY,tY,tN,tN,tN,tN]
abbrev mk9 : Array Bool := #[tY,tY,tY,tY,tY,tY,tY,tY,tY,tY,tY,tY,tY,tY,tY,tY,tY,tY,tY,tY,tY,tY,tY,tY,tY,tY,tN,tY,tY,tN,tN,tN]
abbrev mk10 : Array Bool := #[tY,tY,tY,tY,tY,tY,tY,tY,tY,tY,tY,tY,tY,tY,tY,tY,tY,tY,tY,tY,tY,tY,tY,tY,tY,tY,tN,tY,tN,tN,tN,tN]
abbrev mk11 : Array Bool := #[tY,tY,tY,tY,tY,tY,tY,tY,tY,tY,tY,tY,tY,tY,tY,tY,tY,tN,tN,tN,tN,tN,tN,tN,tN,tN,tN,tN,tN,tN,tN,tN]
abbrev mk12 : Array Bool := #[tY,tY,tY,tY,tY,tY,tY,tY,tY,tN,tN,tN,tN,tN,tN,tN,tN,tN,tN,tN,tN,tN,tN,tN,tN,tN,tN,tN,tN,tN,tN,tN]
abbrev mk13 : Array Bool := #[tY,tY,tY,tY,tN,tY,tY,tY,tY,tY,tN,tN,tN,tN,tN,tN,tN,tN,tN,tN,tN,tN,tN,tN,tN,tN,tN,tN,tN,tN,tN,tN]
abbrev mk14 : Array Bool := #[tY,tY,tY,tY,tY,tY,tY,tY,tN,tN,tN,tN,tN,tN,tN,tN,tN,tN,tN,tN,tN,tN,tN,tN,tN,tN,tN,tN,tN,tN,tN,tN]
abbrev mk15 : Array Bool := #[tY,tY,tY,tY,tN,tY,tY,tY,tY,tN,tN,tN,tN,tN,tN,tN,tN,tN,tN,tN,tN,tN,tN,tN,tN,tN,tN,tN,tN,tN,tN,tN]
abbrev mk16 : Array Bool := #[tY,tY,tY,tY,tY,tY,tN,tY,tN,tN,tN,tN,tN,tN,tN,tN,tN,tN,tN,tN,tN,tN,tN,tN,tN,tN,tN,tN,tN,tN,tN,tN]
abbrev mk17 : Array Bool := #[tY,tY,tY,tY,tN,tY,tY,tY,tN,tN,tN,tN,tN,tN,tN,tN,tN,tN,tN,tN,tN,tN,tN,tN,tN,tN,tN,tN,tN,tN,tN,tN]
abbrev mk18 : Array Bool := #[tY,tY,tY,tY,tY,tY,tY,tY,tY,tY,tN,tN,tN,tN,tN,tN,tN,tN,tN,tN,tN,tN,tN,tN,tN,tN,tN,tN,tN,tN,tN,tN]
abbrev mk19 : Array Bool := #[tY,tY,tY,tY,tY,tY,tY,tY,tY,tY,tY,tN,tN,tN,tN,tN,tN,tN,tN,tN,tN,tN,tN,tN,tN,tN,tN,tN,tN,tN,tN,tN]
abbrev mk20 : Array Bool := #[tY,tY,tY,tY,tY,tY,tY,tY,tY,tY,tY,tY,tN,tN,tN,tN,tN,tN,tN,tN,tN,tN,tN,tN,tN,tN,tN,tN,tN,tN,tN,tN]
abbrev mk21 : Array Bool := #[tY,tY,tY,tY,tY,tY,tY,tY,tY,tY,tY,tY,tY,tN,tN,tN,tN,tN,tN,tN,tN,tN,tN,tN,tN,tN,tN,tN,tN,tN,tN,tN]
abbrev mk22 : Array Bool := #[tY,tY,tY,tY,tY,tY,tY,tY,tY,tY,tY,tY,tY,tY,tN,tN,tN,tN,tN,tN,tN,tN,tN,tN,tN,tN,tN,tN,tN,tN,tN,tN]
abbrev mk23 : Array Bool := #[tY,tY,tY,tY,tY,tY,tY,tY,tY,tY,tY,tY,tY,tY,tY,tN,tN,tN,tN,tN,tN,tN,tN,tN,tN,tN,tN,tN,tN,tN,tN,tN]
abbrev mk24 : Array Bool := #[tY,tY,tY,tY,tY,tY,tY,tY,tY,tY,tY,tY,tY,tY,tY,tY,tN,tN,tN,tN,tN,tN,tN,tN,tN,tN,tN,tN,tN,tN,tN,tN]
abbrev mk25 : Array Bool := #[tY,tY,tY,tY,tY,tY,tY,tY,tY,tY,tY,tY,tY,tY,tY,tY,tY,tY,tN,tN,tN,tN,tN,tN,tN,tN,tN,tN,tN,tN,tN,tN]
abbrev mk26 : Array Bool := #[tY,tY,tY,tY,tY,tY,tY,tY,tY,tY,tY,tY,tY,tY,tY,tY,tY,tY,tY,tN,tN,tN,tN,tN,tN,tN,tN,tN,tN,tN,tN,tN]
abbrev mk27 : Array Bool := #[tY,tY,tY,tY,tY,tY,tY,tY,tY,tY,tY,tY,tY,tY,tY,tY,tY,tY,tY,tY,tN,tN,tN,tN,tN,tN,tN,tN,tN,tN,tN,tN]
abbrev mk28 : Array Bool := #[tY,tY,tY,tY,tY,tY,tY,tY,tY,tY,tY,tY,tY,tY,tY,tY,tY,tY,tY,tY,tY,tN,tN,tN,tN,tN,tN,tN,tN,tN,tN,tN]
abbrev mk29 : Array Bool := #[tY,tY,tY,tY,tY,tY,tY,tY,tY,tY,tY,tY,tY,tY,tY,tY,tY,tY,tY,tY,tY,tY,tN,tN,tN,tN,tN,tN,tN,tN,tN,tN]
abbrev mk30 : Array Bool := #[tY,tY,tY,tY,tY,tY,tY,tY,tY,tY,tY,tY,tY,tY,tY,tY,tY,tY,tY,tY,tY,tY,tY,tN,tN,tN,tN,tN,tN,tN,tN,tN]
abbrev mk31 : Array Bool := #[tY,tY,tY,tY,tY,tY,tY,tY,tY,tY,tY,tY,tY,tY,tY,tY,tY,tY,tY,tY,tY,tY,tY,tY,tN,tN,tN,tN,tN,tN,tN,tN]
abbrev mk32 : Array Bool := #[tY,tY,tY,tY,tY,tY,tY,tY,tY,tY,tY,tY,tY,tY,tY,tY,tY,tY,tY,tY,tY,tY,tY,tY,tY,tN,tN,tN,tN,tN,tN,tN]
abbrev mk33 : Array Bool := #[tY,tY,tY,tY,tY,tY,tY,tY,tY,tY,tY,tY,tY,tY,tY,tY,tY,tY,tY,tY,tY,tY,tY,tY,tY,tY,tN,tN,tN,tN,tN,tN]
abbrev mk34 : Array Bool := #[tY,tY,tY,tY,tY,tY,tY,tY,tY,tY,tY,tY,tY,tY,tY,tY,tY,tY,tY,tY,tY,tY,tY,tY,tY,tY,tY,tY,tY,tY,tN,tN]
abbrev mk35 : Array Bool := #[tY,tY,tY,tY,tY,tY,tY,tY,tY,tY,tY,tY,tY,tY,tY,tY,tY,tY,tY,tY,tY,tY,tY,tY,tY,tY,tY,tY,tY,tY,tY,tN]
abbrev mk36 : Array Bool := #[tY,tY,tY,tY,tY,tY,tY,tY,tY,tY,tY,tY,tY,tY,tY,tY,tY,tY,tY,tY,tY,tY,tY,tY,tY,tY,tY,tY,tY,tY,tY,tY]
abbrev mk37 : Array Bool := #[tY,tY,tY,tY,tY,tY,tY,tY,tY,tY,tY,tY,tY,tY,tY,tY,tY,tY,tY,tY,tY,tY,tY,tY,tY,tY,tY,tN,tN,tN,tN,tN]
abbrev mk38 : Array Bool := #[tY,tY,tY,tY,tY,tN,tN,tN,tN,tN,tN,tN,tN,tN,tN,tN,tN,tN,tN,tN,tN,tN,tN,tN,tN,tN,tN,tN,tN,tN,tN,tN]
abbrev mk39 : Array Bool := #[tY,tY,tY,tY,tY,tY,tN,tN,tN,tN,tN,tN,tN,tN,tN,tN,tN,tN,tN,tN,tN,tN,tN,tN,tN,tN,tN,tN,tN,tN,tN,tN]
abbrev mk40 : Array Bool := #[tY,tY,tY,tY,tY,tY,tY,tN,tN,tN,tN,tN,tN,tN,tN,tN,tN,tN,tN,tN,tN,tN,tN,tN,tN,tN,tN,tN,tN,tN,tN,tN]
set_option maxHeartbeats 8000000 in
set_option maxRecDepth 100000 in
theorem shuttlelaw11_VersionCodes.calls (k : Nat) (A0 : Option Addr) (c0 : Nat) (l0 : List Int) (a1 : Int) (r : Bool) (hr_ : r = true) (w : World) (hr0 : Kd.C (Kd.int .u8) w A0 l0.length l0) (hc0 : l0.length ≤ c0) (h : shuttlelaw11_VersionCodes.f k l0 a1 = some r) (hT_ : TP w := by first | assumption | exact TP_of (by assumption : TP _) (by repeat (first | (with_reducible first | apply below_alloc | apply pw_below_drewN | apply below_drew1 | refine below_set ?_ (Aside0.out (by assumption))) | exact Aside0.out (by assumption) | exact Below.refl _ _))) :
  Calls Tryd.prog 7 #[.slice A0 l0.length c0, .int .i64 a1] w fun e w' => e = .returned (.bool r) ∧ Below w.heap.size w w' := by
 have HR0 := sq_m hr0
 have HC0 := sq_m hc0
 clear hr0 hc0
 have HB := sq_m (Below.refl w.heap.size w)
 have H : ((some (([] : List Int) : List Int)).bind fun y235 => (if 0 ≤ (mn (l0.length : Int) 100) then (if (mn (l0.length : Int) 100) ≤ (l0.length : Int) then (if y235.length + (l0.take ((mn (l0.length : Int) 100) : Int).toNat).length < 140737488355328 then ((some (y235 ++ (l0.take ((mn (l0.length : Int) 100) : Int).toNat) : List Int)).bind fun y239 => ((version_Code.f k y239 a1).bind fun bt242 => ((shuttlelaw11_splits.f k).bind fun t246 => (if t246 = true then ((shuttleref01_Right.f k y239).bind fun t247 => (if t247 = true then (if a1 < 0 then (shuttlelaw11_VersionCodes.j0 k y239 a1 bt242.1 bt242.2 true) else (shuttlelaw11_VersionCodes.j0 k y239 a1 bt242.1 bt242.2 (decide (a1 > 3)))) else (if bt242.2 = 5 then (some ((bt242.1.length : Int) == 0)) else (some false)))) else (some false))))) else (none)) else (none)) else (none))) = some r := h
 clear h
 obtain ⟨y235, hy235⟩ : ∃ y_ : List Int, y_ = (([] : List Int)) := ⟨_, rfl⟩
 replace H : (if 0 ≤ (mn (l0.length : Int) 100) then (if (mn (l0.length : Int) 100) ≤ (l0.length : Int) then (if y235.length + (l0.take ((mn (l0.length : Int) 100) : Int).toNat).length < 140737488355328 then ((some (y235 ++ (l0.take ((mn (l0.length : Int) 100) : Int).toNat) : List Int)).bind fun y239 => ((version_Code.f k y239 a1).bind fun bt242 => ((shuttlelaw11_splits.f k).bind fun t246 => (if t246 = true then ((shuttleref01_Right.f k y239).bind fun t247 => (if t247 = true then (if a1 < 0 then (shuttlelaw11_VersionCodes.j0 k y239 a1 bt242.1 bt242.2 true) else (shuttlelaw11_VersionCodes.j0 k y239 a1 bt242.1 bt242.2 (decide (a1 > 3)))) else (if bt242.2 = 5 then (some ((bt242.1.length : Int) == 0)) else (some false)))) else (some false))))) else (none)) else (none)) else (none)) = some r := by first | (rw [hy235]; with_reducible exact H) | (have H2_ := (Option.bind_some _ _).symm.trans H; rw [hy235]; with_reducible exact H2_) | (have H2_ := (Option.bind_some _ _).symm.trans H; with_reducible exact H2_) | with_reducible exact H | (rw [hy235]; exact H) | exact H
 have Ny235 := sq_m hy235
 clear hy235
 obtain ⟨ji3, hji3⟩ : ∃ j_ : Int, (mn (l0.length : Int) 100) = j_ := ⟨_, rfl⟩
 replace H : (if 0 ≤ (ji3) then (if (ji3) ≤ (l0.length : Int) then (if y235.length + (l0.take ((ji3) : Int).toNat).length < 140737488355328 then ((some (y235 ++ (l0.take ((ji3) : Int).toNat) : List Int)).bind fun y239 => ((version_Code.f k y239 a1).bind fun bt242 => ((shuttlelaw11_splits.f k).bind fun t246 => (if t246 = true then ((shuttleref01_Right.f k y239).bind fun t247 => (if t247 = true then (if a1 < 0 then (shuttlelaw11_VersionCodes.j0 k y239 a1 bt242.1 bt242.2 true) else (shuttlelaw11_VersionCodes.j0 k y239 a1 bt242.1 bt242.2 (decide (a1 > 3)))) else (if bt242.2 = 5 then (some ((bt242.1.length : Int) == 0)) else (some false)))) else (some false))))) else (none)) else (none)) else (none)) = some r := by first | (rw [hji3] at H; exact H) | (simp only [hji3] at H ⊢; exact H)
 (try (have hji3h : ji3 ≤ 100 := by (rw [← hji3]; unfold mn; (repeat' split) <;> omega)))
 (try (have hji3g : ji3 ≤ 64 := by omega))
 (try (have hji3l : 0 ≤ ji3 := by (rw [← hji3]; unfold mn; (repeat' split) <;> omega)))
 (try (have hji3m : 0 ≤ ji3 := by omega))
 have hji3_ : (if 100 < (l0.length : Int) then 100 else (l0.length : Int)) = ji3 := hji3
 by_cases c4 : 0 ≤ (ji3)
 ·rw [if_pos c4] at H
  have c4b0 := eq_true c4
  have c4b1 : decide (0 ≤ (ji3)) = true := decide_eq_true c4
  clear c4
  by_cases c5 : (ji3) ≤ (l0.length : Int)
  ·rw [if_pos c5] at H
   have c5b0 := eq_true c5
   have c5b1 : decide ((ji3) ≤ (l0.length : Int)) = true := decide_eq_true c5
   clear c5
   by_cases c6 : y235.length + (l0.take ((ji3) : Int).toNat).length < 140737488355328
   ·rw [if_pos c6] at H
    have LMc6 := sq_m c6
    clear c6
    obtain ⟨y239, hy239⟩ : ∃ y_ : List Int, y_ = (y235 ++ (l0.take ((ji3) : Int).toNat)) := ⟨_, rfl⟩
    replace H : ((version_Code.f k y239 a1).bind fun bt242 => ((shuttlelaw11_splits.f k).bind fun t246 => (if t246 = true then ((shuttleref01_Right.f k y239).bind fun t247 => (if t247 = true then (if a1 < 0 then (shuttlelaw11_VersionCodes.j0 k y239 a1 bt242.1 bt242.2 true) else (shuttlelaw11_VersionCodes.j0 k y239 a1 bt242.1 bt242.2 (decide (a1 > 3)))) else (if bt242.2 = 5 then (some ((bt242.1.length : Int) == 0)) else (some false)))) else (some false)))) = some r := by first | (rw [hy239]; with_reducible exact H) | (have H2_ := (Option.bind_some _ _).symm.trans H; rw [hy239]; with_reducible exact H2_) | (have H2_ := (Option.bind_some _ _).symm.trans H; with_reducible exact H2_) | with_reducible exact H | (rw [hy239]; exact H) | exact H
    have Ny239 := sq_m hy239
    clear hy239
    replace H := Option.bind_eq_some_iff.mp H
    obtain ⟨⟨t242, t243⟩, A70, H⟩ := H
    replace H : ((shuttlelaw11_splits.f k).bind fun t246 => (if t246 = true then ((shuttleref01_Right.f k y239).bind fun t247 => (if t247 = true then (if a1 < 0 then (shuttlelaw11_VersionCodes.j0 k y239 a1 t242 t243 true) else (shuttlelaw11_VersionCodes.j0 k y239 a1 t242 t243 (decide (a1 > 3)))) else (if t243 = 5 then (some ((t242.length : Int) == 0)) else (some false)))) else (some false))) = some r := H
    have A7 := sq_m A70
    clear A70
    replace H := Option.bind_eq_some_iff.mp H
    obtain ⟨t246, A80, H⟩ := H
    replace H : (if t246 = true then ((shuttleref01_Right.f k y239).bind fun t247 => (if t247 = true then (if a1 < 0 then (shuttlelaw11_VersionCodes.j0 k y239 a1 t242 t243 true) else (shuttlelaw11_VersionCodes.j0 k y239 a1 t242 t243 (decide (a1 > 3)))) else (if t243 = 5 then (some ((t242.length : Int) == 0)) else (some false)))) else (some false)) = some r := H
    have A8 := sq_m A80
    clear A80
    by_cases c9 : t246 = true
    ·subst c9
     have H1 : ((shuttleref01_Right.f k y239).bind fun t247 => (if t247 = true then (if a1 < 0 then (shuttlelaw11_VersionCodes.j0 k y239 a1 t242 t243 true) else (shuttlelaw11_VersionCodes.j0 k y239 a1 t242 t243 (decide (a1 > 3)))) else (if t243 = 5 then (some ((t242.length : Int) == 0)) else (some false)))) = some r := by rw [if_pos rfl] at H; exact H
     clear H
     have H := H1
     clear H1
     replace H := Option.bind_eq_some_iff.mp H
     obtain ⟨t247, A100, H⟩ := H
     replace H : (if t247 = true then (if a1 < 0 then (shuttlelaw11_VersionCodes.j0 k y239 a1 t242 t243 true) else (shuttlelaw11_VersionCodes.j0 k y239 a1 t242 t243 (decide (a1 > 3)))) else (if t243 = 5 then (some ((t242.length : Int) == 0)) else (some false))) = some r := H
     have A10 := sq_m A100
     clear A100
     by_cases c11 : t247 = true
     ·subst c11
      have H1 : (if a1 < 0 then (shuttlelaw11_VersionCodes.j0 k y239 a1 t242 t243 true) else (shuttlelaw11_VersionCodes.j0 k y239 a1 t242 t243 (decide (a1 > 3)))) = some r := by rw [if_pos rfl] at H; exact H
      clear H
      have H := H1
      clear H1
      have HC12 := sq_m H
      clear H
      go_enter Tryd.func7, Tryd.ntmps7
      go_upto_region 7 with (first | ((with_reducible refine gate_dst (N := 9) rfl ?_); (try (refine gate_guard (by rfl) ?_; dsimp only)); refine Kd.R_lit (Kd.int .u8) _ 5 ?hg (N := 9) ?hd (xs := ([] : List Int)) (inner := []) (ok := fun _ => True) (okp := fun _ => True) ?hr ?hp (fun _ hk => hk) trivial (Below.refl _ _) (Nat.le_refl _) (by simp) ?_; (case hd => rfl); (case hg => rfl); (case hr => first | (go_simp; done) | (go_simp; rfl)); (case hp => exact (Reps.none _ _)); intro v236 w13 ho14 hb hg_ hnew_; clear hg_ hnew_; (first | rw [← Ny235.out] at ho14 | (simp only [Int.reduceToNat] at ho14; rw [← Ny235.out] at ho14)); have n0_ := sq_m (Kd.R_lower ho14 (below_size (by repeat (first | (with_reducible first | exact HB.out | apply sq_b | apply sq_n | apply sq_d) | exact HB.out)))); have n1_ := sq_m (below_step (by repeat (first | (with_reducible first | exact HB.out | apply sq_b | apply sq_n | apply sq_d) | exact HB.out)) hb); clear HB; have HO237 := n0_; have HB := n1_; clear n0_ n1_; clear hb ho14; obtain ⟨i015, hi015, _, hsz15, _⟩ := info_parts info5; obtain ⟨hcut15, hA15, hC15⟩ := print_take_of (P := Tryd.prog) (Value.int .u8) 0 35 5 .i64 Tryd.underlying35 hi015 hsz15 A0 c0 l0 (ji3) (of_decide_eq_true (by first | (with_reducible assumption) | assumption)) (of_decide_eq_true (by first | (with_reducible assumption) | assumption)) HC0.out; have HR238 := sq_m (Kd.C_of_reads (h1 := fun _ => rfl) (hA15 _ (Kd.reads_of_C HR0.out))); have HC238 := sq_m hC15; clear hA15 hC15 hi015 hsz15) | ((with_reducible refine gate_builtin (b := .append) (xs := #[.tmp 9, .tmp 14]) rfl ?_); (try (refine gate_guard (by rfl) ?_; dsimp only)); at_builtin; refine Kd.R_append_rows (Kd.int .u8) (w0 := w) w.heap.size rfl (.tmp 9) (.tmp 14) 35 5 (.int .u8 0) 1 rfl Tryd.underlying35 info5 rfl (by decide) (by omega) v236 y235 (l0.take ((ji3) : Int).toNat) _ _ _ (fun _ => True) (fun _ => False) rfl rfl ?aO ?aR (fun _ _ h => h) (fun _ h => h.elim) ?aF ?aB ?aS ?aL ?_; (case aR => first | (refine reads_len (show (l0.take ((ji3) : Int).toNat).length = (ji3).toNat from (by rw [List.length_take]; have h_ : ((ji3) : Int) ≤ (l0.length : Int) := of_decide_eq_true (by first | (with_reducible assumption) | assumption); omega)) ?_; repeat (first | exact (Kd.C_below HR238.out HB.out) | (with_reducible refine Kd.C_alloc ?_ _) | (with_reducible refine Kd.C_drewN ?_ _) | (with_reducible refine Kd.C_drew ?_))) | (repeat (first | exact (Kd.C_below HR238.out HB.out) | (with_reducible refine Kd.C_alloc ?_ _) | (with_reducible refine Kd.C_drewN ?_ _) | (with_reducible refine Kd.C_drew ?_)))); (case aB => exact (by repeat (first | (with_reducible first | exact HB.out | apply sq_b | apply sq_n | apply sq_d) | exact HB.out))); (case aF => exact (fun _ _ => trivial)); (case aO => exact (by (with_reducible repeat (first | apply sq_A | apply sq_N | apply sq_D)); exact HO237.out)); (case aS => exact (below_size (by repeat (first | (with_reducible first | exact HB.out | apply sq_b | apply sq_n | apply sq_d) | exact HB.out)))); (case aL => have := LMc6.out; have hlx_ := (show (l0.take ((ji3) : Int).toNat).length = (ji3).toNat from (by rw [List.length_take]; have h_ : ((ji3) : Int) ≤ (l0.length : Int) := of_decide_eq_true (by first | (with_reducible assumption) | assumption); omega)); omega); intro v240 w16 ho hb hg hat; rw [← Ny239.out] at ho; have n0_ := sq_m (hb); have n1_ := sq_m (ho); clear HB; clear HO237; have HB := n0_; have HO241 := n1_; clear n0_ n1_; clear ho hb hg hat; obtain ⟨Ao17, co17, eo17⟩ := Kd.R_slice HO241.out; subst eo17) | ((with_reducible refine gate_callee (f := 21) rfl ?_); refine goesL_ (some 19) rfl rfl Tryd.func21 (by kernel_rfl) rfl #[.slice Ao17 y239.length co17, .int .i64 a1] rfl (by (try simp only [List.map_toArray, List.map_cons, List.map_nil]); first | done | rfl | (simp only [List.length_drop, List.length_take]; rfl)) ?_; (with_reducible refine (version_Code.calls k _ _ y239 a1 t242 t243 _ ?side1 ?side2 A7.out).mono ?_); (case side1 => repeat (first | exact (Kd.R_reads' HO241.out).2.2 | (with_reducible refine Kd.C_alloc ?_ _) | (with_reducible refine Kd.C_drewN ?_ _) | (with_reducible refine Kd.C_drew ?_))); (case side2 => exact (Kd.R_reads' HO241.out).2.1); rintro e w18 ⟨v244, rfl, ho0, hb⟩; refine ⟨_, rfl, ?_⟩; have n0_ := sq_m (Kd.R_elder' (by (with_reducible repeat (first | apply sq_A | apply sq_N | apply sq_D)); exact HO241.out) (Kd.R_base ho0) hb); have n1_ := sq_m (Kd.R_lower (Kd.R_new' ho0 (Kd.R_lt (by (with_reducible repeat (first | apply sq_A | apply sq_N | apply sq_D)); exact HO241.out))) (below_size (by repeat (first | (with_reducible first | exact HB.out | apply sq_b | apply sq_n | apply sq_d) | exact HB.out)))); have n2_ := sq_m (below_step (by repeat (first | (with_reducible first | exact HB.out | apply sq_b | apply sq_n | apply sq_d) | exact HB.out)) hb); clear HO241; clear HB; have HO241 := n0_; have HO245 := n1_; have HB := n2_; clear n0_ n1_ n2_; (try clear hb); (try clear hb2); (try clear hk); (try clear hi); (try clear ho0)) | ((with_reducible refine gate_callee (f := 19) rfl ?_); refine goesL_ (some 22) rfl rfl Tryd.func19 (by kernel_rfl) rfl #[] rfl (by (try simp only [List.map_toArray, List.map_cons, List.map_nil]); first | done | rfl | (simp only [List.length_drop, List.length_take]; rfl)) ?_; (with_reducible refine (shuttlelaw11_splits.calls k  true _ A8.out).mono ?_); rintro e w19 ⟨rfl, hb⟩; refine ⟨_, rfl, ?_⟩; have n0_ := sq_m (Kd.R_below (by (with_reducible repeat (first | apply sq_A | apply sq_N | apply sq_D)); exact HO241.out) hb); have n1_ := sq_m (Kd.R_below (by (with_reducible repeat (first | apply sq_A | apply sq_N | apply sq_D)); exact HO245.out) hb); have n2_ := sq_m (below_step (by repeat (first | (with_reducible first | exact HB.out | apply sq_b | apply sq_n | apply sq_d) | exact HB.out)) hb); clear HO241; clear HO245; clear HB; have HO241 := n0_; have HO245 := n1_; have HB := n2_; clear n0_ n1_ n2_; (try clear hb); (try clear hb2); (try clear hk); (try clear hi)) | ((with_reducible refine gate_callee (f := 15) rfl ?_); refine goesL_ (some 25) rfl rfl Tryd.func15 (by kernel_rfl) rfl #[.slice Ao17 y239.length co17] rfl (by (try simp only [List.map_toArray, List.map_cons, List.map_nil]); first | done | rfl | (simp only [List.length_drop, List.length_take]; rfl)) ?_; (with_reducible refine (shuttleref01_Right.calls k _ _ y239 true _ ?side1 ?side2 A10.out).mono ?_); (case side1 => repeat (first | exact (Kd.R_reads' HO241.out).2.2 | (with_reducible refine Kd.C_alloc ?_ _) | (with_reducible refine Kd.C_drewN ?_ _) | (with_reducible refine Kd.C_drew ?_))); (case side2 => exact (Kd.R_reads' HO241.out).2.1); rintro e w' ⟨rfl, ⟨nd, rfl⟩⟩; refine ⟨_, rfl, ?_⟩))
      (try simp only [Act.put, sq_a1, sq_a2, sq_a3])
      go_cut [39] (fun v39 wc => ∃ (kq : Nat) (x39_11 : Bool), v39 = .bool x39_11 ∧ Aside0 (shuttlelaw11_VersionCodes.j0 kq y239 a1 t242 t243 x39_11 = some r) ∧ Aside0 (kq ≤ k) ∧ Aside0 (Kd.R (Kd.int .u8) 5 wc w.heap.size (fun k_ => some k_ ≠ (v244 : Value).ownBlock) (.slice Ao17 y239.length co17) y239) ∧ Aside0 (Kd.R (Kd.int .u8) 5 wc w.heap.size (fun k_ => some k_ ≠ ((.slice Ao17 y239.length co17) : Value).ownBlock) v244 t242) ∧ Aside0 (Below w.heap.size w wc))
      case first =>
       have H := HC12.out
       clear HC12
       by_cases c20 : a1 < 0
       ·rw [if_pos c20] at H
        have c20b0 : decide (a1 < 0) = true := decide_eq_true c20
        clear c20
        (first | rw [c20b0] | (simp only [i64_w, i32_w]; rw [c20b0]) | skip)
        have H' := sq_m H
        clear H
        go_wp2
        go_meet
        case rel => exact ⟨_, (true), (by first | rfl | (simp; done) | (simp [*]; done)), H', ⟨by first | omega | exact Nat.le_refl _⟩, ⟨by (with_reducible repeat (first | apply sq_A | apply sq_N | apply sq_D)); exact Kd.R_mono HO241.out (fun _ hk => hk.2)⟩, ⟨by (with_reducible repeat (first | apply sq_A | apply sq_N | apply sq_D)); exact Kd.R_mono HO245.out (fun _ hk => hk.2)⟩, ⟨by repeat (first | (with_reducible first | exact HB.out | apply sq_b | apply sq_n | apply sq_d) | exact HB.out)⟩⟩
       ·rw [if_neg c20] at H
        have c20b0 : decide (a1 < 0) = false := decide_eq_false c20
        clear c20
        (first | rw [c20b0] | (simp only [i64_w, i32_w]; rw [c20b0]) | skip)
        have H' := sq_m H
        clear H
        go_wp2
        go_meet
        case rel => exact ⟨_, (decide (a1 > 3)), (by first | rfl | (simp; done) | (simp [*]; done)), H', ⟨by first | omega | exact Nat.le_refl _⟩, ⟨by (with_reducible repeat (first | apply sq_A | apply sq_N | apply sq_D)); exact Kd.R_mono HO241.out (fun _ hk => hk.2)⟩, ⟨by (with_reducible repeat (first | apply sq_A | apply sq_N | apply sq_D)); exact Kd.R_mono HO245.out (fun _ hk => hk.2)⟩, ⟨by repeat (first | (with_reducible first | exact HB.out | apply sq_b | apply sq_n | apply sq_d) | exact HB.out)⟩⟩
      case rest =>
       clear HC12
       try clear c1
       try clear c2
       try clear p2
       try clear c4
       try clear c4b0
       try clear c4b1
       try clear c5
       try clear c5b0
       try clear c5b1
       try clear c6
       try clear c7
       try clear c9
       try clear c11
       try clear c15
       try clear c19
       try clear c20
       try clear c20b0
       obtain ⟨kq, x39_11, rfl, HA, HJ11, HO_0, HO_5, HB⟩ := hcut
       cases kq with
       | zero => exact absurd HA.out (by simp [shuttlelaw11_VersionCodes.j0])
       | succ kj11 =>
        have H := HA.out
        clear HA
        simp only [shuttlelaw11_VersionCodes.j0] at H
        by_cases c21 : x39_11 = true
        ·subst c21
         have H1 : (if t243 = 1 then (some ((t242.length : Int) == 0)) else (some false)) = some r := by rw [if_pos rfl] at H; exact H
         clear H
         have H := H1
         clear H1
         by_cases c22 : t243 = 1
         ·rw [if_pos c22] at H
          have c22b0 : (t243 == 1) = true := beq_iff_eq.mpr c22
          have c22b1 : (t243 != 1) = false := bne_eq_false_iff_eq.mpr c22
          clear c22
          obtain rfl := Option.some.inj H
          obtain ⟨Ao23, co23, eo23⟩ := Kd.R_slice HO_5.out
          subst eo23
          go_wp2
          go_ret
          exact ⟨by first | rfl | (simp [errW_none, errW_some] <;> rfl) | (simp only [← hji3]; first | rfl | (simp [errW_none, errW_some] <;> rfl)) | (simp [*, errW_none, errW_some] <;> rfl), by repeat (first | (with_reducible first | exact HB.out | apply sq_b | apply sq_n | apply sq_d) | exact HB.out)⟩
         ·rw [if_neg c22] at H
          exact absurd ((Option.some.inj H).trans hr_) (by decide)
        ·replace c21 := Bool.eq_false_iff.mpr c21
         subst c21
         have H1 : ((version_Alone.f kj11 t242 a1).bind fun bt248 => (if t243 = 0 then ((shuttleref06_Code.f kj11 y239).bind fun t252 => ((shuttleref10_Pick.f kj11 t252 a1).bind fun t255 => (if (strOfNums t242).toList = (strOfNums t255).toList then ((version_Bits.f (y239.length : Int)).bind fun t258 => (if (t242.length : Int) = t258 then (if bt248.2 = 0 then (some ((strOfNums bt248.1).toList == (strOfNums y239).toList)) else (some false)) else (some false))) else (some false)))) else (some false))) = some r := by rw [if_neg (show ¬ (false = true) by decide)] at H; exact H
         clear H
         have H := H1
         clear H1
         replace H := Option.bind_eq_some_iff.mp H
         obtain ⟨⟨t248, t249⟩, A240, H⟩ := H
         replace H : (if t243 = 0 then ((shuttleref06_Code.f kj11 y239).bind fun t252 => ((shuttleref10_Pick.f kj11 t252 a1).bind fun t255 => (if (strOfNums t242).toList = (strOfNums t255).toList then ((version_Bits.f (y239.length : Int)).bind fun t258 => (if (t242.length : Int) = t258 then (if t249 = 0 then (some ((strOfNums t248).toList == (strOfNums y239).toList)) else (some false)) else (some false))) else (some false)))) else (some false)) = some r := H
         have A24 := sq_m A240
         clear A240
         by_cases c25 : t243 = 0
         ·rw [if_pos c25] at H
          have c25b0 : (t243 == 0) = true := beq_iff_eq.mpr c25
          have c25b1 : (t243 != 0) = false := bne_eq_false_iff_eq.mpr c25
          clear c25
          replace H := Option.bind_eq_some_iff.mp H
          obtain ⟨t252, A260, H⟩ := H
          replace H : ((shuttleref10_Pick.f kj11 t252 a1).bind fun t255 => (if (strOfNums t242).toList = (strOfNums t255).toList then ((version_Bits.f (y239.length : Int)).bind fun t258 => (if (t242.length : Int) = t258 then (if t249 = 0 then (some ((strOfNums t248).toList == (strOfNums y239).toList)) else (some false)) else (some false))) else (some false))) = some r := H
          have A26 := sq_m A260
          clear A260
          replace H := Option.bind_eq_some_iff.mp H
          obtain ⟨t255, A270, H⟩ := H
          replace H : (if (strOfNums t242).toList = (strOfNums t255).toList then ((version_Bits.f (y239.length : Int)).bind fun t258 => (if (t242.length : Int) = t258 then (if t249 = 0 then (some ((strOfNums t248).toList == (strOfNums y239).toList)) else (some false)) else (some false))) else (some false)) = some r := H
          have A27 := sq_m A270
          clear A270
          by_cases c28 : (strOfNums t242).toList = (strOfNums t255).toList
          ·rw [if_pos c28] at H
           have c28b0 : ((strOfNums t242).toList == (strOfNums t255).toList) = true := beq_iff_eq.mpr c28
           have c28b1 : ((strOfNums t242).toList != (strOfNums t255).toList) = false := bne_eq_false_iff_eq.mpr c28
           clear c28
           replace H := Option.bind_eq_some_iff.mp H
           obtain ⟨t258, A290, H⟩ := H
           replace H : (if (t242.length : Int) = t258 then (if t249 = 0 then (some ((strOfNums t248).toList == (strOfNums y239).toList)) else (some false)) else (some false)) = some r := H
           have A29 := sq_m A290
           clear A290
           by_cases c30 : (t242.length : Int) = t258
           ·rw [if_pos c30] at H
            have c30b0 : ((t242.length : Int) == t258) = true := beq_iff_eq.mpr c30
            have c30b1 : ((t242.length : Int) != t258) = false := bne_eq_false_iff_eq.mpr c30
            clear c30
            by_cases c31 : t249 = 0
            ·rw [if_pos c31] at H
             have c31b0 : (t249 == 0) = true := beq_iff_eq.mpr c31
             have c31b1 : (t249 != 0) = false := bne_eq_false_iff_eq.mpr c31
             clear c31
             obtain rfl := Option.some.inj H
             obtain ⟨Ao32, co32, eo32⟩ := Kd.R_slice HO_5.out
             subst eo32
             try go_wp2_with (first | ((with_reducible refine gate_callee (f := 18) rfl ?_); refine goesL_ (some 50) rfl rfl Tryd.func18 (by kernel_rfl) rfl #[.slice Ao32 t242.length co32, .int .i64 a1] rfl (by (try simp only [List.map_toArray, List.map_cons, List.map_nil]); first | done | rfl | (simp only [List.length_drop, List.length_take]; rfl)) ?_; (with_reducible refine (version_Alone.calls kj11 _ _ t242 a1 t248 t249 _ ?side1 ?side2 A24.out).mono ?_); (case side1 => repeat (first | exact (Kd.R_reads' HO_5.out).2.2 | (with_reducible refine Kd.C_alloc ?_ _) | (with_reducible refine Kd.C_drewN ?_ _) | (with_reducible refine Kd.C_drew ?_))); (case side2 => exact (Kd.R_reads' HO_5.out).2.1); rintro e w33 ⟨v250, rfl, ho0, hb⟩; refine ⟨_, rfl, ?_⟩; have n0_ := sq_m (Kd.R_elder' (by (with_reducible repeat (first | apply sq_A | apply sq_N | apply sq_D)); exact HO_0.out) (Kd.R_base ho0) hb); have n1_ := sq_m (Kd.R_elder' (by (with_reducible repeat (first | apply sq_A | apply sq_N | apply sq_D)); exact HO_5.out) (Kd.R_base ho0) hb); have n2_ := sq_m (Kd.R_lower (Kd.R_new' (Kd.R_new' ho0 (Kd.R_lt (by (with_reducible repeat (first | apply sq_A | apply sq_N | apply sq_D)); exact HO_0.out))) (Kd.R_lt (by (with_reducible repeat (first | apply sq_A | apply sq_N | apply sq_D)); exact HO_5.out))) (below_size (by repeat (first | (with_reducible first | exact HB.out | apply sq_b | apply sq_n | apply sq_d) | exact HB.out)))); have n3_ := sq_m (below_step (by repeat (first | (with_reducible first | exact HB.out | apply sq_b | apply sq_n | apply sq_d) | exact HB.out)) hb); clear HO_0; clear HO_5; clear HB; have HO_0 := n0_; have HO_5 := n1_; have HO251 := n2_; have HB := n3_; clear n0_ n1_ n2_ n3_; (try clear hb); (try clear hb2); (try clear hk); (try clear hi); (try clear ho0)))
             have n0_ := sq_m (sq_D HO_0.out)
             have n1_ := sq_m (sq_D HO_5.out)
             have n2_ := sq_m (sq_D HO251.out)
             have n3_ := sq_m (sq_d HB.out)
             clear HO_0
             clear HO_5
             clear HO251
             clear HB
             have HO_0 := n0_
             have HO_5 := n1_
             have HO251 := n2_
             have HB := n3_
             clear n0_ n1_ n2_ n3_
             refine start_ (n := 32) (S := fun w' => True) (ds := []) mk0 (by kernel_rfl) rfl rfl trivial (fun hHeld => ?_); refine with_tabW shuttlelaw11_VersionCodes.tab10 shuttlelaw11_VersionCodes.bits10 (fun HT_ HW_ => ?_)
             generalize w33.drew = w34 at HO_0 HO_5 HO251 HB hHeld ⊢
             refine pure_ (i := 0) (N := some 53) (v := ?_) (a' := ?_) mk1 rfl rfl (any_of HT_.out (by kernel_rfl)) (fun _ _ _ h => h) (Or.inl ⟨by rfl, ?_⟩) ?_ ?_; rotate_left; (intro w'; go_simp; with_reducible rfl); rotate_left; (simp only [Act.put, sq_a1, sq_a2, sq_a3, i64_w, i32_w]; rfl)
             refine pure_ (i := 1) (N := some 54) (v := ?_) (a' := ?_) mk2 rfl rfl (any_of HT_.out (by kernel_rfl)) (fun _ _ _ h => h) (Or.inl ⟨by rfl, ?_⟩) ?_ ?_; rotate_left; (intro w'; go_simp; with_reducible rfl); rotate_left; (simp only [Act.put, sq_a1, sq_a2, sq_a3, i64_w, i32_w]; rfl)
             refine pure_ (i := 2) (N := some 55) (v := ?_) (a' := ?_) mk3 rfl rfl (any_of HT_.out (by kernel_rfl)) (fun _ _ _ h => h) (Or.inl ⟨by rfl, ?_⟩) ?_ ?_; rotate_left; (intro w'; go_simp; with_reducible rfl); rotate_left; (simp only [Act.put, sq_a1, sq_a2, sq_a3, i64_w, i32_w]; rfl)
             refine pure_ (i := 3) (N := some 56) (v := ?_) (a' := ?_) mk4 rfl rfl (any_of HT_.out (by kernel_rfl)) (fun _ _ _ h => h) (Or.inl ⟨by rfl, ?_⟩) ?_ ?_; rotate_left; (intro w'; go_simp; with_reducible rfl); rotate_left; (simp only [Act.put, sq_a1, sq_a2, sq_a3, i64_w, i32_w]; rfl)
             refine pure_ (i := 5) (N := some 58) (v := ?_) (a' := ?_) mk5 rfl rfl (any_of HT_.out (by kernel_rfl)) (fun _ _ _ h => h) (Or.inl ⟨by rfl, ?_⟩) ?_ ?_; rotate_left; (intro w'; go_simp; with_reducible rfl); rotate_left; (simp only [Act.put, sq_a1, sq_a2, sq_a3, i64_w, i32_w]; rfl)
             refine pure_ (i := 7) (N := some 60) (v := ?_) (a' := ?_) mk6 rfl rfl (any_of HT_.out (by kernel_rfl)) (fun _ _ _ h => h) (Or.inl ⟨by rfl, ?_⟩) ?_ ?_; rotate_left; (intro w'; go_simp; with_reducible rfl); rotate_left; (simp only [Act.put, sq_a1, sq_a2, sq_a3, i64_w, i32_w]; rfl)
             refine join_ (σ := Value × Value) 3 mk7 (fun s_ => [(57, .string (strOfNums t242)), (59, s_.1), (61, s_.2), (62, .string (strOfNums t255)), (70, .int .i64 t258), (79, .string (strOfNums t248)), (81, .string (strOfNums y239)), (63, .bool ((strOfNums t242).toList == (strOfNums t255).toList)), (64, .bool ((strOfNums t242).toList == (strOfNums t255).toList)), (65, .bool ((strOfNums t242).toList == (strOfNums t255).toList)), (66, .slice Ao32 t242.length co32), (67, .int .i64 (t242.length : Int)), (68, .slice Ao17 y239.length co17), (69, .int .i64 (y239.length : Int)), (71, .bool ((t242.length : Int) == t258)), (72, .bool ((t242.length : Int) == t258)), (73, .bool ((t242.length : Int) == t258)), (74, .int .i64 t249), (75, .bool (t249 == 0)), (76, .bool (t249 == 0)), (77, .bool (t249 == 0)), (78, v250), (80, .slice Ao17 y239.length co17)]) (fun s_ w' => (Kd.R (Kd.int .u8) 5 w' w.heap.size (fun k_ => some k_ ≠ (s_.1 : Value).ownBlock ∧ some k_ ≠ (s_.2 : Value).ownBlock ∧ some k_ ≠ (.slice Ao17 y239.length co17 : Value).ownBlock ∧ some k_ ≠ (.slice Ao32 t242.length co32 : Value).ownBlock) v250 t248) ∧ (Kd.R (Kd.int .u8) 5 w' w.heap.size (fun k_ => some k_ ≠ (v250 : Value).ownBlock ∧ some k_ ≠ (s_.2 : Value).ownBlock ∧ some k_ ≠ (.slice Ao17 y239.length co17 : Value).ownBlock ∧ some k_ ≠ (.slice Ao32 t242.length co32 : Value).ownBlock) s_.1 t252) ∧ (Kd.R (Kd.int .u8) 5 w' w.heap.size (fun k_ => some k_ ≠ (v250 : Value).ownBlock ∧ some k_ ≠ (s_.1 : Value).ownBlock ∧ some k_ ≠ (.slice Ao17 y239.length co17 : Value).ownBlock ∧ some k_ ≠ (.slice Ao32 t242.length co32 : Value).ownBlock) s_.2 t255) ∧ (Kd.R (Kd.int .u8) 5 w' w.heap.size (fun k_ => some k_ ≠ (v250 : Value).ownBlock ∧ some k_ ≠ (s_.1 : Value).ownBlock ∧ some k_ ≠ (s_.2 : Value).ownBlock ∧ some k_ ≠ (.slice Ao32 t242.length co32 : Value).ownBlock) (.slice Ao17 y239.length co17) y239) ∧ (Kd.R (Kd.int .u8) 5 w' w.heap.size (fun k_ => some k_ ≠ (v250 : Value).ownBlock ∧ some k_ ≠ (s_.1 : Value).ownBlock ∧ some k_ ≠ (s_.2 : Value).ownBlock ∧ some k_ ≠ (.slice Ao17 y239.length co17 : Value).ownBlock) (.slice Ao32 t242.length co32) t242) ∧ (Below w.heap.size w w')) ?_ ?_
             rotate_left
             ·intro hJ4_6_8_9_17_26_28
              refine join_ (σ := Value × Value) 4 mk8 (fun s_ => [(57, .string (strOfNums t242)), (59, s_.1), (61, s_.2), (62, .string (strOfNums t255)), (70, .int .i64 t258), (79, .string (strOfNums t248)), (63, .bool ((strOfNums t242).toList == (strOfNums t255).toList)), (64, .bool ((strOfNums t242).toList == (strOfNums t255).toList)), (65, .bool ((strOfNums t242).toList == (strOfNums t255).toList)), (66, .slice Ao32 t242.length co32), (67, .int .i64 (t242.length : Int)), (68, .slice Ao17 y239.length co17), (69, .int .i64 (y239.length : Int)), (71, .bool ((t242.length : Int) == t258)), (72, .bool ((t242.length : Int) == t258)), (73, .bool ((t242.length : Int) == t258)), (74, .int .i64 t249), (75, .bool (t249 == 0)), (76, .bool (t249 == 0)), (77, .bool (t249 == 0)), (78, v250), (80, .slice Ao17 y239.length co17)]) (fun s_ w' => (Kd.R (Kd.int .u8) 5 w' w.heap.size (fun k_ => some k_ ≠ (s_.1 : Value).ownBlock ∧ some k_ ≠ (s_.2 : Value).ownBlock ∧ some k_ ≠ (.slice Ao17 y239.length co17 : Value).ownBlock ∧ some k_ ≠ (.slice Ao32 t242.length co32 : Value).ownBlock) v250 t248) ∧ (Kd.R (Kd.int .u8) 5 w' w.heap.size (fun k_ => some k_ ≠ (v250 : Value).ownBlock ∧ some k_ ≠ (s_.2 : Value).ownBlock ∧ some k_ ≠ (.slice Ao17 y239.length co17 : Value).ownBlock ∧ some k_ ≠ (.slice Ao32 t242.length co32 : Value).ownBlock) s_.1 t252) ∧ (Kd.R (Kd.int .u8) 5 w' w.heap.size (fun k_ => some k_ ≠ (v250 : Value).ownBlock ∧ some k_ ≠ (s_.1 : Value).ownBlock ∧ some k_ ≠ (.slice Ao17 y239.length co17 : Value).ownBlock ∧ some k_ ≠ (.slice Ao32 t242.length co32 : Value).ownBlock) s_.2 t255) ∧ (Kd.R (Kd.int .u8) 5 w' w.heap.size (fun k_ => some k_ ≠ (v250 : Value).ownBlock ∧ some k_ ≠ (s_.1 : Value).ownBlock ∧ some k_ ≠ (s_.2 : Value).ownBlock ∧ some k_ ≠ (.slice Ao32 t242.length co32 : Value).ownBlock) (.slice Ao17 y239.length co17) y239) ∧ (Kd.R (Kd.int .u8) 5 w' w.heap.size (fun k_ => some k_ ≠ (v250 : Value).ownBlock ∧ some k_ ≠ (s_.1 : Value).ownBlock ∧ some k_ ≠ (s_.2 : Value).ownBlock ∧ some k_ ≠ (.slice Ao17 y239.length co17 : Value).ownBlock) (.slice Ao32 t242.length co32) t242) ∧ (Below w.heap.size w w')) ?_ ?_
              rotate_left
              ·intro hJ4_6_8_9_17_26
               refine join_ (σ := Value × Value) 4 mk9 (fun s_ => [(57, .string (strOfNums t242)), (59, s_.1), (61, s_.2), (62, .string (strOfNums t255)), (70, .int .i64 t258), (81, .string (strOfNums y239)), (63, .bool ((strOfNums t242).toList == (strOfNums t255).toList)), (64, .bool ((strOfNums t242).toList == (strOfNums t255).toList)), (65, .bool ((strOfNums t242).toList == (strOfNums t255).toList)), (66, .slice Ao32 t242.length co32), (67, .int .i64 (t242.length : Int)), (68, .slice Ao17 y239.length co17), (69, .int .i64 (y239.length : Int)), (71, .bool ((t242.length : Int) == t258)), (72, .bool ((t242.length : Int) == t258)), (73, .bool ((t242.length : Int) == t258)), (74, .int .i64 t249), (75, .bool (t249 == 0)), (76, .bool (t249 == 0)), (77, .bool (t249 == 0)), (78, v250), (80, .slice Ao17 y239.length co17)]) (fun s_ w' => (Kd.R (Kd.int .u8) 5 w' w.heap.size (fun k_ => some k_ ≠ (s_.1 : Value).ownBlock ∧ some k_ ≠ (s_.2 : Value).ownBlock ∧ some k_ ≠ (.slice Ao17 y239.length co17 : Value).ownBlock ∧ some k_ ≠ (.slice Ao32 t242.length co32 : Value).ownBlock) v250 t248) ∧ (Kd.R (Kd.int .u8) 5 w' w.heap.size (fun k_ => some k_ ≠ (v250 : Value).ownBlock ∧ some k_ ≠ (s_.2 : Value).ownBlock ∧ some k_ ≠ (.slice Ao17 y239.length co17 : Value).ownBlock ∧ some k_ ≠ (.slice Ao32 t242.length co32 : Value).ownBlock) s_.1 t252) ∧ (Kd.R (Kd.int .u8) 5 w' w.heap.size (fun k_ => some k_ ≠ (v250 : Value).ownBlock ∧ some k_ ≠ (s_.1 : Value).ownBlock ∧ some k_ ≠ (.slice Ao17 y239.length co17 : Value).ownBlock ∧ some k_ ≠ (.slice Ao32 t242.length co32 : Value).ownBlock) s_.2 t255) ∧ (Kd.R (Kd.int .u8) 5 w' w.heap.size (fun k_ => some k_ ≠ (v250 : Value).ownBlock ∧ some k_ ≠ (s_.1 : Value).ownBlock ∧ some k_ ≠ (s_.2 : Value).ownBlock ∧ some k_ ≠ (.slice Ao32 t242.length co32 : Value).ownBlock) (.slice Ao17 y239.length co17) y239) ∧ (Kd.R (Kd.int .u8) 5 w' w.heap.size (fun k_ => some k_ ≠ (v250 : Value).ownBlock ∧ some k_ ≠ (s_.1 : Value).ownBlock ∧ some k_ ≠ (s_.2 : Value).ownBlock ∧ some k_ ≠ (.slice Ao17 y239.length co17 : Value).ownBlock) (.slice Ao32 t242.length co32) t242) ∧ (Below w.heap.size w w')) ?_ ?_
               rotate_left
               ·intro hJ4_6_8_9_17_28
                refine join_ (σ := Value × Value) 5 mk10 (fun s_ => [(57, .string (strOfNums t242)), (59, s_.1), (61, s_.2), (62, .string (strOfNums t255)), (70, .int .i64 t258), (63, .bool ((strOfNums t242).toList == (strOfNums t255).toList)), (64, .bool ((strOfNums t242).toList == (strOfNums t255).toList)), (65, .bool ((strOfNums t242).toList == (strOfNums t255).toList)), (66, .slice Ao32 t242.length co32), (67, .int .i64 (t242.length : Int)), (68, .slice Ao17 y239.length co17), (69, .int .i64 (y239.length : Int)), (71, .bool ((t242.length : Int) == t258)), (72, .bool ((t242.length : Int) == t258)), (73, .bool ((t242.length : Int) == t258)), (74, .int .i64 t249), (75, .bool (t249 == 0)), (76, .bool (t249 == 0)), (77, .bool (t249 == 0)), (78, v250), (80, .slice Ao17 y239.length co17)]) (fun s_ w' => (Kd.R (Kd.int .u8) 5 w' w.heap.size (fun k_ => some k_ ≠ (s_.1 : Value).ownBlock ∧ some k_ ≠ (s_.2 : Value).ownBlock ∧ some k_ ≠ (.slice Ao17 y239.length co17 : Value).ownBlock ∧ some k_ ≠ (.slice Ao32 t242.length co32 : Value).ownBlock) v250 t248) ∧ (Kd.R (Kd.int .u8) 5 w' w.heap.size (fun k_ => some k_ ≠ (v250 : Value).ownBlock ∧ some k_ ≠ (s_.2 : Value).ownBlock ∧ some k_ ≠ (.slice Ao17 y239.length co17 : Value).ownBlock ∧ some k_ ≠ (.slice Ao32 t242.length co32 : Value).ownBlock) s_.1 t252) ∧ (Kd.R (Kd.int .u8) 5 w' w.heap.size (fun k_ => some k_ ≠ (v250 : Value).ownBlock ∧ some k_ ≠ (s_.1 : Value).ownBlock ∧ some k_ ≠ (.slice Ao17 y239.length co17 : Value).ownBlock ∧ some k_ ≠ (.slice Ao32 t242.length co32 : Value).ownBlock) s_.2 t255) ∧ (Kd.R (Kd.int .u8) 5 w' w.heap.size (fun k_ => some k_ ≠ (v250 : Value).ownBlock ∧ some k_ ≠ (s_.1 : Value).ownBlock ∧ some k_ ≠ (s_.2 : Value).ownBlock ∧ some k_ ≠ (.slice Ao32 t242.length co32 : Value).ownBlock) (.slice Ao17 y239.length co17) y239) ∧ (Kd.R (Kd.int .u8) 5 w' w.heap.size (fun k_ => some k_ ≠ (v250 : Value).ownBlock ∧ some k_ ≠ (s_.1 : Value).ownBlock ∧ some k_ ≠ (s_.2 : Value).ownBlock ∧ some k_ ≠ (.slice Ao17 y239.length co17 : Value).ownBlock) (.slice Ao32 t242.length co32) t242) ∧ (Below w.heap.size w w')) ?_ ?_
                rotate_left
                ·intro hJ4_6_8_9_17
                 refine join_ (σ := Value × Value) 15 mk11 (fun s_ => [(57, .string (strOfNums t242)), (59, s_.1), (61, s_.2), (62, .string (strOfNums t255)), (63, .bool ((strOfNums t242).toList == (strOfNums t255).toList)), (64, .bool ((strOfNums t242).toList == (strOfNums t255).toList)), (65, .bool ((strOfNums t242).toList == (strOfNums t255).toList)), (66, .slice Ao32 t242.length co32), (67, .int .i64 (t242.length : Int)), (68, .slice Ao17 y239.length co17), (69, .int .i64 (y239.length : Int))]) (fun s_ w' => (Kd.R (Kd.int .u8) 5 w' w.heap.size (fun k_ => some k_ ≠ (s_.1 : Value).ownBlock ∧ some k_ ≠ (s_.2 : Value).ownBlock ∧ some k_ ≠ (.slice Ao17 y239.length co17 : Value).ownBlock ∧ some k_ ≠ (.slice Ao32 t242.length co32 : Value).ownBlock) v250 t248) ∧ (Kd.R (Kd.int .u8) 5 w' w.heap.size (fun k_ => some k_ ≠ (v250 : Value).ownBlock ∧ some k_ ≠ (s_.2 : Value).ownBlock ∧ some k_ ≠ (.slice Ao17 y239.length co17 : Value).ownBlock ∧ some k_ ≠ (.slice Ao32 t242.length co32 : Value).ownBlock) s_.1 t252) ∧ (Kd.R (Kd.int .u8) 5 w' w.heap.size (fun k_ => some k_ ≠ (v250 : Value).ownBlock ∧ some k_ ≠ (s_.1 : Value).ownBlock ∧ some k_ ≠ (.slice Ao17 y239.length co17 : Value).ownBlock ∧ some k_ ≠ (.slice Ao32 t242.length co32 : Value).ownBlock) s_.2 t255) ∧ (Kd.R (Kd.int .u8) 5 w' w.heap.size (fun k_ => some k_ ≠ (v250 : Value).ownBlock ∧ some k_ ≠ (s_.1 : Value).ownBlock ∧ some k_ ≠ (s_.2 : Value).ownBlock ∧ some k_ ≠ (.slice Ao32 t242.length co32 : Value).ownBlock) (.slice Ao17 y239.length co17) y239) ∧ (Kd.R (Kd.int .u8) 5 w' w.heap.size (fun k_ => some k_ ≠ (v250 : Value).ownBlock ∧ some k_ ≠ (s_.1 : Value).ownBlock ∧ some k_ ≠ (s_.2 : Value).ownBlock ∧ some k_ ≠ (.slice Ao17 y239.length co17 : Value).ownBlock) (.slice Ao32 t242.length co32) t242) ∧ (Below w.heap.size w w')) ?_ ?_
                 rotate_left
                 ·intro hJ4_6_8_9
                  refine join_ (σ := Value × Value) 23 mk12 (fun s_ => [(57, .string (strOfNums t242)), (59, s_.1), (61, s_.2)]) (fun s_ w' => (Kd.R (Kd.int .u8) 5 w' w.heap.size (fun k_ => some k_ ≠ (s_.1 : Value).ownBlock ∧ some k_ ≠ (s_.2 : Value).ownBlock ∧ some k_ ≠ (.slice Ao17 y239.length co17 : Value).ownBlock ∧ some k_ ≠ (.slice Ao32 t242.length co32 : Value).ownBlock) v250 t248) ∧ (Kd.R (Kd.int .u8) 5 w' w.heap.size (fun k_ => some k_ ≠ (v250 : Value).ownBlock ∧ some k_ ≠ (s_.2 : Value).ownBlock ∧ some k_ ≠ (.slice Ao17 y239.length co17 : Value).ownBlock ∧ some k_ ≠ (.slice Ao32 t242.length co32 : Value).ownBlock) s_.1 t252) ∧ (Kd.R (Kd.int .u8) 5 w' w.heap.size (fun k_ => some k_ ≠ (v250 : Value).ownBlock ∧ some k_ ≠ (s_.1 : Value).ownBlock ∧ some k_ ≠ (.slice Ao17 y239.length co17 : Value).ownBlock ∧ some k_ ≠ (.slice Ao32 t242.length co32 : Value).ownBlock) s_.2 t255) ∧ (Kd.R (Kd.int .u8) 5 w' w.heap.size (fun k_ => some k_ ≠ (v250 : Value).ownBlock ∧ some k_ ≠ (s_.1 : Value).ownBlock ∧ some k_ ≠ (s_.2 : Value).ownBlock ∧ some k_ ≠ (.slice Ao32 t242.length co32 : Value).ownBlock) (.slice Ao17 y239.length co17) y239) ∧ (Kd.R (Kd.int .u8) 5 w' w.heap.size (fun k_ => some k_ ≠ (v250 : Value).ownBlock ∧ some k_ ≠ (s_.1 : Value).ownBlock ∧ some k_ ≠ (s_.2 : Value).ownBlock ∧ some k_ ≠ (.slice Ao17 y239.length co17 : Value).ownBlock) (.slice Ao32 t242.length co32) t242) ∧ (Below w.heap.size w w')) ?_ ?_
                  rotate_left
                  ·intro hJ4_6_8
                   refine join_ (σ := Value × Value) 23 mk13 (fun s_ => [(59, s_.1), (61, s_.2), (62, .string (strOfNums t255))]) (fun s_ w' => (Kd.R (Kd.int .u8) 5 w' w.heap.size (fun k_ => some k_ ≠ (s_.1 : Value).ownBlock ∧ some k_ ≠ (s_.2 : Value).ownBlock ∧ some k_ ≠ (.slice Ao17 y239.length co17 : Value).ownBlock ∧ some k_ ≠ (.slice Ao32 t242.length co32 : Value).ownBlock) v250 t248) ∧ (Kd.R (Kd.int .u8) 5 w' w.heap.size (fun k_ => some k_ ≠ (v250 : Value).ownBlock ∧ some k_ ≠ (s_.2 : Value).ownBlock ∧ some k_ ≠ (.slice Ao17 y239.length co17 : Value).ownBlock ∧ some k_ ≠ (.slice Ao32 t242.length co32 : Value).ownBlock) s_.1 t252) ∧ (Kd.R (Kd.int .u8) 5 w' w.heap.size (fun k_ => some k_ ≠ (v250 : Value).ownBlock ∧ some k_ ≠ (s_.1 : Value).ownBlock ∧ some k_ ≠ (.slice Ao17 y239.length co17 : Value).ownBlock ∧ some k_ ≠ (.slice Ao32 t242.length co32 : Value).ownBlock) s_.2 t255) ∧ (Kd.R (Kd.int .u8) 5 w' w.heap.size (fun k_ => some k_ ≠ (v250 : Value).ownBlock ∧ some k_ ≠ (s_.1 : Value).ownBlock ∧ some k_ ≠ (s_.2 : Value).ownBlock ∧ some k_ ≠ (.slice Ao32 t242.length co32 : Value).ownBlock) (.slice Ao17 y239.length co17) y239) ∧ (Kd.R (Kd.int .u8) 5 w' w.heap.size (fun k_ => some k_ ≠ (v250 : Value).ownBlock ∧ some k_ ≠ (s_.1 : Value).ownBlock ∧ some k_ ≠ (s_.2 : Value).ownBlock ∧ some k_ ≠ (.slice Ao17 y239.length co17 : Value).ownBlock) (.slice Ao32 t242.length co32) t242) ∧ (Below w.heap.size w w')) ?_ ?_
                   rotate_left
                   ·intro hJ6_8_9
                    refine join_ (σ := Value) 24 mk14 (fun s_ => [(57, .string (strOfNums t242)), (59, s_)]) (fun s_ w' => (Kd.R (Kd.int .u8) 5 w' w.heap.size (fun k_ => some k_ ≠ (s_ : Value).ownBlock ∧ some k_ ≠ (.slice Ao17 y239.length co17 : Value).ownBlock ∧ some k_ ≠ (.slice Ao32 t242.length co32 : Value).ownBlock) v250 t248) ∧ (Kd.R (Kd.int .u8) 5 w' w.heap.size (fun k_ => some k_ ≠ (v250 : Value).ownBlock ∧ some k_ ≠ (.slice Ao17 y239.length co17 : Value).ownBlock ∧ some k_ ≠ (.slice Ao32 t242.length co32 : Value).ownBlock) s_ t252) ∧ (Kd.R (Kd.int .u8) 5 w' w.heap.size (fun k_ => some k_ ≠ (v250 : Value).ownBlock ∧ some k_ ≠ (s_ : Value).ownBlock ∧ some k_ ≠ (.slice Ao32 t242.length co32 : Value).ownBlock) (.slice Ao17 y239.length co17) y239) ∧ (Kd.R (Kd.int .u8) 5 w' w.heap.size (fun k_ => some k_ ≠ (v250 : Value).ownBlock ∧ some k_ ≠ (s_ : Value).ownBlock ∧ some k_ ≠ (.slice Ao17 y239.length co17 : Value).ownBlock) (.slice Ao32 t242.length co32) t242) ∧ (Below w.heap.size w w')) ?_ ?_
                    rotate_left
                    ·intro hJ4_6
                     refine join_ (σ := Value × Value) 24 mk15 (fun s_ => [(59, s_.1), (61, s_.2)]) (fun s_ w' => (Kd.R (Kd.int .u8) 5 w' w.heap.size (fun k_ => some k_ ≠ (s_.1 : Value).ownBlock ∧ some k_ ≠ (s_.2 : Value).ownBlock ∧ some k_ ≠ (.slice Ao17 y239.length co17 : Value).ownBlock ∧ some k_ ≠ (.slice Ao32 t242.length co32 : Value).ownBlock) v250 t248) ∧ (Kd.R (Kd.int .u8) 5 w' w.heap.size (fun k_ => some k_ ≠ (v250 : Value).ownBlock ∧ some k_ ≠ (s_.2 : Value).ownBlock ∧ some k_ ≠ (.slice Ao17 y239.length co17 : Value).ownBlock ∧ some k_ ≠ (.slice Ao32 t242.length co32 : Value).ownBlock) s_.1 t252) ∧ (Kd.R (Kd.int .u8) 5 w' w.heap.size (fun k_ => some k_ ≠ (v250 : Value).ownBlock ∧ some k_ ≠ (s_.1 : Value).ownBlock ∧ some k_ ≠ (.slice Ao17 y239.length co17 : Value).ownBlock ∧ some k_ ≠ (.slice Ao32 t242.length co32 : Value).ownBlock) s_.2 t255) ∧ (Kd.R (Kd.int .u8) 5 w' w.heap.size (fun k_ => some k_ ≠ (v250 : Value).ownBlock ∧ some k_ ≠ (s_.1 : Value).ownBlock ∧ some k_ ≠ (s_.2 : Value).ownBlock ∧ some k_ ≠ (.slice Ao32 t242.length co32 : Value).ownBlock) (.slice Ao17 y239.length co17) y239) ∧ (Kd.R (Kd.int .u8) 5 w' w.heap.size (fun k_ => some k_ ≠ (v250 : Value).ownBlock ∧ some k_ ≠ (s_.1 : Value).ownBlock ∧ some k_ ≠ (s_.2 : Value).ownBlock ∧ some k_ ≠ (.slice Ao17 y239.length co17 : Value).ownBlock) (.slice Ao32 t242.length co32) t242) ∧ (Below w.heap.size w w')) ?_ ?_
                     rotate_left
                     ·intro hJ6_8
                      refine join_ (σ := Unit) 25 mk16 (fun s_ => [(57, .string (strOfNums t242))]) (fun s_ w' => (Kd.R (Kd.int .u8) 5 w' w.heap.size (fun k_ => some k_ ≠ (.slice Ao17 y239.length co17 : Value).ownBlock ∧ some k_ ≠ (.slice Ao32 t242.length co32 : Value).ownBlock) v250 t248) ∧ (Kd.R (Kd.int .u8) 5 w' w.heap.size (fun k_ => some k_ ≠ (v250 : Value).ownBlock ∧ some k_ ≠ (.slice Ao32 t242.length co32 : Value).ownBlock) (.slice Ao17 y239.length co17) y239) ∧ (Kd.R (Kd.int .u8) 5 w' w.heap.size (fun k_ => some k_ ≠ (v250 : Value).ownBlock ∧ some k_ ≠ (.slice Ao17 y239.length co17 : Value).ownBlock) (.slice Ao32 t242.length co32) t242) ∧ (Below w.heap.size w w')) ?_ ?_
                      rotate_left
                      ·intro hJ4
                       refine join_ (σ := Value) 25 mk17 (fun s_ => [(59, s_)]) (fun s_ w' => (Kd.R (Kd.int .u8) 5 w' w.heap.size (fun k_ => some k_ ≠ (s_ : Value).ownBlock ∧ some k_ ≠ (.slice Ao17 y239.length co17 : Value).ownBlock ∧ some k_ ≠ (.slice Ao32 t242.length co32 : Value).ownBlock) v250 t248) ∧ (Kd.R (Kd.int .u8) 5 w' w.heap.size (fun k_ => some k_ ≠ (v250 : Value).ownBlock ∧ some k_ ≠ (.slice Ao17 y239.length co17 : Value).ownBlock ∧ some k_ ≠ (.slice Ao32 t242.length co32 : Value).ownBlock) s_ t252) ∧ (Kd.R (Kd.int .u8) 5 w' w.heap.size (fun k_ => some k_ ≠ (v250 : Value).ownBlock ∧ some k_ ≠ (s_ : Value).ownBlock ∧ some k_ ≠ (.slice Ao32 t242.length co32 : Value).ownBlock) (.slice Ao17 y239.length co17) y239) ∧ (Kd.R (Kd.int .u8) 5 w' w.heap.size (fun k_ => some k_ ≠ (v250 : Value).ownBlock ∧ some k_ ≠ (s_ : Value).ownBlock ∧ some k_ ≠ (.slice Ao17 y239.length co17 : Value).ownBlock) (.slice Ao32 t242.length co32) t242) ∧ (Below w.heap.size w w')) ?_ ?_
                       rotate_left
                       ·intro hJ6
                        refine two_ (i := 4) (j := 6) (Ni := some 57) (Nj := some 59) mk16 mk17 rfl rfl rfl rfl (two_of HT_.out (by kernel_rfl)) (by decide) (by decide) (fun K hK => ?_) (fun K hK => ?_)
                        ·skip
                         (have hcv35 := own_string (P := Tryd.prog) Tryd.underlying35 Tryd.underlying5 Tryd.underlying9 (Kd.own_of_R HO_5.out); have hcv35d := fun n_ : Nat => own_string (P := Tryd.prog) Tryd.underlying35 Tryd.underlying5 Tryd.underlying9 (Kd.own_of_R (sq_N HO_5.out n_)))
                         refine value_ (w1 := ?_) (v := ?_) (by rfl) rfl ?_ ?_
                         rotate_left 2
                         ·go_simp
                          constructor
                          ·rfl
                          ·rfl
                         clear hcv35 hcv35d
                         refine hK.out _ _ trivial (fun hHeld => ?_)
                         clear hK K
                         refine norm_ (a' := ?_) ?_ ?_
                         rotate_left
                         ·show Act.put _ (some 57) _ = _
                          simp only [Act.put, sq_a1, sq_a2, sq_a3, i64_w, i32_w]
                          rfl
                         exact norm_ (by first | (simp only [putAll, Act.put, sq_a1, sq_a2, sq_a3]; done) | (simp only [putAll, Act.put, sq_a1, sq_a2, sq_a3]; rfl) | (simp only [putAll, Act.put, sq_a1, sq_a2, sq_a3, *]; done) | (simp only [putAll, Act.put, sq_a1, sq_a2, sq_a3, *]; rfl)) (hJ4 () _ ⟨(by (with_reducible repeat (first | apply sq_A | apply sq_N | apply sq_D)); exact Kd.R_mono HO251.out (fun _ hk => by first | exact ⟨hk.1.2, hk.2⟩ | (simp [hk]; done))), (by (with_reducible repeat (first | apply sq_A | apply sq_N | apply sq_D)); exact Kd.R_mono HO_0.out (fun _ hk => by first | exact ⟨hk.2, hk.1⟩ | (simp [hk]; done))), (by (with_reducible repeat (first | apply sq_A | apply sq_N | apply sq_D)); exact Kd.R_mono HO_5.out (fun _ hk => by first | exact ⟨hk.2, hk.1⟩ | (simp [hk]; done))), (by repeat (first | (with_reducible first | exact HB.out | apply sq_b | apply sq_n | apply sq_d) | exact HB.out))⟩)
                        ·skip
                         refine goes_ Tryd.func17 (by kernel_rfl) rfl #[.slice Ao17 y239.length co17] (by rfl) rfl rfl (by (try simp only [List.map_toArray, List.map_cons, List.map_nil]); first | done | rfl | (simp only [List.length_drop, List.length_take]; rfl)) ?_
                         with_reducible refine (shuttleref06_Code.calls kj11 _ _ y239 t252 _ ?side1 ?side2 A26.out).mono ?_
                         (case side1 => repeat (first | exact (Kd.R_reads' HO_0.out).2.2 | (with_reducible refine Kd.C_alloc ?_ _) | (with_reducible refine Kd.C_drewN ?_ _) | (with_reducible refine Kd.C_drew ?_)))
                         (case side2 => exact (Kd.R_reads' HO_0.out).2.1)
                         rintro e w35 ⟨v253, rfl, ho0, hb⟩
                         refine ⟨_, rfl, ?_⟩
                         have n0_ := sq_m (Kd.R_elder' (by (with_reducible repeat (first | apply sq_A | apply sq_N | apply sq_D)); exact HO_0.out) (Kd.R_base ho0) hb)
                         have n1_ := sq_m (Kd.R_elder' (by (with_reducible repeat (first | apply sq_A | apply sq_N | apply sq_D)); exact HO_5.out) (Kd.R_base ho0) hb)
                         have n2_ := sq_m (Kd.R_elder' (by (with_reducible repeat (first | apply sq_A | apply sq_N | apply sq_D)); exact HO251.out) (Kd.R_base ho0) hb)
                         have n3_ := sq_m (Kd.R_lower (Kd.R_new' (Kd.R_new' (Kd.R_new' ho0 (Kd.R_lt (by (with_reducible repeat (first | apply sq_A | apply sq_N | apply sq_D)); exact HO_0.out))) (Kd.R_lt (by (with_reducible repeat (first | apply sq_A | apply sq_N | apply sq_D)); exact HO_5.out))) (Kd.R_lt (by (with_reducible repeat (first | apply sq_A | apply sq_N | apply sq_D)); exact HO251.out))) (below_size (by repeat (first | (with_reducible first | exact HB.out | apply sq_b | apply sq_n | apply sq_d) | exact HB.out))))
                         have n4_ := sq_m (below_step (by repeat (first | (with_reducible first | exact HB.out | apply sq_b | apply sq_n | apply sq_d) | exact HB.out)) hb)
                         clear HO_0
                         clear HO_5
                         clear HO251
                         clear HB
                         have HO_0 := n0_
                         have HO_5 := n1_
                         have HO251 := n2_
                         have HO254 := n3_
                         have HB := n4_
                         clear n0_ n1_ n2_ n3_ n4_
                         (try clear hb)
                         (try clear hb2)
                         (try clear hk)
                         (try clear hi)
                         (try clear ho0)
                         refine hK.out _ _ trivial (fun hHeld => ?_)
                         clear hK K
                         refine norm_ (a' := ?_) ?_ ?_
                         rotate_left
                         ·show Act.put _ (some 59) _ = _
                          simp only [Act.put, sq_a1, sq_a2, sq_a3, i64_w, i32_w]
                          rfl
                         exact norm_ (by first | (simp only [putAll, Act.put, sq_a1, sq_a2, sq_a3]; done) | (simp only [putAll, Act.put, sq_a1, sq_a2, sq_a3]; rfl) | (simp only [putAll, Act.put, sq_a1, sq_a2, sq_a3, *]; done) | (simp only [putAll, Act.put, sq_a1, sq_a2, sq_a3, *]; rfl)) (hJ6 (v253) _ ⟨(by (with_reducible repeat (first | apply sq_A | apply sq_N | apply sq_D)); exact Kd.R_mono HO251.out (fun _ hk => by first | exact ⟨hk.2, ⟨hk.1.1.2, hk.1.2⟩⟩ | (simp [hk]; done))), (by (with_reducible repeat (first | apply sq_A | apply sq_N | apply sq_D)); exact Kd.R_mono HO254.out (fun _ hk => by first | exact ⟨hk.2, ⟨hk.1.1.2, hk.1.2⟩⟩ | (simp [hk]; done))), (by (with_reducible repeat (first | apply sq_A | apply sq_N | apply sq_D)); exact Kd.R_mono HO_0.out (fun _ hk => by first | exact ⟨hk.1.2, ⟨hk.2, hk.1.1⟩⟩ | (simp [hk]; done))), (by (with_reducible repeat (first | apply sq_A | apply sq_N | apply sq_D)); exact Kd.R_mono HO_5.out (fun _ hk => by first | exact ⟨hk.1.2, ⟨hk.2, hk.1.1⟩⟩ | (simp [hk]; done))), (by repeat (first | (with_reducible first | exact HB.out | apply sq_b | apply sq_n | apply sq_d) | exact HB.out))⟩)
                       ·skip
                        rintro v253 w36 ⟨h0_, h1_, h2_, h3_, h4_⟩
                        have n0_ : Aside0 (Kd.R (Kd.int .u8) 5 w36 w.heap.size (fun k_ => some k_ ≠ (v253 : Value).ownBlock ∧ some k_ ≠ (.slice Ao17 y239.length co17 : Value).ownBlock ∧ some k_ ≠ (.slice Ao32 t242.length co32 : Value).ownBlock) v250 t248) := ⟨h0_⟩
                        have n1_ : Aside0 (Kd.R (Kd.int .u8) 5 w36 w.heap.size (fun k_ => some k_ ≠ (v250 : Value).ownBlock ∧ some k_ ≠ (.slice Ao17 y239.length co17 : Value).ownBlock ∧ some k_ ≠ (.slice Ao32 t242.length co32 : Value).ownBlock) v253 t252) := ⟨h1_⟩
                        have n2_ : Aside0 (Kd.R (Kd.int .u8) 5 w36 w.heap.size (fun k_ => some k_ ≠ (v250 : Value).ownBlock ∧ some k_ ≠ (v253 : Value).ownBlock ∧ some k_ ≠ (.slice Ao32 t242.length co32 : Value).ownBlock) (.slice Ao17 y239.length co17) y239) := ⟨h2_⟩
                        have n3_ : Aside0 (Kd.R (Kd.int .u8) 5 w36 w.heap.size (fun k_ => some k_ ≠ (v250 : Value).ownBlock ∧ some k_ ≠ (v253 : Value).ownBlock ∧ some k_ ≠ (.slice Ao17 y239.length co17 : Value).ownBlock) (.slice Ao32 t242.length co32) t242) := ⟨h3_⟩
                        have n4_ : Aside0 (Below w.heap.size w w36) := ⟨h4_⟩
                        clear HO_0
                        clear HO_5
                        clear HO251
                        clear HB
                        clear h0_ h1_ h2_ h3_ h4_
                        have HO251 := n0_
                        have HO254 := n1_
                        have HO_0 := n2_
                        have HO_5 := n3_
                        have HB := n4_
                        clear n0_ n1_ n2_ n3_ n4_
                        have hHeld := trivial
                        refine norm_ (a' := ?_) ?_ ?_
                        rotate_left
                        ·simp only [putAll, Act.put, sq_a1, sq_a2, sq_a3, c25b0, c28b0, c30b0, c31b0]
                         rfl
                        refine two_ (i := 4) (j := 8) (Ni := some 57) (Nj := some 61) mk14 mk15 rfl rfl rfl rfl (two_of HT_.out (by kernel_rfl)) (by decide) (by decide) (fun K hK => ?_) (fun K hK => ?_)
                        ·skip
                         (have hcv37 := own_string (P := Tryd.prog) Tryd.underlying35 Tryd.underlying5 Tryd.underlying9 (Kd.own_of_R HO_5.out); have hcv37d := fun n_ : Nat => own_string (P := Tryd.prog) Tryd.underlying35 Tryd.underlying5 Tryd.underlying9 (Kd.own_of_R (sq_N HO_5.out n_)))
                         refine value_ (w1 := ?_) (v := ?_) (by rfl) rfl ?_ ?_
                         rotate_left 2
                         ·go_simp
                          constructor
                          ·rfl
                          ·rfl
                         clear hcv37 hcv37d
                         refine hK.out _ _ trivial (fun hHeld => ?_)
                         clear hK K
                         refine norm_ (a' := ?_) ?_ ?_
                         rotate_left
                         ·show Act.put _ (some 57) _ = _
                          simp only [Act.put, sq_a1, sq_a2, sq_a3, i64_w, i32_w]
                          rfl
                         exact norm_ (by first | (simp only [putAll, Act.put, sq_a1, sq_a2, sq_a3]; done) | (simp only [putAll, Act.put, sq_a1, sq_a2, sq_a3]; rfl) | (simp only [putAll, Act.put, sq_a1, sq_a2, sq_a3, *]; done) | (simp only [putAll, Act.put, sq_a1, sq_a2, sq_a3, *]; rfl)) (hJ4_6 (v253) _ ⟨(by (with_reducible repeat (first | apply sq_A | apply sq_N | apply sq_D)); exact HO251.out), (by (with_reducible repeat (first | apply sq_A | apply sq_N | apply sq_D)); exact HO254.out), (by (with_reducible repeat (first | apply sq_A | apply sq_N | apply sq_D)); exact HO_0.out), (by (with_reducible repeat (first | apply sq_A | apply sq_N | apply sq_D)); exact HO_5.out), (by repeat (first | (with_reducible first | exact HB.out | apply sq_b | apply sq_n | apply sq_d) | exact HB.out))⟩)
                        ·skip
                         obtain ⟨Ao37, co37, eo37⟩ := Kd.R_slice HO254.out
                         subst eo37
                         refine goes_ Tryd.func22 (by kernel_rfl) rfl #[.slice Ao37 t252.length co37, .int .i64 a1] (by rfl) rfl rfl (by (try simp only [List.map_toArray, List.map_cons, List.map_nil]); first | done | rfl | (simp only [List.length_drop, List.length_take]; rfl)) ?_
                         with_reducible refine (shuttleref10_Pick.calls kj11 _ _ t252 a1 t255 _ ?side1 ?side2 A27.out).mono ?_
                         (case side1 => repeat (first | exact (Kd.R_reads' HO254.out).2.2 | (with_reducible refine Kd.C_alloc ?_ _) | (with_reducible refine Kd.C_drewN ?_ _) | (with_reducible refine Kd.C_drew ?_)))
                         (case side2 => exact (Kd.R_reads' HO254.out).2.1)
                         rintro e w38 ⟨v256, rfl, ho0, hb⟩
                         refine ⟨_, rfl, ?_⟩
                         have n0_ := sq_m (Kd.R_elder' (by (with_reducible repeat (first | apply sq_A | apply sq_N | apply sq_D)); exact HO_0.out) (Kd.R_base ho0) hb)
                         have n1_ := sq_m (Kd.R_elder' (by (with_reducible repeat (first | apply sq_A | apply sq_N | apply sq_D)); exact HO_5.out) (Kd.R_base ho0) hb)
                         have n2_ := sq_m (Kd.R_elder' (by (with_reducible repeat (first | apply sq_A | apply sq_N | apply sq_D)); exact HO251.out) (Kd.R_base ho0) hb)
                         have n3_ := sq_m (Kd.R_elder' (by (with_reducible repeat (first | apply sq_A | apply sq_N | apply sq_D)); exact HO254.out) (Kd.R_base ho0) hb)
                         have n4_ := sq_m (Kd.R_lower (Kd.R_new' (Kd.R_new' (Kd.R_new' (Kd.R_new' ho0 (Kd.R_lt (by (with_reducible repeat (first | apply sq_A | apply sq_N | apply sq_D)); exact HO_0.out))) (Kd.R_lt (by (with_reducible repeat (first | apply sq_A | apply sq_N | apply sq_D)); exact HO_5.out))) (Kd.R_lt (by (with_reducible repeat (first | apply sq_A | apply sq_N | apply sq_D)); exact HO251.out))) (Kd.R_lt (by (with_reducible repeat (first | apply sq_A | apply sq_N | apply sq_D)); exact HO254.out))) (below_size (by repeat (first | (with_reducible first | exact HB.out | apply sq_b | apply sq_n | apply sq_d) | exact HB.out))))
                         have n5_ := sq_m (below_step (by repeat (first | (with_reducible first | exact HB.out | apply sq_b | apply sq_n | apply sq_d) | exact HB.out)) hb)
                         clear HO_0
                         clear HO_5
                         clear HO251
                         clear HO254
                         clear HB
                         have HO_0 := n0_
                         have HO_5 := n1_
                         have HO251 := n2_
                         have HO254 := n3_
                         have HO257 := n4_
                         have HB := n5_
                         clear n0_ n1_ n2_ n3_ n4_ n5_
                         (try clear hb)
                         (try clear hb2)
                         (try clear hk)
                         (try clear hi)
                         (try clear ho0)
                         refine hK.out _ _ trivial (fun hHeld => ?_)
                         clear hK K
                         refine norm_ (a' := ?_) ?_ ?_
                         rotate_left
                         ·show Act.put _ (some 61) _ = _
                          simp only [Act.put, sq_a1, sq_a2, sq_a3, i64_w, i32_w]
                          rfl
                         exact norm_ (by first | (simp only [putAll, Act.put, sq_a1, sq_a2, sq_a3]; done) | (simp only [putAll, Act.put, sq_a1, sq_a2, sq_a3]; rfl) | (simp only [putAll, Act.put, sq_a1, sq_a2, sq_a3, *]; done) | (simp only [putAll, Act.put, sq_a1, sq_a2, sq_a3, *]; rfl)) (hJ6_8 (.slice Ao37 t252.length co37, v256) _ ⟨(by (with_reducible repeat (first | apply sq_A | apply sq_N | apply sq_D)); exact Kd.R_mono HO251.out (fun _ hk => by first | exact ⟨hk.1.1, ⟨hk.2, ⟨hk.1.2.1, hk.1.2.2⟩⟩⟩ | (simp [hk]; done))), (by (with_reducible repeat (first | apply sq_A | apply sq_N | apply sq_D)); exact Kd.R_mono HO254.out (fun _ hk => by first | exact ⟨hk.1.1, ⟨hk.2, ⟨hk.1.2.1, hk.1.2.2⟩⟩⟩ | (simp [hk]; done))), (by (with_reducible repeat (first | apply sq_A | apply sq_N | apply sq_D)); exact Kd.R_mono HO257.out (fun _ hk => by first | exact ⟨hk.1.2, ⟨hk.2, ⟨hk.1.1.1.2, hk.1.1.2⟩⟩⟩ | (simp [hk]; done))), (by (with_reducible repeat (first | apply sq_A | apply sq_N | apply sq_D)); exact Kd.R_mono HO_0.out (fun _ hk => by first | exact ⟨hk.1.1, ⟨hk.1.2.1, ⟨hk.2, hk.1.2.2⟩⟩⟩ | (simp [hk]; done))), (by (with_reducible repeat (first | apply sq_A | apply sq_N | apply sq_D)); exact Kd.R_mono HO_5.out (fun _ hk => by first | exact ⟨hk.1.1, ⟨hk.1.2.1, ⟨hk.2, hk.1.2.2⟩⟩⟩ | (simp [hk]; done))), (by repeat (first | (with_reducible first | exact HB.out | apply sq_b | apply sq_n | apply sq_d) | exact HB.out))⟩)
                      ·skip
                       rintro _ w36 ⟨h0_, h1_, h2_, h3_⟩
                       have n0_ : Aside0 (Kd.R (Kd.int .u8) 5 w36 w.heap.size (fun k_ => some k_ ≠ (.slice Ao17 y239.length co17 : Value).ownBlock ∧ some k_ ≠ (.slice Ao32 t242.length co32 : Value).ownBlock) v250 t248) := ⟨h0_⟩
                       have n1_ : Aside0 (Kd.R (Kd.int .u8) 5 w36 w.heap.size (fun k_ => some k_ ≠ (v250 : Value).ownBlock ∧ some k_ ≠ (.slice Ao32 t242.length co32 : Value).ownBlock) (.slice Ao17 y239.length co17) y239) := ⟨h1_⟩
                       have n2_ : Aside0 (Kd.R (Kd.int .u8) 5 w36 w.heap.size (fun k_ => some k_ ≠ (v250 : Value).ownBlock ∧ some k_ ≠ (.slice Ao17 y239.length co17 : Value).ownBlock) (.slice Ao32 t242.length co32) t242) := ⟨h2_⟩
                       have n3_ : Aside0 (Below w.heap.size w w36) := ⟨h3_⟩
                       clear HO_0
                       clear HO_5
                       clear HO251
                       clear HB
                       clear h0_ h1_ h2_ h3_
                       have HO251 := n0_
                       have HO_0 := n1_
                       have HO_5 := n2_
                       have HB := n3_
                       clear n0_ n1_ n2_ n3_
                       have hHeld := trivial
                       refine norm_ (a' := ?_) ?_ ?_
                       rotate_left
                       ·simp only [putAll, Act.put, sq_a1, sq_a2, sq_a3, c25b0, c28b0, c30b0, c31b0]
                        rfl
                       refine one_ (i := 6) (N := some 59) mk14 rfl rfl (one_of HT_.out (by kernel_rfl)) (by decide) (fun K hK => ?_)
                       refine goes_ Tryd.func17 (by kernel_rfl) rfl #[.slice Ao17 y239.length co17] (by rfl) rfl rfl (by (try simp only [List.map_toArray, List.map_cons, List.map_nil]); first | done | rfl | (simp only [List.length_drop, List.length_take]; rfl)) ?_
                       with_reducible refine (shuttleref06_Code.calls kj11 _ _ y239 t252 _ ?side1 ?side2 A26.out).mono ?_
                       (case side1 => repeat (first | exact (Kd.R_reads' HO_0.out).2.2 | (with_reducible refine Kd.C_alloc ?_ _) | (with_reducible refine Kd.C_drewN ?_ _) | (with_reducible refine Kd.C_drew ?_)))
                       (case side2 => exact (Kd.R_reads' HO_0.out).2.1)
                       rintro e w37 ⟨v253, rfl, ho0, hb⟩
                       refine ⟨_, rfl, ?_⟩
                       have n0_ := sq_m (Kd.R_elder' (by (with_reducible repeat (first | apply sq_A | apply sq_N | apply sq_D)); exact HO_0.out) (Kd.R_base ho0) hb)
                       have n1_ := sq_m (Kd.R_elder' (by (with_reducible repeat (first | apply sq_A | apply sq_N | apply sq_D)); exact HO_5.out) (Kd.R_base ho0) hb)
                       have n2_ := sq_m (Kd.R_elder' (by (with_reducible repeat (first | apply sq_A | apply sq_N | apply sq_D)); exact HO251.out) (Kd.R_base ho0) hb)
                       have n3_ := sq_m (Kd.R_lower (Kd.R_new' (Kd.R_new' (Kd.R_new' ho0 (Kd.R_lt (by (with_reducible repeat (first | apply sq_A | apply sq_N | apply sq_D)); exact HO_0.out))) (Kd.R_lt (by (with_reducible repeat (first | apply sq_A | apply sq_N | apply sq_D)); exact HO_5.out))) (Kd.R_lt (by (with_reducible repeat (first | apply sq_A | apply sq_N | apply sq_D)); exact HO251.out))) (below_size (by repeat (first | (with_reducible first | exact HB.out | apply sq_b | apply sq_n | apply sq_d) | exact HB.out))))
                       have n4_ := sq_m (below_step (by repeat (first | (with_reducible first | exact HB.out | apply sq_b | apply sq_n | apply sq_d) | exact HB.out)) hb)
                       clear HO_0
                       clear HO_5
                       clear HO251
                       clear HB
                       have HO_0 := n0_
                       have HO_5 := n1_
                       have HO251 := n2_
                       have HO254 := n3_
                       have HB := n4_
                       clear n0_ n1_ n2_ n3_ n4_
                       (try clear hb)
                       (try clear hb2)
                       (try clear hk)
                       (try clear hi)
                       (try clear ho0)
                       refine hK.out _ _ trivial (fun hHeld => ?_)
                       clear hK K
                       refine norm_ (a' := ?_) ?_ ?_
                       rotate_left
                       ·show Act.put _ (some 59) _ = _
                        simp only [Act.put, sq_a1, sq_a2, sq_a3, i64_w, i32_w]
                        rfl
                       exact norm_ (by first | (simp only [putAll, Act.put, sq_a1, sq_a2, sq_a3]; done) | (simp only [putAll, Act.put, sq_a1, sq_a2, sq_a3]; rfl) | (simp only [putAll, Act.put, sq_a1, sq_a2, sq_a3, *]; done) | (simp only [putAll, Act.put, sq_a1, sq_a2, sq_a3, *]; rfl)) (hJ4_6 (v253) _ ⟨(by (with_reducible repeat (first | apply sq_A | apply sq_N | apply sq_D)); exact Kd.R_mono HO251.out (fun _ hk => by first | exact ⟨hk.2, ⟨hk.1.1, hk.1.2⟩⟩ | (simp [hk]; done))), (by (with_reducible repeat (first | apply sq_A | apply sq_N | apply sq_D)); exact Kd.R_mono HO254.out (fun _ hk => by first | exact ⟨hk.2, ⟨hk.1.1.2, hk.1.2⟩⟩ | (simp [hk]; done))), (by (with_reducible repeat (first | apply sq_A | apply sq_N | apply sq_D)); exact Kd.R_mono HO_0.out (fun _ hk => by first | exact ⟨hk.1.1, ⟨hk.2, hk.1.2⟩⟩ | (simp [hk]; done))), (by (with_reducible repeat (first | apply sq_A | apply sq_N | apply sq_D)); exact Kd.R_mono HO_5.out (fun _ hk => by first | exact ⟨hk.1.1, ⟨hk.2, hk.1.2⟩⟩ | (simp [hk]; done))), (by repeat (first | (with_reducible first | exact HB.out | apply sq_b | apply sq_n | apply sq_d) | exact HB.out))⟩)
                     ·skip
                      rintro ⟨v253, v256⟩ w38 ⟨h0_, h1_, h2_, h3_, h4_, h5_⟩
                      have n0_ : Aside0 (Kd.R (Kd.int .u8) 5 w38 w.heap.size (fun k_ => some k_ ≠ (v253 : Value).ownBlock ∧ some k_ ≠ (v256 : Value).ownBlock ∧ some k_ ≠ (.slice Ao17 y239.length co17 : Value).ownBlock ∧ some k_ ≠ (.slice Ao32 t242.length co32 : Value).ownBlock) v250 t248) := ⟨h0_⟩
                      have n1_ : Aside0 (Kd.R (Kd.int .u8) 5 w38 w.heap.size (fun k_ => some k_ ≠ (v250 : Value).ownBlock ∧ some k_ ≠ (v256 : Value).ownBlock ∧ some k_ ≠ (.slice Ao17 y239.length co17 : Value).ownBlock ∧ some k_ ≠ (.slice Ao32 t242.length co32 : Value).ownBlock) v253 t252) := ⟨h1_⟩
                      have n2_ : Aside0 (Kd.R (Kd.int .u8) 5 w38 w.heap.size (fun k_ => some k_ ≠ (v250 : Value).ownBlock ∧ some k_ ≠ (v253 : Value).ownBlock ∧ some k_ ≠ (.slice Ao17 y239.length co17 : Value).ownBlock ∧ some k_ ≠ (.slice Ao32 t242.length co32 : Value).ownBlock) v256 t255) := ⟨h2_⟩
                      have n3_ : Aside0 (Kd.R (Kd.int .u8) 5 w38 w.heap.size (fun k_ => some k_ ≠ (v250 : Value).ownBlock ∧ some k_ ≠ (v253 : Value).ownBlock ∧ some k_ ≠ (v256 : Value).ownBlock ∧ some k_ ≠ (.slice Ao32 t242.length co32 : Value).ownBlock) (.slice Ao17 y239.length co17) y239) := ⟨h3_⟩
                      have n4_ : Aside0 (Kd.R (Kd.int .u8) 5 w38 w.heap.size (fun k_ => some k_ ≠ (v250 : Value).ownBlock ∧ some k_ ≠ (v253 : Value).ownBlock ∧ some k_ ≠ (v256 : Value).ownBlock ∧ some k_ ≠ (.slice Ao17 y239.length co17 : Value).ownBlock) (.slice Ao32 t242.length co32) t242) := ⟨h4_⟩
                      have n5_ : Aside0 (Below w.heap.size w w38) := ⟨h5_⟩
                      clear HO_0
                      clear HO_5
                      clear HO251
                      clear HB
                      clear h0_ h1_ h2_ h3_ h4_ h5_
                      have HO251 := n0_
                      have HO254 := n1_
                      have HO257 := n2_
                      have HO_0 := n3_
                      have HO_5 := n4_
                      have HB := n5_
                      clear n0_ n1_ n2_ n3_ n4_ n5_
                      have hHeld := trivial
                      refine norm_ (a' := ?_) ?_ ?_
                      rotate_left
                      ·simp only [putAll, Act.put, sq_a1, sq_a2, sq_a3, c25b0, c28b0, c30b0, c31b0]
                       rfl
                      refine two_ (i := 4) (j := 9) (Ni := some 57) (Nj := some 62) mk12 mk13 rfl rfl rfl rfl (two_of HT_.out (by kernel_rfl)) (by decide) (by decide) (fun K hK => ?_) (fun K hK => ?_)
                      ·skip
                       (have hcv39 := own_string (P := Tryd.prog) Tryd.underlying35 Tryd.underlying5 Tryd.underlying9 (Kd.own_of_R HO_5.out); have hcv39d := fun n_ : Nat => own_string (P := Tryd.prog) Tryd.underlying35 Tryd.underlying5 Tryd.underlying9 (Kd.own_of_R (sq_N HO_5.out n_)))
                       refine value_ (w1 := ?_) (v := ?_) (by rfl) rfl ?_ ?_
                       rotate_left 2
                       ·go_simp
                        constructor
                        ·rfl
                        ·rfl
                       clear hcv39 hcv39d
                       refine hK.out _ _ trivial (fun hHeld => ?_)
                       clear hK K
                       refine norm_ (a' := ?_) ?_ ?_
                       rotate_left
                       ·show Act.put _ (some 57) _ = _
                        simp only [Act.put, sq_a1, sq_a2, sq_a3, i64_w, i32_w]
                        rfl
                       exact norm_ (by first | (simp only [putAll, Act.put, sq_a1, sq_a2, sq_a3]; done) | (simp only [putAll, Act.put, sq_a1, sq_a2, sq_a3]; rfl) | (simp only [putAll, Act.put, sq_a1, sq_a2, sq_a3, *]; done) | (simp only [putAll, Act.put, sq_a1, sq_a2, sq_a3, *]; rfl)) (hJ4_6_8 (v253, v256) _ ⟨(by (with_reducible repeat (first | apply sq_A | apply sq_N | apply sq_D)); exact HO251.out), (by (with_reducible repeat (first | apply sq_A | apply sq_N | apply sq_D)); exact HO254.out), (by (with_reducible repeat (first | apply sq_A | apply sq_N | apply sq_D)); exact HO257.out), (by (with_reducible repeat (first | apply sq_A | apply sq_N | apply sq_D)); exact HO_0.out), (by (with_reducible repeat (first | apply sq_A | apply sq_N | apply sq_D)); exact HO_5.out), (by repeat (first | (with_reducible first | exact HB.out | apply sq_b | apply sq_n | apply sq_d) | exact HB.out))⟩)
                      ·skip
                       (have hcv39 := own_string (P := Tryd.prog) Tryd.underlying35 Tryd.underlying5 Tryd.underlying9 (Kd.own_of_R HO257.out); have hcv39d := fun n_ : Nat => own_string (P := Tryd.prog) Tryd.underlying35 Tryd.underlying5 Tryd.underlying9 (Kd.own_of_R (sq_N HO257.out n_)))
                       refine value_ (w1 := ?_) (v := ?_) (by rfl) rfl ?_ ?_
                       rotate_left 2
                       ·go_simp
                        constructor
                        ·rfl
                        ·rfl
                       clear hcv39 hcv39d
                       refine hK.out _ _ trivial (fun hHeld => ?_)
                       clear hK K
                       refine norm_ (a' := ?_) ?_ ?_
                       rotate_left
                       ·show Act.put _ (some 62) _ = _
                        simp only [Act.put, sq_a1, sq_a2, sq_a3, i64_w, i32_w]
                        rfl
                       exact norm_ (by first | (simp only [putAll, Act.put, sq_a1, sq_a2, sq_a3]; done) | (simp only [putAll, Act.put, sq_a1, sq_a2, sq_a3]; rfl) | (simp only [putAll, Act.put, sq_a1, sq_a2, sq_a3, *]; done) | (simp only [putAll, Act.put, sq_a1, sq_a2, sq_a3, *]; rfl)) (hJ6_8_9 (v253, v256) _ ⟨(by (with_reducible repeat (first | apply sq_A | apply sq_N | apply sq_D)); exact HO251.out), (by (with_reducible repeat (first | apply sq_A | apply sq_N | apply sq_D)); exact HO254.out), (by (with_reducible repeat (first | apply sq_A | apply sq_N | apply sq_D)); exact HO257.out), (by (with_reducible repeat (first | apply sq_A | apply sq_N | apply sq_D)); exact HO_0.out), (by (with_reducible repeat (first | apply sq_A | apply sq_N | apply sq_D)); exact HO_5.out), (by repeat (first | (with_reducible first | exact HB.out | apply sq_b | apply sq_n | apply sq_d) | exact HB.out))⟩)
                    ·skip
                     rintro v253 w37 ⟨h0_, h1_, h2_, h3_, h4_⟩
                     have n0_ : Aside0 (Kd.R (Kd.int .u8) 5 w37 w.heap.size (fun k_ => some k_ ≠ (v253 : Value).ownBlock ∧ some k_ ≠ (.slice Ao17 y239.length co17 : Value).ownBlock ∧ some k_ ≠ (.slice Ao32 t242.length co32 : Value).ownBlock) v250 t248) := ⟨h0_⟩
                     have n1_ : Aside0 (Kd.R (Kd.int .u8) 5 w37 w.heap.size (fun k_ => some k_ ≠ (v250 : Value).ownBlock ∧ some k_ ≠ (.slice Ao17 y239.length co17 : Value).ownBlock ∧ some k_ ≠ (.slice Ao32 t242.length co32 : Value).ownBlock) v253 t252) := ⟨h1_⟩
                     have n2_ : Aside0 (Kd.R (Kd.int .u8) 5 w37 w.heap.size (fun k_ => some k_ ≠ (v250 : Value).ownBlock ∧ some k_ ≠ (v253 : Value).ownBlock ∧ some k_ ≠ (.slice Ao32 t242.length co32 : Value).ownBlock) (.slice Ao17 y239.length co17) y239) := ⟨h2_⟩
                     have n3_ : Aside0 (Kd.R (Kd.int .u8) 5 w37 w.heap.size (fun k_ => some k_ ≠ (v250 : Value).ownBlock ∧ some k_ ≠ (v253 : Value).ownBlock ∧ some k_ ≠ (.slice Ao17 y239.length co17 : Value).ownBlock) (.slice Ao32 t242.length co32) t242) := ⟨h3_⟩
                     have n4_ : Aside0 (Below w.heap.size w w37) := ⟨h4_⟩
                     clear HO_0
                     clear HO_5
                     clear HO251
                     clear HB
                     clear h0_ h1_ h2_ h3_ h4_
                     have HO251 := n0_
                     have HO254 := n1_
                     have HO_0 := n2_
                     have HO_5 := n3_
                     have HB := n4_
                     clear n0_ n1_ n2_ n3_ n4_
                     have hHeld := trivial
                     obtain ⟨Ao38, co38, eo38⟩ := Kd.R_slice HO254.out
                     (first | subst eo38 | (injection eo38 with f1_ f2_ f3_; have f4_ := f1_.symm; have f5_ := f3_.symm; clear f1_ f2_ f3_; subst f4_; subst f5_))
                     refine norm_ (a' := ?_) ?_ ?_
                     rotate_left
                     ·simp only [putAll, Act.put, sq_a1, sq_a2, sq_a3, c25b0, c28b0, c30b0, c31b0]
                      rfl
                     refine one_ (i := 8) (N := some 61) mk12 rfl rfl (one_of HT_.out (by kernel_rfl)) (by decide) (fun K hK => ?_)
                     refine goes_ Tryd.func22 (by kernel_rfl) rfl #[.slice Ao38 t252.length co38, .int .i64 a1] (by rfl) rfl rfl (by (try simp only [List.map_toArray, List.map_cons, List.map_nil]); first | done | rfl | (simp only [List.length_drop, List.length_take]; rfl)) ?_
                     with_reducible refine (shuttleref10_Pick.calls kj11 _ _ t252 a1 t255 _ ?side1 ?side2 A27.out).mono ?_
                     (case side1 => repeat (first | exact (Kd.R_reads' HO254.out).2.2 | (with_reducible refine Kd.C_alloc ?_ _) | (with_reducible refine Kd.C_drewN ?_ _) | (with_reducible refine Kd.C_drew ?_)))
                     (case side2 => exact (Kd.R_reads' HO254.out).2.1)
                     rintro e w39 ⟨v256, rfl, ho0, hb⟩
                     refine ⟨_, rfl, ?_⟩
                     have n0_ := sq_m (Kd.R_elder' (by (with_reducible repeat (first | apply sq_A | apply sq_N | apply sq_D)); exact HO_0.out) (Kd.R_base ho0) hb)
                     have n1_ := sq_m (Kd.R_elder' (by (with_reducible repeat (first | apply sq_A | apply sq_N | apply sq_D)); exact HO_5.out) (Kd.R_base ho0) hb)
                     have n2_ := sq_m (Kd.R_elder' (by (with_reducible repeat (first | apply sq_A | apply sq_N | apply sq_D)); exact HO251.out) (Kd.R_base ho0) hb)
                     have n3_ := sq_m (Kd.R_elder' (by (with_reducible repeat (first | apply sq_A | apply sq_N | apply sq_D)); exact HO254.out) (Kd.R_base ho0) hb)
                     have n4_ := sq_m (Kd.R_lower (Kd.R_new' (Kd.R_new' (Kd.R_new' (Kd.R_new' ho0 (Kd.R_lt (by (with_reducible repeat (first | apply sq_A | apply sq_N | apply sq_D)); exact HO_0.out))) (Kd.R_lt (by (with_reducible repeat (first | apply sq_A | apply sq_N | apply sq_D)); exact HO_5.out))) (Kd.R_lt (by (with_reducible repeat (first | apply sq_A | apply sq_N | apply sq_D)); exact HO251.out))) (Kd.R_lt (by (with_reducible repeat (first | apply sq_A | apply sq_N | apply sq_D)); exact HO254.out))) (below_size (by repeat (first | (with_reducible first | exact HB.out | apply sq_b | apply sq_n | apply sq_d) | exact HB.out))))
                     have n5_ := sq_m (below_step (by repeat (first | (with_reducible first | exact HB.out | apply sq_b | apply sq_n | apply sq_d) | exact HB.out)) hb)
                     clear HO_0
                     clear HO_5
                     clear HO251
                     clear HO254
                     clear HB
                     have HO_0 := n0_
                     have HO_5 := n1_
                     have HO251 := n2_
                     have HO254 := n3_
                     have HO257 := n4_
                     have HB := n5_
                     clear n0_ n1_ n2_ n3_ n4_ n5_
                     (try clear hb)
                     (try clear hb2)
                     (try clear hk)
                     (try clear hi)
                     (try clear ho0)
                     refine hK.out _ _ trivial (fun hHeld => ?_)
                     clear hK K
                     refine norm_ (a' := ?_) ?_ ?_
                     rotate_left
                     ·show Act.put _ (some 61) _ = _
                      simp only [Act.put, sq_a1, sq_a2, sq_a3, i64_w, i32_w]
                      rfl
                     exact norm_ (by first | (simp only [putAll, Act.put, sq_a1, sq_a2, sq_a3]; done) | (simp only [putAll, Act.put, sq_a1, sq_a2, sq_a3]; rfl) | (simp only [putAll, Act.put, sq_a1, sq_a2, sq_a3, *]; done) | (simp only [putAll, Act.put, sq_a1, sq_a2, sq_a3, *]; rfl)) (hJ4_6_8 (.slice Ao38 t252.length co38, v256) _ ⟨(by (with_reducible repeat (first | apply sq_A | apply sq_N | apply sq_D)); exact Kd.R_mono HO251.out (fun _ hk => by first | exact ⟨hk.1.1, ⟨hk.2, ⟨hk.1.2.1, hk.1.2.2⟩⟩⟩ | (simp [hk]; done))), (by (with_reducible repeat (first | apply sq_A | apply sq_N | apply sq_D)); exact Kd.R_mono HO254.out (fun _ hk => by first | exact ⟨hk.1.1, ⟨hk.2, ⟨hk.1.2.1, hk.1.2.2⟩⟩⟩ | (simp [hk]; done))), (by (with_reducible repeat (first | apply sq_A | apply sq_N | apply sq_D)); exact Kd.R_mono HO257.out (fun _ hk => by first | exact ⟨hk.1.2, ⟨hk.2, ⟨hk.1.1.1.2, hk.1.1.2⟩⟩⟩ | (simp [hk]; done))), (by (with_reducible repeat (first | apply sq_A | apply sq_N | apply sq_D)); exact Kd.R_mono HO_0.out (fun _ hk => by first | exact ⟨hk.1.1, ⟨hk.1.2.1, ⟨hk.2, hk.1.2.2⟩⟩⟩ | (simp [hk]; done))), (by (with_reducible repeat (first | apply sq_A | apply sq_N | apply sq_D)); exact Kd.R_mono HO_5.out (fun _ hk => by first | exact ⟨hk.1.1, ⟨hk.1.2.1, ⟨hk.2, hk.1.2.2⟩⟩⟩ | (simp [hk]; done))), (by repeat (first | (with_reducible first | exact HB.out | apply sq_b | apply sq_n | apply sq_d) | exact HB.out))⟩)
                   ·skip
                    rintro ⟨v253, v256⟩ w39 ⟨h0_, h1_, h2_, h3_, h4_, h5_⟩
                    have n0_ : Aside0 (Kd.R (Kd.int .u8) 5 w39 w.heap.size (fun k_ => some k_ ≠ (v253 : Value).ownBlock ∧ some k_ ≠ (v256 : Value).ownBlock ∧ some k_ ≠ (.slice Ao17 y239.length co17 : Value).ownBlock ∧ some k_ ≠ (.slice Ao32 t242.length co32 : Value).ownBlock) v250 t248) := ⟨h0_⟩
                    have n1_ : Aside0 (Kd.R (Kd.int .u8) 5 w39 w.heap.size (fun k_ => some k_ ≠ (v250 : Value).ownBlock ∧ some k_ ≠ (v256 : Value).ownBlock ∧ some k_ ≠ (.slice Ao17 y239.length co17 : Value).ownBlock ∧ some k_ ≠ (.slice Ao32 t242.length co32 : Value).ownBlock) v253 t252) := ⟨h1_⟩
                    have n2_ : Aside0 (Kd.R (Kd.int .u8) 5 w39 w.heap.size (fun k_ => some k_ ≠ (v250 : Value).ownBlock ∧ some k_ ≠ (v253 : Value).ownBlock ∧ some k_ ≠ (.slice Ao17 y239.length co17 : Value).ownBlock ∧ some k_ ≠ (.slice Ao32 t242.length co32 : Value).ownBlock) v256 t255) := ⟨h2_⟩
                    have n3_ : Aside0 (Kd.R (Kd.int .u8) 5 w39 w.heap.size (fun k_ => some k_ ≠ (v250 : Value).ownBlock ∧ some k_ ≠ (v253 : Value).ownBlock ∧ some k_ ≠ (v256 : Value).ownBlock ∧ some k_ ≠ (.slice Ao32 t242.length co32 : Value).ownBlock) (.slice Ao17 y239.length co17) y239) := ⟨h3_⟩
                    have n4_ : Aside0 (Kd.R (Kd.int .u8) 5 w39 w.heap.size (fun k_ => some k_ ≠ (v250 : Value).ownBlock ∧ some k_ ≠ (v253 : Value).ownBlock ∧ some k_ ≠ (v256 : Value).ownBlock ∧ some k_ ≠ (.slice Ao17 y239.length co17 : Value).ownBlock) (.slice Ao32 t242.length co32) t242) := ⟨h4_⟩
                    have n5_ : Aside0 (Below w.heap.size w w39) := ⟨h5_⟩
                    clear HO_0
                    clear HO_5
                    clear HO251
                    clear HB
                    clear h0_ h1_ h2_ h3_ h4_ h5_
                    have HO251 := n0_
                    have HO254 := n1_
                    have HO257 := n2_
                    have HO_0 := n3_
                    have HO_5 := n4_
                    have HB := n5_
                    clear n0_ n1_ n2_ n3_ n4_ n5_
                    have hHeld := trivial
                    refine norm_ (a' := ?_) ?_ ?_
                    rotate_left
                    ·simp only [putAll, Act.put, sq_a1, sq_a2, sq_a3, c25b0, c28b0, c30b0, c31b0]
                     rfl
                    refine one_ (i := 4) (N := some 57) mk18 rfl rfl (one_of HT_.out (by kernel_rfl)) (by decide) (fun K hK => ?_)
                    (have hcv40 := own_string (P := Tryd.prog) Tryd.underlying35 Tryd.underlying5 Tryd.underlying9 (Kd.own_of_R HO_5.out); have hcv40d := fun n_ : Nat => own_string (P := Tryd.prog) Tryd.underlying35 Tryd.underlying5 Tryd.underlying9 (Kd.own_of_R (sq_N HO_5.out n_)))
                    refine value_ (w1 := ?_) (v := ?_) (by rfl) rfl ?_ ?_
                    rotate_left 2
                    ·go_simp
                     constructor
                     ·rfl
                     ·rfl
                    clear hcv40 hcv40d
                    refine hK.out _ _ trivial (fun hHeld => ?_)
                    clear hK K
                    refine norm_ (a' := ?_) ?_ ?_
                    rotate_left
                    ·show Act.put _ (some 57) _ = _
                     simp only [Act.put, sq_a1, sq_a2, sq_a3, i64_w, i32_w]
                     rfl
                    refine pure_ (i := 10) (N := some 63) (v := ?_) (a' := ?_) mk19 rfl rfl (any_of HT_.out (by kernel_rfl)) (fun _ _ _ h => h) (Or.inl ⟨by rfl, ?_⟩) ?_ ?_; rotate_left; (intro w'; go_simp; with_reducible rfl); rotate_left; (simp only [Act.put, sq_a1, sq_a2, sq_a3, i64_w, i32_w]; rfl)
                    refine pure_ (i := 11) (N := some 64) (v := ?_) (a' := ?_) mk20 rfl rfl (any_of HT_.out (by kernel_rfl)) (fun _ _ _ h => h) (Or.inl ⟨by rfl, ?_⟩) ?_ ?_; rotate_left; (intro w'; go_simp; with_reducible rfl); rotate_left; (simp only [Act.put, sq_a1, sq_a2, sq_a3, i64_w, i32_w]; rfl)
                    refine pure_ (i := 12) (N := some 65) (v := ?_) (a' := ?_) mk21 rfl rfl (any_of HT_.out (by kernel_rfl)) (fun _ _ _ h => h) (Or.inl ⟨by rfl, ?_⟩) ?_ ?_; rotate_left; (intro w'; go_simp; with_reducible rfl); rotate_left; (simp only [Act.put, sq_a1, sq_a2, sq_a3, i64_w, i32_w]; rfl)
                    refine pure_ (i := 13) (N := some 66) (v := ?_) (a' := ?_) mk22 rfl rfl (any_of HT_.out (by kernel_rfl)) (fun _ _ _ h => h) (Or.inl ⟨by rfl, ?_⟩) ?_ ?_; rotate_left; (intro w'; go_simp; with_reducible rfl); rotate_left; (simp only [Act.put, sq_a1, sq_a2, sq_a3, i64_w, i32_w]; rfl)
                    refine pure_ (i := 14) (N := some 67) (v := ?_) (a' := ?_) mk23 rfl rfl (any_of HT_.out (by kernel_rfl)) (fun _ _ _ h => h) (Or.inl ⟨by rfl, ?_⟩) ?_ ?_; rotate_left; (intro w'; go_simp; with_reducible rfl); rotate_left; (simp only [Act.put, sq_a1, sq_a2, sq_a3, i64_w, i32_w]; rfl)
                    refine pure_ (i := 15) (N := some 68) (v := ?_) (a' := ?_) mk24 rfl rfl (any_of HT_.out (by kernel_rfl)) (fun _ _ _ h => h) (Or.inl ⟨by rfl, ?_⟩) ?_ ?_; rotate_left; (intro w'; go_simp; with_reducible rfl); rotate_left; (simp only [Act.put, sq_a1, sq_a2, sq_a3, i64_w, i32_w]; rfl)
                    refine pure_ (i := 16) (N := some 69) (v := ?_) (a' := ?_) mk11 rfl rfl (any_of HT_.out (by kernel_rfl)) (fun _ _ _ h => h) (Or.inl ⟨by rfl, ?_⟩) ?_ ?_; rotate_left; (intro w'; go_simp; with_reducible rfl); rotate_left; (simp only [Act.put, sq_a1, sq_a2, sq_a3, i64_w, i32_w]; rfl)
                    exact norm_ (by first | (simp only [putAll, Act.put, sq_a1, sq_a2, sq_a3]; done) | (simp only [putAll, Act.put, sq_a1, sq_a2, sq_a3]; rfl) | (simp only [putAll, Act.put, sq_a1, sq_a2, sq_a3, *]; done) | (simp only [putAll, Act.put, sq_a1, sq_a2, sq_a3, *]; rfl)) (hJ4_6_8_9 (v253, v256) _ ⟨(by (with_reducible repeat (first | apply sq_A | apply sq_N | apply sq_D)); exact HO251.out), (by (with_reducible repeat (first | apply sq_A | apply sq_N | apply sq_D)); exact HO254.out), (by (with_reducible repeat (first | apply sq_A | apply sq_N | apply sq_D)); exact HO257.out), (by (with_reducible repeat (first | apply sq_A | apply sq_N | apply sq_D)); exact HO_0.out), (by (with_reducible repeat (first | apply sq_A | apply sq_N | apply sq_D)); exact HO_5.out), (by repeat (first | (with_reducible first | exact HB.out | apply sq_b | apply sq_n | apply sq_d) | exact HB.out))⟩)
                  ·skip
                   rintro ⟨v253, v256⟩ w39 ⟨h0_, h1_, h2_, h3_, h4_, h5_⟩
                   have n0_ : Aside0 (Kd.R (Kd.int .u8) 5 w39 w.heap.size (fun k_ => some k_ ≠ (v253 : Value).ownBlock ∧ some k_ ≠ (v256 : Value).ownBlock ∧ some k_ ≠ (.slice Ao17 y239.length co17 : Value).ownBlock ∧ some k_ ≠ (.slice Ao32 t242.length co32 : Value).ownBlock) v250 t248) := ⟨h0_⟩
                   have n1_ : Aside0 (Kd.R (Kd.int .u8) 5 w39 w.heap.size (fun k_ => some k_ ≠ (v250 : Value).ownBlock ∧ some k_ ≠ (v256 : Value).ownBlock ∧ some k_ ≠ (.slice Ao17 y239.length co17 : Value).ownBlock ∧ some k_ ≠ (.slice Ao32 t242.length co32 : Value).ownBlock) v253 t252) := ⟨h1_⟩
                   have n2_ : Aside0 (Kd.R (Kd.int .u8) 5 w39 w.heap.size (fun k_ => some k_ ≠ (v250 : Value).ownBlock ∧ some k_ ≠ (v253 : Value).ownBlock ∧ some k_ ≠ (.slice Ao17 y239.length co17 : Value).ownBlock ∧ some k_ ≠ (.slice Ao32 t242.length co32 : Value).ownBlock) v256 t255) := ⟨h2_⟩
                   have n3_ : Aside0 (Kd.R (Kd.int .u8) 5 w39 w.heap.size (fun k_ => some k_ ≠ (v250 : Value).ownBlock ∧ some k_ ≠ (v253 : Value).ownBlock ∧ some k_ ≠ (v256 : Value).ownBlock ∧ some k_ ≠ (.slice Ao32 t242.length co32 : Value).ownBlock) (.slice Ao17 y239.length co17) y239) := ⟨h3_⟩
                   have n4_ : Aside0 (Kd.R (Kd.int .u8) 5 w39 w.heap.size (fun k_ => some k_ ≠ (v250 : Value).ownBlock ∧ some k_ ≠ (v253 : Value).ownBlock ∧ some k_ ≠ (v256 : Value).ownBlock ∧ some k_ ≠ (.slice Ao17 y239.length co17 : Value).ownBlock) (.slice Ao32 t242.length co32) t242) := ⟨h4_⟩
                   have n5_ : Aside0 (Below w.heap.size w w39) := ⟨h5_⟩
                   clear HO_0
                   clear HO_5
                   clear HO251
                   clear HB
                   clear h0_ h1_ h2_ h3_ h4_ h5_
                   have HO251 := n0_
                   have HO254 := n1_
                   have HO257 := n2_
                   have HO_0 := n3_
                   have HO_5 := n4_
                   have HB := n5_
                   clear n0_ n1_ n2_ n3_ n4_ n5_
                   have hHeld := trivial
                   refine norm_ (a' := ?_) ?_ ?_
                   rotate_left
                   ·simp only [putAll, Act.put, sq_a1, sq_a2, sq_a3, c25b0, c28b0, c30b0, c31b0]
                    rfl
                   refine one_ (i := 9) (N := some 62) mk18 rfl rfl (one_of HT_.out (by kernel_rfl)) (by decide) (fun K hK => ?_)
                   (have hcv40 := own_string (P := Tryd.prog) Tryd.underlying35 Tryd.underlying5 Tryd.underlying9 (Kd.own_of_R HO257.out); have hcv40d := fun n_ : Nat => own_string (P := Tryd.prog) Tryd.underlying35 Tryd.underlying5 Tryd.underlying9 (Kd.own_of_R (sq_N HO257.out n_)))
                   refine value_ (w1 := ?_) (v := ?_) (by rfl) rfl ?_ ?_
                   rotate_left 2
                   ·go_simp
                    constructor
                    ·rfl
                    ·rfl
                   clear hcv40 hcv40d
                   refine hK.out _ _ trivial (fun hHeld => ?_)
                   clear hK K
                   refine norm_ (a' := ?_) ?_ ?_
                   rotate_left
                   ·show Act.put _ (some 62) _ = _
                    simp only [Act.put, sq_a1, sq_a2, sq_a3, i64_w, i32_w]
                    rfl
                   refine pure_ (i := 10) (N := some 63) (v := ?_) (a' := ?_) mk19 rfl rfl (any_of HT_.out (by kernel_rfl)) (fun _ _ _ h => h) (Or.inl ⟨by rfl, ?_⟩) ?_ ?_; rotate_left; (intro w'; go_simp; with_reducible rfl); rotate_left; (simp only [Act.put, sq_a1, sq_a2, sq_a3, i64_w, i32_w]; rfl)
                   refine pure_ (i := 11) (N := some 64) (v := ?_) (a' := ?_) mk20 rfl rfl (any_of HT_.out (by kernel_rfl)) (fun _ _ _ h => h) (Or.inl ⟨by rfl, ?_⟩) ?_ ?_; rotate_left; (intro w'; go_simp; with_reducible rfl); rotate_left; (simp only [Act.put, sq_a1, sq_a2, sq_a3, i64_w, i32_w]; rfl)
                   refine pure_ (i := 12) (N := some 65) (v := ?_) (a' := ?_) mk21 rfl rfl (any_of HT_.out (by kernel_rfl)) (fun _ _ _ h => h) (Or.inl ⟨by rfl, ?_⟩) ?_ ?_; rotate_left; (intro w'; go_simp; with_reducible rfl); rotate_left; (simp only [Act.put, sq_a1, sq_a2, sq_a3, i64_w, i32_w]; rfl)
                   refine pure_ (i := 13) (N := some 66) (v := ?_) (a' := ?_) mk22 rfl rfl (any_of HT_.out (by kernel_rfl)) (fun _ _ _ h => h) (Or.inl ⟨by rfl, ?_⟩) ?_ ?_; rotate_left; (intro w'; go_simp; with_reducible rfl); rotate_left; (simp only [Act.put, sq_a1, sq_a2, sq_a3, i64_w, i32_w]; rfl)
                   refine pure_ (i := 14) (N := some 67) (v := ?_) (a' := ?_) mk23 rfl rfl (any_of HT_.out (by kernel_rfl)) (fun _ _ _ h => h) (Or.inl ⟨by rfl, ?_⟩) ?_ ?_; rotate_left; (intro w'; go_simp; with_reducible rfl); rotate_left; (simp only [Act.put, sq_a1, sq_a2, sq_a3, i64_w, i32_w]; rfl)
                   refine pure_ (i := 15) (N := some 68) (v := ?_) (a' := ?_) mk24 rfl rfl (any_of HT_.out (by kernel_rfl)) (fun _ _ _ h => h) (Or.inl ⟨by rfl, ?_⟩) ?_ ?_; rotate_left; (intro w'; go_simp; with_reducible rfl); rotate_left; (simp only [Act.put, sq_a1, sq_a2, sq_a3, i64_w, i32_w]; rfl)
                   refine pure_ (i := 16) (N := some 69) (v := ?_) (a' := ?_) mk11 rfl rfl (any_of HT_.out (by kernel_rfl)) (fun _ _ _ h => h) (Or.inl ⟨by rfl, ?_⟩) ?_ ?_; rotate_left; (intro w'; go_simp; with_reducible rfl); rotate_left; (simp only [Act.put, sq_a1, sq_a2, sq_a3, i64_w, i32_w]; rfl)
                   exact norm_ (by first | (simp only [putAll, Act.put, sq_a1, sq_a2, sq_a3]; done) | (simp only [putAll, Act.put, sq_a1, sq_a2, sq_a3]; rfl) | (simp only [putAll, Act.put, sq_a1, sq_a2, sq_a3, *]; done) | (simp only [putAll, Act.put, sq_a1, sq_a2, sq_a3, *]; rfl)) (hJ4_6_8_9 (v253, v256) _ ⟨(by (with_reducible repeat (first | apply sq_A | apply sq_N | apply sq_D)); exact HO251.out), (by (with_reducible repeat (first | apply sq_A | apply sq_N | apply sq_D)); exact HO254.out), (by (with_reducible repeat (first | apply sq_A | apply sq_N | apply sq_D)); exact HO257.out), (by (with_reducible repeat (first | apply sq_A | apply sq_N | apply sq_D)); exact HO_0.out), (by (with_reducible repeat (first | apply sq_A | apply sq_N | apply sq_D)); exact HO_5.out), (by repeat (first | (with_reducible first | exact HB.out | apply sq_b | apply sq_n | apply sq_d) | exact HB.out))⟩)
                 ·skip
                  rintro ⟨v253, v256⟩ w40 ⟨h0_, h1_, h2_, h3_, h4_, h5_⟩
                  have n0_ : Aside0 (Kd.R (Kd.int .u8) 5 w40 w.heap.size (fun k_ => some k_ ≠ (v253 : Value).ownBlock ∧ some k_ ≠ (v256 : Value).ownBlock ∧ some k_ ≠ (.slice Ao17 y239.length co17 : Value).ownBlock ∧ some k_ ≠ (.slice Ao32 t242.length co32 : Value).ownBlock) v250 t248) := ⟨h0_⟩
                  have n1_ : Aside0 (Kd.R (Kd.int .u8) 5 w40 w.heap.size (fun k_ => some k_ ≠ (v250 : Value).ownBlock ∧ some k_ ≠ (v256 : Value).ownBlock ∧ some k_ ≠ (.slice Ao17 y239.length co17 : Value).ownBlock ∧ some k_ ≠ (.slice Ao32 t242.length co32 : Value).ownBlock) v253 t252) := ⟨h1_⟩
                  have n2_ : Aside0 (Kd.R (Kd.int .u8) 5 w40 w.heap.size (fun k_ => some k_ ≠ (v250 : Value).ownBlock ∧ some k_ ≠ (v253 : Value).ownBlock ∧ some k_ ≠ (.slice Ao17 y239.length co17 : Value).ownBlock ∧ some k_ ≠ (.slice Ao32 t242.length co32 : Value).ownBlock) v256 t255) := ⟨h2_⟩
                  have n3_ : Aside0 (Kd.R (Kd.int .u8) 5 w40 w.heap.size (fun k_ => some k_ ≠ (v250 : Value).ownBlock ∧ some k_ ≠ (v253 : Value).ownBlock ∧ some k_ ≠ (v256 : Value).ownBlock ∧ some k_ ≠ (.slice Ao32 t242.length co32 : Value).ownBlock) (.slice Ao17 y239.length co17) y239) := ⟨h3_⟩
                  have n4_ : Aside0 (Kd.R (Kd.int .u8) 5 w40 w.heap.size (fun k_ => some k_ ≠ (v250 : Value).ownBlock ∧ some k_ ≠ (v253 : Value).ownBlock ∧ some k_ ≠ (v256 : Value).ownBlock ∧ some k_ ≠ (.slice Ao17 y239.length co17 : Value).ownBlock) (.slice Ao32 t242.length co32) t242) := ⟨h4_⟩
                  have n5_ : Aside0 (Below w.heap.size w w40) := ⟨h5_⟩
                  clear HO_0
                  clear HO_5
                  clear HO251
                  clear HB
                  clear h0_ h1_ h2_ h3_ h4_ h5_
                  have HO251 := n0_
                  have HO254 := n1_
                  have HO257 := n2_
                  have HO_0 := n3_
                  have HO_5 := n4_
                  have HB := n5_
                  clear n0_ n1_ n2_ n3_ n4_ n5_
                  have hHeld := trivial
                  refine norm_ (a' := ?_) ?_ ?_
                  rotate_left
                  ·simp only [putAll, Act.put, sq_a1, sq_a2, sq_a3, c25b0, c28b0, c30b0, c31b0]
                   rfl
                  refine one_ (i := 17) (N := some 70) mk25 rfl rfl (one_of HT_.out (by kernel_rfl)) (by decide) (fun K hK => ?_)
                  refine goes_ Tryd.func23 (by kernel_rfl) rfl #[.int .i64 (y239.length : Int)] (by rfl) rfl rfl (by (try simp only [List.map_toArray, List.map_cons, List.map_nil]); first | done | rfl | (simp only [List.length_drop, List.length_take]; rfl)) ?_
                  with_reducible refine (version_Bits.calls (y239.length : Int) t258 _ A29.out).mono ?_
                  rintro e w' ⟨rfl, ⟨nd, rfl⟩⟩
                  refine ⟨_, rfl, ?_⟩
                  refine hK.out _ _ trivial (fun hHeld => ?_)
                  clear hK K
                  refine norm_ (a' := ?_) ?_ ?_
                  rotate_left
                  ·show Act.put _ (some 70) _ = _
                   simp only [Act.put, sq_a1, sq_a2, sq_a3, i64_w, i32_w]
                   rfl
                  refine pure_ (i := 18) (N := some 71) (v := ?_) (a' := ?_) mk26 rfl rfl (any_of HT_.out (by kernel_rfl)) (fun _ _ _ h => h) (Or.inl ⟨by rfl, ?_⟩) ?_ ?_; rotate_left; (intro w'; go_simp; with_reducible rfl); rotate_left; (simp only [Act.put, sq_a1, sq_a2, sq_a3, i64_w, i32_w]; rfl)
                  refine pure_ (i := 19) (N := some 72) (v := ?_) (a' := ?_) mk27 rfl rfl (any_of HT_.out (by kernel_rfl)) (fun _ _ _ h => h) (Or.inl ⟨by rfl, ?_⟩) ?_ ?_; rotate_left; (intro w'; go_simp; with_reducible rfl); rotate_left; (simp only [Act.put, sq_a1, sq_a2, sq_a3, i64_w, i32_w]; rfl)
                  refine pure_ (i := 20) (N := some 73) (v := ?_) (a' := ?_) mk28 rfl rfl (any_of HT_.out (by kernel_rfl)) (fun _ _ _ h => h) (Or.inl ⟨by rfl, ?_⟩) ?_ ?_; rotate_left; (intro w'; go_simp; with_reducible rfl); rotate_left; (simp only [Act.put, sq_a1, sq_a2, sq_a3, i64_w, i32_w]; rfl)
                  refine pure_ (i := 21) (N := some 74) (v := ?_) (a' := ?_) mk29 rfl rfl (any_of HT_.out (by kernel_rfl)) (fun _ _ _ h => h) (Or.inl ⟨by rfl, ?_⟩) ?_ ?_; rotate_left; (intro w'; go_simp; with_reducible rfl); rotate_left; (simp only [Act.put, sq_a1, sq_a2, sq_a3, i64_w, i32_w]; rfl)
                  refine pure_ (i := 22) (N := some 75) (v := ?_) (a' := ?_) mk30 rfl rfl (any_of HT_.out (by kernel_rfl)) (fun _ _ _ h => h) (Or.inl ⟨by rfl, ?_⟩) ?_ ?_; rotate_left; (intro w'; go_simp; with_reducible rfl); rotate_left; (simp only [Act.put, sq_a1, sq_a2, sq_a3, i64_w, i32_w]; rfl)
                  refine pure_ (i := 23) (N := some 76) (v := ?_) (a' := ?_) mk31 rfl rfl (any_of HT_.out (by kernel_rfl)) (fun _ _ _ h => h) (Or.inl ⟨by rfl, ?_⟩) ?_ ?_; rotate_left; (intro w'; go_simp; with_reducible rfl); rotate_left; (simp only [Act.put, sq_a1, sq_a2, sq_a3, i64_w, i32_w]; rfl)
                  refine pure_ (i := 24) (N := some 77) (v := ?_) (a' := ?_) mk32 rfl rfl (any_of HT_.out (by kernel_rfl)) (fun _ _ _ h => h) (Or.inl ⟨by rfl, ?_⟩) ?_ ?_; rotate_left; (intro w'; go_simp; with_reducible rfl); rotate_left; (simp only [Act.put, sq_a1, sq_a2, sq_a3, i64_w, i32_w]; rfl)
                  refine pure_ (i := 25) (N := some 78) (v := ?_) (a' := ?_) mk33 rfl rfl (any_of HT_.out (by kernel_rfl)) (fun _ _ _ h => h) (Or.inl ⟨by rfl, ?_⟩) ?_ ?_; rotate_left; (intro w'; go_simp; with_reducible rfl); rotate_left; (simp only [Act.put, sq_a1, sq_a2, sq_a3, i64_w, i32_w]; rfl)
                  refine pure_ (i := 27) (N := some 80) (v := ?_) (a' := ?_) mk10 rfl rfl (any_of HT_.out (by kernel_rfl)) (fun _ _ _ h => h) (Or.inl ⟨by rfl, ?_⟩) ?_ ?_; rotate_left; (intro w'; go_simp; with_reducible rfl); rotate_left; (simp only [Act.put, sq_a1, sq_a2, sq_a3, i64_w, i32_w]; rfl)
                  exact norm_ (by first | (simp only [putAll, Act.put, sq_a1, sq_a2, sq_a3]; done) | (simp only [putAll, Act.put, sq_a1, sq_a2, sq_a3]; rfl) | (simp only [putAll, Act.put, sq_a1, sq_a2, sq_a3, *]; done) | (simp only [putAll, Act.put, sq_a1, sq_a2, sq_a3, *]; rfl)) (hJ4_6_8_9_17 (v253, v256) _ ⟨(by (with_reducible repeat (first | apply sq_A | apply sq_N | apply sq_D)); exact HO251.out), (by (with_reducible repeat (first | apply sq_A | apply sq_N | apply sq_D)); exact HO254.out), (by (with_reducible repeat (first | apply sq_A | apply sq_N | apply sq_D)); exact HO257.out), (by (with_reducible repeat (first | apply sq_A | apply sq_N | apply sq_D)); exact HO_0.out), (by (with_reducible repeat (first | apply sq_A | apply sq_N | apply sq_D)); exact HO_5.out), (by repeat (first | (with_reducible first | exact HB.out | apply sq_b | apply sq_n | apply sq_d) | exact HB.out))⟩)
                ·skip
                 rintro ⟨v253, v256⟩ w40 ⟨h0_, h1_, h2_, h3_, h4_, h5_⟩
                 have n0_ : Aside0 (Kd.R (Kd.int .u8) 5 w40 w.heap.size (fun k_ => some k_ ≠ (v253 : Value).ownBlock ∧ some k_ ≠ (v256 : Value).ownBlock ∧ some k_ ≠ (.slice Ao17 y239.length co17 : Value).ownBlock ∧ some k_ ≠ (.slice Ao32 t242.length co32 : Value).ownBlock) v250 t248) := ⟨h0_⟩
                 have n1_ : Aside0 (Kd.R (Kd.int .u8) 5 w40 w.heap.size (fun k_ => some k_ ≠ (v250 : Value).ownBlock ∧ some k_ ≠ (v256 : Value).ownBlock ∧ some k_ ≠ (.slice Ao17 y239.length co17 : Value).ownBlock ∧ some k_ ≠ (.slice Ao32 t242.length co32 : Value).ownBlock) v253 t252) := ⟨h1_⟩
                 have n2_ : Aside0 (Kd.R (Kd.int .u8) 5 w40 w.heap.size (fun k_ => some k_ ≠ (v250 : Value).ownBlock ∧ some k_ ≠ (v253 : Value).ownBlock ∧ some k_ ≠ (.slice Ao17 y239.length co17 : Value).ownBlock ∧ some k_ ≠ (.slice Ao32 t242.length co32 : Value).ownBlock) v256 t255) := ⟨h2_⟩
                 have n3_ : Aside0 (Kd.R (Kd.int .u8) 5 w40 w.heap.size (fun k_ => some k_ ≠ (v250 : Value).ownBlock ∧ some k_ ≠ (v253 : Value).ownBlock ∧ some k_ ≠ (v256 : Value).ownBlock ∧ some k_ ≠ (.slice Ao32 t242.length co32 : Value).ownBlock) (.slice Ao17 y239.length co17) y239) := ⟨h3_⟩
                 have n4_ : Aside0 (Kd.R (Kd.int .u8) 5 w40 w.heap.size (fun k_ => some k_ ≠ (v250 : Value).ownBlock ∧ some k_ ≠ (v253 : Value).ownBlock ∧ some k_ ≠ (v256 : Value).ownBlock ∧ some k_ ≠ (.slice Ao17 y239.length co17 : Value).ownBlock) (.slice Ao32 t242.length co32) t242) := ⟨h4_⟩
                 have n5_ : Aside0 (Below w.heap.size w w40) := ⟨h5_⟩
                 clear HO_0
                 clear HO_5
                 clear HO251
                 clear HB
                 clear h0_ h1_ h2_ h3_ h4_ h5_
                 have HO251 := n0_
                 have HO254 := n1_
                 have HO257 := n2_
                 have HO_0 := n3_
                 have HO_5 := n4_
                 have HB := n5_
                 clear n0_ n1_ n2_ n3_ n4_ n5_
                 have hHeld := trivial
                 refine norm_ (a' := ?_) ?_ ?_
                 rotate_left
                 ·simp only [putAll, Act.put, sq_a1, sq_a2, sq_a3, c25b0, c28b0, c30b0, c31b0]
                  rfl
                 refine two_ (i := 26) (j := 28) (Ni := some 79) (Nj := some 81) mk8 mk9 rfl rfl rfl rfl (two_of HT_.out (by kernel_rfl)) (by decide) (by decide) (fun K hK => ?_) (fun K hK => ?_)
                 ·skip
                  (have hcv41 := own_string (P := Tryd.prog) Tryd.underlying35 Tryd.underlying5 Tryd.underlying9 (Kd.own_of_R HO251.out); have hcv41d := fun n_ : Nat => own_string (P := Tryd.prog) Tryd.underlying35 Tryd.underlying5 Tryd.underlying9 (Kd.own_of_R (sq_N HO251.out n_)))
                  refine value_ (w1 := ?_) (v := ?_) (by rfl) rfl ?_ ?_
                  rotate_left 2
                  ·go_simp
                   constructor
                   ·rfl
                   ·rfl
                  clear hcv41 hcv41d
                  refine hK.out _ _ trivial (fun hHeld => ?_)
                  clear hK K
                  refine norm_ (a' := ?_) ?_ ?_
                  rotate_left
                  ·show Act.put _ (some 79) _ = _
                   simp only [Act.put, sq_a1, sq_a2, sq_a3, i64_w, i32_w]
                   rfl
                  exact norm_ (by first | (simp only [putAll, Act.put, sq_a1, sq_a2, sq_a3]; done) | (simp only [putAll, Act.put, sq_a1, sq_a2, sq_a3]; rfl) | (simp only [putAll, Act.put, sq_a1, sq_a2, sq_a3, *]; done) | (simp only [putAll, Act.put, sq_a1, sq_a2, sq_a3, *]; rfl)) (hJ4_6_8_9_17_26 (v253, v256) _ ⟨(by (with_reducible repeat (first | apply sq_A | apply sq_N | apply sq_D)); exact HO251.out), (by (with_reducible repeat (first | apply sq_A | apply sq_N | apply sq_D)); exact HO254.out), (by (with_reducible repeat (first | apply sq_A | apply sq_N | apply sq_D)); exact HO257.out), (by (with_reducible repeat (first | apply sq_A | apply sq_N | apply sq_D)); exact HO_0.out), (by (with_reducible repeat (first | apply sq_A | apply sq_N | apply sq_D)); exact HO_5.out), (by repeat (first | (with_reducible first | exact HB.out | apply sq_b | apply sq_n | apply sq_d) | exact HB.out))⟩)
                 ·skip
                  (have hcv41 := own_string (P := Tryd.prog) Tryd.underlying35 Tryd.underlying5 Tryd.underlying9 (Kd.own_of_R HO_0.out); have hcv41d := fun n_ : Nat => own_string (P := Tryd.prog) Tryd.underlying35 Tryd.underlying5 Tryd.underlying9 (Kd.own_of_R (sq_N HO_0.out n_)))
                  refine value_ (w1 := ?_) (v := ?_) (by rfl) rfl ?_ ?_
                  rotate_left 2
                  ·go_simp
                   constructor
                   ·rfl
                   ·rfl
                  clear hcv41 hcv41d
                  refine hK.out _ _ trivial (fun hHeld => ?_)
                  clear hK K
                  refine norm_ (a' := ?_) ?_ ?_
                  rotate_left
                  ·show Act.put _ (some 81) _ = _
                   simp only [Act.put, sq_a1, sq_a2, sq_a3, i64_w, i32_w]
                   rfl
                  exact norm_ (by first | (simp only [putAll, Act.put, sq_a1, sq_a2, sq_a3]; done) | (simp only [putAll, Act.put, sq_a1, sq_a2, sq_a3]; rfl) | (simp only [putAll, Act.put, sq_a1, sq_a2, sq_a3, *]; done) | (simp only [putAll, Act.put, sq_a1, sq_a2, sq_a3, *]; rfl)) (hJ4_6_8_9_17_28 (v253, v256) _ ⟨(by (with_reducible repeat (first | apply sq_A | apply sq_N | apply sq_D)); exact HO251.out), (by (with_reducible repeat (first | apply sq_A | apply sq_N | apply sq_D)); exact HO254.out), (by (with_reducible repeat (first | apply sq_A | apply sq_N | apply sq_D)); exact HO257.out), (by (with_reducible repeat (first | apply sq_A | apply sq_N | apply sq_D)); exact HO_0.out), (by (with_reducible repeat (first | apply sq_A | apply sq_N | apply sq_D)); exact HO_5.out), (by repeat (first | (with_reducible first | exact HB.out | apply sq_b | apply sq_n | apply sq_d) | exact HB.out))⟩)
               ·skip
                rintro ⟨v253, v256⟩ w41 ⟨h0_, h1_, h2_, h3_, h4_, h5_⟩
                have n0_ : Aside0 (Kd.R (Kd.int .u8) 5 w41 w.heap.size (fun k_ => some k_ ≠ (v253 : Value).ownBlock ∧ some k_ ≠ (v256 : Value).ownBlock ∧ some k_ ≠ (.slice Ao17 y239.length co17 : Value).ownBlock ∧ some k_ ≠ (.slice Ao32 t242.length co32 : Value).ownBlock) v250 t248) := ⟨h0_⟩
                have n1_ : Aside0 (Kd.R (Kd.int .u8) 5 w41 w.heap.size (fun k_ => some k_ ≠ (v250 : Value).ownBlock ∧ some k_ ≠ (v256 : Value).ownBlock ∧ some k_ ≠ (.slice Ao17 y239.length co17 : Value).ownBlock ∧ some k_ ≠ (.slice Ao32 t242.length co32 : Value).ownBlock) v253 t252) := ⟨h1_⟩
                have n2_ : Aside0 (Kd.R (Kd.int .u8) 5 w41 w.heap.size (fun k_ => some k_ ≠ (v250 : Value).ownBlock ∧ some k_ ≠ (v253 : Value).ownBlock ∧ some k_ ≠ (.slice Ao17 y239.length co17 : Value).ownBlock ∧ some k_ ≠ (.slice Ao32 t242.length co32 : Value).ownBlock) v256 t255) := ⟨h2_⟩
                have n3_ : Aside0 (Kd.R (Kd.int .u8) 5 w41 w.heap.size (fun k_ => some k_ ≠ (v250 : Value).ownBlock ∧ some k_ ≠ (v253 : Value).ownBlock ∧ some k_ ≠ (v256 : Value).ownBlock ∧ some k_ ≠ (.slice Ao32 t242.length co32 : Value).ownBlock) (.slice Ao17 y239.length co17) y239) := ⟨h3_⟩
                have n4_ : Aside0 (Kd.R (Kd.int .u8) 5 w41 w.heap.size (fun k_ => some k_ ≠ (v250 : Value).ownBlock ∧ some k_ ≠ (v253 : Value).ownBlock ∧ some k_ ≠ (v256 : Value).ownBlock ∧ some k_ ≠ (.slice Ao17 y239.length co17 : Value).ownBlock) (.slice Ao32 t242.length co32) t242) := ⟨h4_⟩
                have n5_ : Aside0 (Below w.heap.size w w41) := ⟨h5_⟩
                clear HO_0
                clear HO_5
                clear HO251
                clear HB
                clear h0_ h1_ h2_ h3_ h4_ h5_
                have HO251 := n0_
                have HO254 := n1_
                have HO257 := n2_
                have HO_0 := n3_
                have HO_5 := n4_
                have HB := n5_
                clear n0_ n1_ n2_ n3_ n4_ n5_
                have hHeld := trivial
                refine norm_ (a' := ?_) ?_ ?_
                rotate_left
                ·simp only [putAll, Act.put, sq_a1, sq_a2, sq_a3, c25b0, c28b0, c30b0, c31b0]
                 rfl
                refine one_ (i := 26) (N := some 79) mk7 rfl rfl (one_of HT_.out (by kernel_rfl)) (by decide) (fun K hK => ?_)
                (have hcv42 := own_string (P := Tryd.prog) Tryd.underlying35 Tryd.underlying5 Tryd.underlying9 (Kd.own_of_R HO251.out); have hcv42d := fun n_ : Nat => own_string (P := Tryd.prog) Tryd.underlying35 Tryd.underlying5 Tryd.underlying9 (Kd.own_of_R (sq_N HO251.out n_)))
                refine value_ (w1 := ?_) (v := ?_) (by rfl) rfl ?_ ?_
                rotate_left 2
                ·go_simp
                 constructor
                 ·rfl
                 ·rfl
                clear hcv42 hcv42d
                refine hK.out _ _ trivial (fun hHeld => ?_)
                clear hK K
                refine norm_ (a' := ?_) ?_ ?_
                rotate_left
                ·show Act.put _ (some 79) _ = _
                 simp only [Act.put, sq_a1, sq_a2, sq_a3, i64_w, i32_w]
                 rfl
                exact norm_ (by first | (simp only [putAll, Act.put, sq_a1, sq_a2, sq_a3]; done) | (simp only [putAll, Act.put, sq_a1, sq_a2, sq_a3]; rfl) | (simp only [putAll, Act.put, sq_a1, sq_a2, sq_a3, *]; done) | (simp only [putAll, Act.put, sq_a1, sq_a2, sq_a3, *]; rfl)) (hJ4_6_8_9_17_26_28 (v253, v256) _ ⟨(by (with_reducible repeat (first | apply sq_A | apply sq_N | apply sq_D)); exact HO251.out), (by (with_reducible repeat (first | apply sq_A | apply sq_N | apply sq_D)); exact HO254.out), (by (with_reducible repeat (first | apply sq_A | apply sq_N | apply sq_D)); exact HO257.out), (by (with_reducible repeat (first | apply sq_A | apply sq_N | apply sq_D)); exact HO_0.out), (by (with_reducible repeat (first | apply sq_A | apply sq_N | apply sq_D)); exact HO_5.out), (by repeat (first | (with_reducible first | exact HB.out | apply sq_b | apply sq_n | apply sq_d) | exact HB.out))⟩)
              ·skip
               rintro ⟨v253, v256⟩ w41 ⟨h0_, h1_, h2_, h3_, h4_, h5_⟩
               have n0_ : Aside0 (Kd.R (Kd.int .u8) 5 w41 w.heap.size (fun k_ => some k_ ≠ (v253 : Value).ownBlock ∧ some k_ ≠ (v256 : Value).ownBlock ∧ some k_ ≠ (.slice Ao17 y239.length co17 : Value).ownBlock ∧ some k_ ≠ (.slice Ao32 t242.length co32 : Value).ownBlock) v250 t248) := ⟨h0_⟩
               have n1_ : Aside0 (Kd.R (Kd.int .u8) 5 w41 w.heap.size (fun k_ => some k_ ≠ (v250 : Value).ownBlock ∧ some k_ ≠ (v256 : Value).ownBlock ∧ some k_ ≠ (.slice Ao17 y239.length co17 : Value).ownBlock ∧ some k_ ≠ (.slice Ao32 t242.length co32 : Value).ownBlock) v253 t252) := ⟨h1_⟩
               have n2_ : Aside0 (Kd.R (Kd.int .u8) 5 w41 w.heap.size (fun k_ => some k_ ≠ (v250 : Value).ownBlock ∧ some k_ ≠ (v253 : Value).ownBlock ∧ some k_ ≠ (.slice Ao17 y239.length co17 : Value).ownBlock ∧ some k_ ≠ (.slice Ao32 t242.length co32 : Value).ownBlock) v256 t255) := ⟨h2_⟩
               have n3_ : Aside0 (Kd.R (Kd.int .u8) 5 w41 w.heap.size (fun k_ => some k_ ≠ (v250 : Value).ownBlock ∧ some k_ ≠ (v253 : Value).ownBlock ∧ some k_ ≠ (v256 : Value).ownBlock ∧ some k_ ≠ (.slice Ao32 t242.length co32 : Value).ownBlock) (.slice Ao17 y239.length co17) y239) := ⟨h3_⟩
               have n4_ : Aside0 (Kd.R (Kd.int .u8) 5 w41 w.heap.size (fun k_ => some k_ ≠ (v250 : Value).ownBlock ∧ some k_ ≠ (v253 : Value).ownBlock ∧ some k_ ≠ (v256 : Value).ownBlock ∧ some k_ ≠ (.slice Ao17 y239.length co17 : Value).ownBlock) (.slice Ao32 t242.length co32) t242) := ⟨h4_⟩
               have n5_ : Aside0 (Below w.heap.size w w41) := ⟨h5_⟩
               clear HO_0
               clear HO_5
               clear HO251
               clear HB
               clear h0_ h1_ h2_ h3_ h4_ h5_
               have HO251 := n0_
               have HO254 := n1_
               have HO257 := n2_
               have HO_0 := n3_
               have HO_5 := n4_
               have HB := n5_
               clear n0_ n1_ n2_ n3_ n4_ n5_
               have hHeld := trivial
               refine norm_ (a' := ?_) ?_ ?_
               rotate_left
               ·simp only [putAll, Act.put, sq_a1, sq_a2, sq_a3, c25b0, c28b0, c30b0, c31b0]
                rfl
               refine one_ (i := 28) (N := some 81) mk7 rfl rfl (one_of HT_.out (by kernel_rfl)) (by decide) (fun K hK => ?_)
               (have hcv42 := own_string (P := Tryd.prog) Tryd.underlying35 Tryd.underlying5 Tryd.underlying9 (Kd.own_of_R HO_0.out); have hcv42d := fun n_ : Nat => own_string (P := Tryd.prog) Tryd.underlying35 Tryd.underlying5 Tryd.underlying9 (Kd.own_of_R (sq_N HO_0.out n_)))
               refine value_ (w1 := ?_) (v := ?_) (by rfl) rfl ?_ ?_
               rotate_left 2
               ·go_simp
                constructor
                ·rfl
                ·rfl
               clear hcv42 hcv42d
               refine hK.out _ _ trivial (fun hHeld => ?_)
               clear hK K
               refine norm_ (a' := ?_) ?_ ?_
               rotate_left
               ·show Act.put _ (some 81) _ = _
                simp only [Act.put, sq_a1, sq_a2, sq_a3, i64_w, i32_w]
                rfl
               exact norm_ (by first | (simp only [putAll, Act.put, sq_a1, sq_a2, sq_a3]; done) | (simp only [putAll, Act.put, sq_a1, sq_a2, sq_a3]; rfl) | (simp only [putAll, Act.put, sq_a1, sq_a2, sq_a3, *]; done) | (simp only [putAll, Act.put, sq_a1, sq_a2, sq_a3, *]; rfl)) (hJ4_6_8_9_17_26_28 (v253, v256) _ ⟨(by (with_reducible repeat (first | apply sq_A | apply sq_N | apply sq_D)); exact HO251.out), (by (with_reducible repeat (first | apply sq_A | apply sq_N | apply sq_D)); exact HO254.out), (by (with_reducible repeat (first | apply sq_A | apply sq_N | apply sq_D)); exact HO257.out), (by (with_reducible repeat (first | apply sq_A | apply sq_N | apply sq_D)); exact HO_0.out), (by (with_reducible repeat (first | apply sq_A | apply sq_N | apply sq_D)); exact HO_5.out), (by repeat (first | (with_reducible first | exact HB.out | apply sq_b | apply sq_n | apply sq_d) | exact HB.out))⟩)
             rintro ⟨v253, v256⟩ w42 ⟨h0_, h1_, h2_, h3_, h4_, h5_⟩
             have n0_ : Aside0 (Kd.R (Kd.int .u8) 5 w42 w.heap.size (fun k_ => some k_ ≠ (v253 : Value).ownBlock ∧ some k_ ≠ (v256 : Value).ownBlock ∧ some k_ ≠ (.slice Ao17 y239.length co17 : Value).ownBlock ∧ some k_ ≠ (.slice Ao32 t242.length co32 : Value).ownBlock) v250 t248) := ⟨h0_⟩
             have n1_ : Aside0 (Kd.R (Kd.int .u8) 5 w42 w.heap.size (fun k_ => some k_ ≠ (v250 : Value).ownBlock ∧ some k_ ≠ (v256 : Value).ownBlock ∧ some k_ ≠ (.slice Ao17 y239.length co17 : Value).ownBlock ∧ some k_ ≠ (.slice Ao32 t242.length co32 : Value).ownBlock) v253 t252) := ⟨h1_⟩
             have n2_ : Aside0 (Kd.R (Kd.int .u8) 5 w42 w.heap.size (fun k_ => some k_ ≠ (v250 : Value).ownBlock ∧ some k_ ≠ (v253 : Value).ownBlock ∧ some k_ ≠ (.slice Ao17 y239.length co17 : Value).ownBlock ∧ some k_ ≠ (.slice Ao32 t242.length co32 : Value).ownBlock) v256 t255) := ⟨h2_⟩
             have n3_ : Aside0 (Kd.R (Kd.int .u8) 5 w42 w.heap.size (fun k_ => some k_ ≠ (v250 : Value).ownBlock ∧ some k_ ≠ (v253 : Value).ownBlock ∧ some k_ ≠ (v256 : Value).ownBlock ∧ some k_ ≠ (.slice Ao32 t242.length co32 : Value).ownBlock) (.slice Ao17 y239.length co17) y239) := ⟨h3_⟩
             have n4_ : Aside0 (Kd.R (Kd.int .u8) 5 w42 w.heap.size (fun k_ => some k_ ≠ (v250 : Value).ownBlock ∧ some k_ ≠ (v253 : Value).ownBlock ∧ some k_ ≠ (v256 : Value).ownBlock ∧ some k_ ≠ (.slice Ao17 y239.length co17 : Value).ownBlock) (.slice Ao32 t242.length co32) t242) := ⟨h4_⟩
             have n5_ : Aside0 (Below w.heap.size w w42) := ⟨h5_⟩
             clear HO_0
             clear HO_5
             clear HO251
             clear HB
             clear h0_ h1_ h2_ h3_ h4_ h5_
             have HO251 := n0_
             have HO254 := n1_
             have HO257 := n2_
             have HO_0 := n3_
             have HO_5 := n4_
             have HB := n5_
             clear n0_ n1_ n2_ n3_ n4_ n5_
             have hHeld := trivial
             refine norm_ (a' := ?_) ?_ ?_
             rotate_left
             ·simp only [putAll, Act.put, sq_a1, sq_a2, sq_a3, c25b0, c28b0, c30b0, c31b0]
              rfl
             refine pure_ (i := 29) (N := some 82) (v := ?_) (a' := ?_) mk34 rfl rfl (any_of HT_.out (by kernel_rfl)) (fun _ _ _ h => h) (Or.inl ⟨by rfl, ?_⟩) ?_ ?_; rotate_left; (intro w'; go_simp; with_reducible rfl); rotate_left; (simp only [Act.put, sq_a1, sq_a2, sq_a3, i64_w, i32_w]; rfl)
             refine pure_ (i := 30) (N := some 83) (v := ?_) (a' := ?_) mk35 rfl rfl (any_of HT_.out (by kernel_rfl)) (fun _ _ _ h => h) (Or.inl ⟨by rfl, ?_⟩) ?_ ?_; rotate_left; (intro w'; go_simp; with_reducible rfl); rotate_left; (simp only [Act.put, sq_a1, sq_a2, sq_a3, i64_w, i32_w]; rfl)
             refine pure_ (i := 31) (N := some 4) (v := ?_) (a' := ?_) mk36 rfl rfl (any_of HT_.out (by kernel_rfl)) (fun _ _ _ h => h) (Or.inl ⟨by rfl, ?_⟩) ?_ ?_; rotate_left; (intro w'; go_simp; with_reducible rfl); rotate_left; (simp only [Act.put, sq_a1, sq_a2, sq_a3, i64_w, i32_w]; rfl)
             refine done_ (done_of HT_.out (by kernel_rfl)) ?_
             try go_wp2
             go_ret
             exact ⟨by first | rfl | (simp [errW_none, errW_some] <;> rfl) | (simp only [← hji3]; first | rfl | (simp [errW_none, errW_some] <;> rfl)) | (simp [*, errW_none, errW_some] <;> rfl), by repeat (first | (with_reducible first | exact HB.out | apply sq_b | apply sq_n | apply sq_d) | exact HB.out)⟩
            ·rw [if_neg c31] at H
             exact absurd ((Option.some.inj H).trans hr_) (by decide)
           ·rw [if_neg c30] at H
            exact absurd ((Option.some.inj H).trans hr_) (by decide)
          ·rw [if_neg c28] at H
           exact absurd ((Option.some.inj H).trans hr_) (by decide)
         ·rw [if_neg c25] at H
          exact absurd ((Option.some.inj H).trans hr_) (by decide)
     ·replace c11 := Bool.eq_false_iff.mpr c11
      subst c11
      have H1 : (if t243 = 5 then (some ((t242.length : Int) == 0)) else (some false)) = some r := by rw [if_neg (show ¬ (false = true) by decide)] at H; exact H
      clear H
      have H := H1
      clear H1
      by_cases c73 : t243 = 5
      ·rw [if_pos c73] at H
       have c73b0 : (t243 == 5) = true := beq_iff_eq.mpr c73
       have c73b1 : (t243 != 5) = false := bne_eq_false_iff_eq.mpr c73
       clear c73
       obtain rfl := Option.some.inj H
       go_enter Tryd.func7, Tryd.ntmps7
       go_wp2_with (first | ((with_reducible refine gate_dst (N := 9) rfl ?_); (try (refine gate_guard (by rfl) ?_; dsimp only)); refine Kd.R_lit (Kd.int .u8) _ 5 ?hg (N := 9) ?hd (xs := ([] : List Int)) (inner := []) (ok := fun _ => True) (okp := fun _ => True) ?hr ?hp (fun _ hk => hk) trivial (Below.refl _ _) (Nat.le_refl _) (by simp) ?_; (case hd => rfl); (case hg => rfl); (case hr => first | (go_simp; done) | (go_simp; rfl)); (case hp => exact (Reps.none _ _)); intro v236 w74 ho75 hb hg_ hnew_; clear hg_ hnew_; (first | rw [← Ny235.out] at ho75 | (simp only [Int.reduceToNat] at ho75; rw [← Ny235.out] at ho75)); have n0_ := sq_m (Kd.R_lower ho75 (below_size (by repeat (first | (with_reducible first | exact HB.out | apply sq_b | apply sq_n | apply sq_d) | exact HB.out)))); have n1_ := sq_m (below_step (by repeat (first | (with_reducible first | exact HB.out | apply sq_b | apply sq_n | apply sq_d) | exact HB.out)) hb); clear HB; have HO237 := n0_; have HB := n1_; clear n0_ n1_; clear hb ho75; obtain ⟨i076, hi076, _, hsz76, _⟩ := info_parts info5; obtain ⟨hcut76, hA76, hC76⟩ := print_take_of (P := Tryd.prog) (Value.int .u8) 0 35 5 .i64 Tryd.underlying35 hi076 hsz76 A0 c0 l0 (ji3) (of_decide_eq_true (by first | (with_reducible assumption) | assumption)) (of_decide_eq_true (by first | (with_reducible assumption) | assumption)) HC0.out; have HR238 := sq_m (Kd.C_of_reads (h1 := fun _ => rfl) (hA76 _ (Kd.reads_of_C HR0.out))); have HC238 := sq_m hC76; clear hA76 hC76 hi076 hsz76) | ((with_reducible refine gate_builtin (b := .append) (xs := #[.tmp 9, .tmp 14]) rfl ?_); (try (refine gate_guard (by rfl) ?_; dsimp only)); at_builtin; refine Kd.R_append_rows (Kd.int .u8) (w0 := w) w.heap.size rfl (.tmp 9) (.tmp 14) 35 5 (.int .u8 0) 1 rfl Tryd.underlying35 info5 rfl (by decide) (by omega) v236 y235 (l0.take ((ji3) : Int).toNat) _ _ _ (fun _ => True) (fun _ => False) rfl rfl ?aO ?aR (fun _ _ h => h) (fun _ h => h.elim) ?aF ?aB ?aS ?aL ?_; (case aR => first | (refine reads_len (show (l0.take ((ji3) : Int).toNat).length = (ji3).toNat from (by rw [List.length_take]; have h_ : ((ji3) : Int) ≤ (l0.length : Int) := of_decide_eq_true (by first | (with_reducible assumption) | assumption); omega)) ?_; repeat (first | exact (Kd.C_below HR238.out HB.out) | (with_reducible refine Kd.C_alloc ?_ _) | (with_reducible refine Kd.C_drewN ?_ _) | (with_reducible refine Kd.C_drew ?_))) | (repeat (first | exact (Kd.C_below HR238.out HB.out) | (with_reducible refine Kd.C_alloc ?_ _) | (with_reducible refine Kd.C_drewN ?_ _) | (with_reducible refine Kd.C_drew ?_)))); (case aB => exact (by repeat (first | (with_reducible first | exact HB.out | apply sq_b | apply sq_n | apply sq_d) | exact HB.out))); (case aF => exact (fun _ _ => trivial)); (case aO => exact (by (with_reducible repeat (first | apply sq_A | apply sq_N | apply sq_D)); exact HO237.out)); (case aS => exact (below_size (by repeat (first | (with_reducible first | exact HB.out | apply sq_b | apply sq_n | apply sq_d) | exact HB.out)))); (case aL => have := LMc6.out; have hlx_ := (show (l0.take ((ji3) : Int).toNat).length = (ji3).toNat from (by rw [List.length_take]; have h_ : ((ji3) : Int) ≤ (l0.length : Int) := of_decide_eq_true (by first | (with_reducible assumption) | assumption); omega)); omega); intro v240 w77 ho hb hg hat; rw [← Ny239.out] at ho; have n0_ := sq_m (hb); have n1_ := sq_m (ho); clear HB; clear HO237; have HB := n0_; have HO241 := n1_; clear n0_ n1_; clear ho hb hg hat; obtain ⟨Ao78, co78, eo78⟩ := Kd.R_slice HO241.out; subst eo78) | ((with_reducible refine gate_callee (f := 21) rfl ?_); refine goesL_ (some 19) rfl rfl Tryd.func21 (by kernel_rfl) rfl #[.slice Ao78 y239.length co78, .int .i64 a1] rfl (by (try simp only [List.map_toArray, List.map_cons, List.map_nil]); first | done | rfl | (simp only [List.length_drop, List.length_take]; rfl)) ?_; (with_reducible refine (version_Code.calls k _ _ y239 a1 t242 t243 _ ?side1 ?side2 A7.out).mono ?_); (case side1 => repeat (first | exact (Kd.R_reads' HO241.out).2.2 | (with_reducible refine Kd.C_alloc ?_ _) | (with_reducible refine Kd.C_drewN ?_ _) | (with_reducible refine Kd.C_drew ?_))); (case side2 => exact (Kd.R_reads' HO241.out).2.1); rintro e w79 ⟨v244, rfl, ho0, hb⟩; refine ⟨_, rfl, ?_⟩; have n0_ := sq_m (Kd.R_elder' (by (with_reducible repeat (first | apply sq_A | apply sq_N | apply sq_D)); exact HO241.out) (Kd.R_base ho0) hb); have n1_ := sq_m (Kd.R_lower (Kd.R_new' ho0 (Kd.R_lt (by (with_reducible repeat (first | apply sq_A | apply sq_N | apply sq_D)); exact HO241.out))) (below_size (by repeat (first | (with_reducible first | exact HB.out | apply sq_b | apply sq_n | apply sq_d) | exact HB.out)))); have n2_ := sq_m (below_step (by repeat (first | (with_reducible first | exact HB.out | apply sq_b | apply sq_n | apply sq_d) | exact HB.out)) hb); clear HO241; clear HB; have HO241 := n0_; have HO245 := n1_; have HB := n2_; clear n0_ n1_ n2_; (try clear hb); (try clear hb2); (try clear hk); (try clear hi); (try clear ho0)) | ((with_reducible refine gate_callee (f := 19) rfl ?_); refine goesL_ (some 22) rfl rfl Tryd.func19 (by kernel_rfl) rfl #[] rfl (by (try simp only [List.map_toArray, List.map_cons, List.map_nil]); first | done | rfl | (simp only [List.length_drop, List.length_take]; rfl)) ?_; (with_reducible refine (shuttlelaw11_splits.calls k  true _ A8.out).mono ?_); rintro e w80 ⟨rfl, hb⟩; refine ⟨_, rfl, ?_⟩; have n0_ := sq_m (Kd.R_below (by (with_reducible repeat (first | apply sq_A | apply sq_N | apply sq_D)); exact HO241.out) hb); have n1_ := sq_m (Kd.R_below (by (with_reducible repeat (first | apply sq_A | apply sq_N | apply sq_D)); exact HO245.out) hb); have n2_ := sq_m (below_step (by repeat (first | (with_reducible first | exact HB.out | apply sq_b | apply sq_n | apply sq_d) | exact HB.out)) hb); clear HO241; clear HO245; clear HB; have HO241 := n0_; have HO245 := n1_; have HB := n2_; clear n0_ n1_ n2_; (try clear hb); (try clear hb2); (try clear hk); (try clear hi)) | ((with_reducible refine gate_callee (f := 15) rfl ?_); refine goesL_ (some 25) rfl rfl Tryd.func15 (by kernel_rfl) rfl #[.slice Ao78 y239.length co78] rfl (by (try simp only [List.map_toArray, List.map_cons, List.map_nil]); first | done | rfl | (simp only [List.length_drop, List.length_take]; rfl)) ?_; (with_reducible refine (shuttleref01_Right.calls k _ _ y239 false _ ?side1 ?side2 A10.out).mono ?_); (case side1 => repeat (first | exact (Kd.R_reads' HO241.out).2.2 | (with_reducible refine Kd.C_alloc ?_ _) | (with_reducible refine Kd.C_drewN ?_ _) | (with_reducible refine Kd.C_drew ?_))); (case side2 => exact (Kd.R_reads' HO241.out).2.1); rintro e w' ⟨rfl, ⟨nd, rfl⟩⟩; refine ⟨_, rfl, ?_⟩; obtain ⟨Ao81, co81, eo81⟩ := Kd.R_slice HO245.out; subst eo81))
       go_ret
       exact ⟨by first | rfl | (simp [errW_none, errW_some] <;> rfl) | (simp only [← hji3]; first | rfl | (simp [errW_none, errW_some] <;> rfl)) | (simp [*, errW_none, errW_some] <;> rfl), by repeat (first | (with_reducible first | exact HB.out | apply sq_b | apply sq_n | apply sq_d) | exact HB.out)⟩
      ·rw [if_neg c73] at H
       exact absurd ((Option.some.inj H).trans hr_) (by decide)
    ·replace c9 := Bool.eq_false_iff.mpr c9
     subst c9
     have H1 : (some false) = some r := by rw [if_neg (show ¬ (false = true) by decide)] at H; exact H
     exact absurd ((Option.some.inj H1).trans hr_) (by decide)
   ·rw [if_neg c6] at H
    exact absurd H (by simp)
  ·rw [if_neg c5] at H
   exact absurd H (by simp)
 ·rw [if_neg c4] at H
  exact absurd H (by simp)

/-- THE ONE PURE STATEMENT of shuttlelaw11_VersionCodes: yours. -/
def shuttlelaw11_VersionCodes.Pure : Prop := ∀ (l0 : List Int) (a1 : Int), l0.length ≤ maxLen → l0.length * 1 ≤ 140737488351232 → (∀ x ∈ l0, (Lit.int .u8 x).wf = true) → (Lit.int .i64 a1).wf = true → ∃ k, shuttlelaw11_VersionCodes.f k l0 a1 = some true
theorem shuttlelaw11_VersionCodes.walk (P : shuttlelaw11_VersionCodes.Pure) (a0 : Option Addr) (len0 cap0 : Nat) (z0 : List Int) (a1 : Int) (w : World) (w0 : (a0 = none ∧ len0 = 0 ∧ cap0 = 0 ∧ z0 = []) ∨ ∃ x, a0 = some x ∧ len0 ≤ cap0 ∧ cap0 ≤ maxLen ∧ z0.length = cap0 ∧ (∀ i, i < z0.length → w.cell? (x.add i) = some (.int .u8 (z0.getD i 0))) ∧ ∀ n ∈ z0, (Lit.int .u8 n).wf = true) (y0 : len0 * 1 ≤ 140737488351232) (w1 : (Lit.int .i64 a1).wf = true) (hT_ : TP w := by first | assumption | exact TP_of (by assumption : TP _) (by repeat (first | (with_reducible first | apply below_alloc | apply pw_below_drewN | apply below_drew1 | refine below_set ?_ (Aside0.out (by assumption))) | exact Aside0.out (by assumption) | exact Below.refl _ _))) :
    Calls Tryd.prog 7 #[.slice a0 len0 cap0, .int .i64 a1] w fun e w' => e = .returned (.bool true) ∧ Below w.heap.size w w' := by
  obtain ⟨l0, rfl, hr0, hm0, hw0, hc0⟩ := ReadsInt.ofRowC w0
  obtain ⟨k, h⟩ := P l0 a1 hm0 y0 hw0 w1
  refine (shuttlelaw11_VersionCodes.calls k _ _ l0 a1 true rfl w (Kd.C_of_reads (d := (0 : Int)) (h1 := fun _ => rfl) hr0) hc0 h).mono ?_
  rintro e w' ⟨rfl, hd⟩
  exact ⟨rfl, hd⟩

end Go.Proofs.YtmajbcglpcagoaaDoor.X

-- YtmajbcglpcagoaaDoorXPlain
namespace Go.Proofs.YtmajbcglpcagoaaDoor.X
open Go.RowKit Go.Proofs.YtmajbcglpcagoaaDoorW.PrintWords Go.Proofs.YtmajbcglpcagoaaDoorW.PrintLast Go.Proofs.YtmajbcglpcagoaaDoorW.PrintMore
set_option linter.unusedVariables false

theorem rd_get (l : List Int) (i : Nat) (h : i < l.length) : rd l (i : Int) = l[i] := by
  unfold rd
  simp [List.getD_eq_getElem?_getD, h]
theorem rd_getD (l : List Int) (i : Nat) : rd l (i : Int) = l.getD i 0 := by
  unfold rd; simp
theorem wrap_in {n : Int} (h0 : -9223372036854775808 ≤ n) (h1 : n ≤ 9223372036854775807) : wrap64 n = n := by
  unfold wrap64; omega
theorem wrap_succ (i : Nat) (h : (i : Int) < 9223372036854775807) : wrap64 ((i : Int) + 1) = ((i + 1 : Nat) : Int) := by
  rw [wrap_in (by omega) (by omega)]; omega
theorem u8_of_wf {l : List Int} (h : ∀ x ∈ l, (Lit.int .u8 x).wf = true) : ∀ x ∈ l, 0 ≤ x ∧ x ≤ 255 := fun x hx => Go.bounds_u8 (h x hx)
theorem i64_of_wf {l : List Int} (h : ∀ x ∈ l, (Lit.int .i64 x).wf = true) : ∀ x ∈ l, -9223372036854775808 ≤ x ∧ x ≤ 9223372036854775807 := fun x hx => Go.bounds_i64 (h x hx)
theorem pred {k d : Nat} (h : d < k) : ∃ m, k = m + 1 := ⟨k - 1, by omega⟩
theorem drop_cons {α : Type} (l : List α) (i : Nat) (h : i < l.length) : l.drop i = l[i] :: l.drop (i + 1) := List.drop_eq_getElem_cons h
theorem take_snoc {α : Type} (l : List α) (i : Nat) (h : i < l.length) : l.take (i + 1) = l.take i ++ [l[i]] := by
  rw [List.take_succ_eq_append_getElem h]
/-- f, so many times. -/
def it {α : Type} (f : α → α) : Nat → α → α
  | 0, x => x
  | n + 1, x => it f n (f x)
theorem it_succ {α : Type} (f : α → α) (n : Nat) (x : α) : it f (n + 1) x = it f n (f x) := rfl
theorem it_add {α : Type} (f : α → α) (m n : Nat) : ∀ x : α, it f (m + n) x = it f n (it f m x) := by
  induction m with
  | zero => intro x; simp [it]
  | succ m ih => intro x; rw [show m + 1 + n = (m + n) + 1 from by omega, it_succ, ih, it_succ]
theorem it_last {α : Type} (f : α → α) (n : Nat) (x : α) : it f (n + 1) x = f (it f n x) := by
  rw [it_add f n 1]; rfl

end Go.Proofs.YtmajbcglpcagoaaDoor.X

-- YtmajbcglpcagoaaDoorXBit
namespace Go.Proofs.YtmajbcglpcagoaaDoor.X
open Go.RowKit Go.Proofs.YtmajbcglpcagoaaDoorW.PrintWords Go.Proofs.YtmajbcglpcagoaaDoorW.PrintLast Go.Proofs.YtmajbcglpcagoaaDoorW.PrintMore
set_option linter.unusedVariables false
def isb (x : Int) : Prop := x = 0 ∨ x = 1
theorem isb01 {x : Int} (h : isb x) : 0 ≤ x ∧ x ≤ 1 := by unfold isb at h; omega
theorem isb_of {x : Int} (h0 : 0 ≤ x) (h1 : x ≤ 1) : isb x := by unfold isb; omega
theorem getD_isb {l : List Int} (h : ∀ x ∈ l, isb x) (i : Nat) : isb (l.getD i 0) := by
  by_cases hi : i < l.length
  · rw [List.getD_eq_getElem?_getD, List.getElem?_eq_getElem hi]; exact h _ (List.getElem_mem hi)
  · rw [List.getD_eq_getElem?_getD, List.getElem?_eq_none (by omega)]; exact .inl rfl
theorem xor_isb {x y : Int} (hx : isb x) (hy : isb y) : isb (Go.bits .xor .u8 x y) := by
  rcases hx with rfl | rfl <;> rcases hy with rfl | rfl <;> (unfold isb; decide +kernel)
theorem and_isb {x y : Int} (hx : isb x) (hy : isb y) : isb (Go.bits .and .u8 x y) := by
  rcases hx with rfl | rfl <;> rcases hy with rfl | rfl <;> (unfold isb; decide +kernel)
theorem xor_zero {x : Int} (hx : isb x) : Go.bits .xor .u8 x 0 = x := by
  rcases hx with rfl | rfl <;> decide +kernel
theorem and_zero {x : Int} (hx : isb x) : Go.bits .and .u8 x 0 = 0 := by
  rcases hx with rfl | rfl <;> decide +kernel
theorem step_lin {p q t x y : Int} (hp : isb p) (hq : isb q) (ht : isb t) (hx : isb x) (hy : isb y) :
    Go.bits .xor .u8 (Go.bits .xor .u8 p q) (Go.bits .and .u8 t (Go.bits .xor .u8 x y)) = Go.bits .xor .u8 (Go.bits .xor .u8 p (Go.bits .and .u8 t x)) (Go.bits .xor .u8 q (Go.bits .and .u8 t y)) := by
  rcases hp with rfl | rfl <;> rcases hq with rfl | rfl <;> rcases ht with rfl | rfl <;> rcases hx with rfl | rfl <;> rcases hy with rfl | rfl <;> decide +kernel
end Go.Proofs.YtmajbcglpcagoaaDoor.X

-- YtmajbcglpcagoaaDoorXBitsRight
namespace Go.Proofs.YtmajbcglpcagoaaDoor.X
open Go.RowKit Go.Proofs.YtmajbcglpcagoaaDoorW.PrintWords Go.Proofs.YtmajbcglpcagoaaDoorW.PrintLast Go.Proofs.YtmajbcglpcagoaaDoorW.PrintMore
set_option linter.unusedVariables false

def big (x : Int) : Bool := decide (x > 1)
theorem index_l0 (l : List Int) (hl : l.length ≤ 140737488355328) (d : Nat) : ∀ k i : Nat, i + d = l.length → d < k →
    ∃ r, slices_IndexFunc_byte_byte.l0 k l (l.length : Int) (i : Int) = some r ∧ decide (r ≥ 0) = (l.drop i).any big := by
  induction d with
  | zero =>
    intro k i hi hk
    obtain ⟨k, rfl⟩ := pred hk
    refine ⟨-1, ?_, ?_⟩
    · simp only [slices_IndexFunc_byte_byte.l0]; rw [if_neg (by omega)]
    · rw [List.drop_eq_nil_of_le (by omega)]; rfl
  | succ d ih =>
    intro k i hi hk
    obtain ⟨k, rfl⟩ := pred hk
    have hlt : i < l.length := by omega
    simp only [slices_IndexFunc_byte_byte.l0]
    rw [if_pos (by omega), if_pos (by omega), if_pos (by omega), rd_get l i hlt, drop_cons l i hlt, List.any_cons]
    unfold bits_Right_1.f
    simp only [Option.bind_some]
    cases hb : big l[i] with
    | true =>
      unfold big at hb
      rw [if_pos hb]
      exact ⟨_, rfl, by rw [Bool.true_or]; exact decide_eq_true (by omega)⟩
    | false =>
      unfold big at hb
      rw [if_neg (by rw [hb]; decide), wrap_succ i (by omega), Bool.false_or]
      exact ih k (i + 1) (by omega) (by omega)
theorem right_f (l : List Int) (hl : l.length ≤ 140737488355328) (k : Nat) (hk : l.length < k) : bits_Right.f k l = some (!l.any big) := by
  obtain ⟨r, h1, h2⟩ := index_l0 l hl l.length k 0 (by omega) hk
  unfold bits_Right.f slices_ContainsFunc_byte_byte.f slices_IndexFunc_byte_byte.f
  rw [show slices_IndexFunc_byte_byte.l0 k l (l.length : Int) 0 = some r from h1]
  simp only [Option.bind_some]
  rw [h2]; rfl
theorem rright_l0 (l : List Int) (hl : l.length ≤ 140737488355328) (d : Nat) : ∀ k i : Nat, i + d = l.length → d < k → shuttleref01_Right.l0 k l (i : Int) = some (!(l.drop i).any big) := by
  induction d with
  | zero =>
    intro k i hi hk
    obtain ⟨k, rfl⟩ := pred hk
    simp only [shuttleref01_Right.l0]
    rw [if_neg (by omega), List.drop_eq_nil_of_le (by omega)]; rfl
  | succ d ih =>
    intro k i hi hk
    obtain ⟨k, rfl⟩ := pred hk
    have hlt : i < l.length := by omega
    simp only [shuttleref01_Right.l0]
    rw [if_pos (by omega), if_pos (by omega), rd_get l i hlt, drop_cons l i hlt, List.any_cons]
    cases hb : big l[i] with
    | true =>
      rw [if_pos (of_decide_eq_true hb)]; rfl
    | false =>
      rw [if_neg (of_decide_eq_false hb), wrap_succ i (by omega), Bool.false_or]
      exact ih k (i + 1) (by omega) (by omega)
theorem rright_f (l : List Int) (hl : l.length ≤ 140737488355328) (k : Nat) (hk : l.length < k) : shuttleref01_Right.f k l = some (!l.any big) := by
  have := rright_l0 l hl l.length k 0 (by omega) hk
  exact this

end Go.Proofs.YtmajbcglpcagoaaDoor.X

-- YtmajbcglpcagoaaDoorXConv
namespace Go.Proofs.YtmajbcglpcagoaaDoor.X
open Go.RowKit Go.Proofs.YtmajbcglpcagoaaDoorW.PrintWords Go.Proofs.YtmajbcglpcagoaaDoorW.PrintLast Go.Proofs.YtmajbcglpcagoaaDoorW.PrintMore
set_option linter.unusedVariables false
theorem tap_isb (s k : Nat) : isb (tapAt s k) := getD_isb (l := tapsL) (by unfold isb tapsL; decide) _
/-- Of seven bits, the newest first, what a stream tells. -/
def bitB (b : Nat → Int) (s : Nat) : Nat → Int
  | 0 => 0
  | k + 1 => Go.bits .xor .u8 (bitB b s k) (Go.bits .and .u8 (tapAt s k) (b k))
theorem bitB_isb {b : Nat → Int} (hb : ∀ j, isb (b j)) (s : Nat) : ∀ k, isb (bitB b s k)
  | 0 => .inl rfl
  | k + 1 => xor_isb (bitB_isb hb s k) (and_isb (tap_isb s k) (hb k))
theorem bitB_congr {b c : Nat → Int} (s : Nat) : ∀ k, (∀ j, j < k → b j = c j) → bitB b s k = bitB c s k
  | 0, _ => rfl
  | k + 1, h => by unfold bitB; rw [bitB_congr s k (fun j hj => h j (by omega)), h k (by omega)]
theorem bitB_zero (s : Nat) : ∀ k, bitB (fun _ => 0) s k = 0
  | 0 => rfl
  | k + 1 => by unfold bitB; rw [bitB_zero s k, and_zero (tap_isb s k)]; decide +kernel
theorem bitB_xor {b c : Nat → Int} (hb : ∀ j, isb (b j)) (hc : ∀ j, isb (c j)) (s : Nat) : ∀ k, bitB (fun j => Go.bits .xor .u8 (b j) (c j)) s k = Go.bits .xor .u8 (bitB b s k) (bitB c s k)
  | 0 => by show (0 : Int) = Go.bits .xor .u8 0 0; decide +kernel
  | k + 1 => by
    unfold bitB
    rw [bitB_xor hb hc s k]
    exact step_lin (bitB_isb hb s k) (bitB_isb hc s k) (tap_isb s k) (hb k) (hc k)
/-- The bit of a list that lies k steps behind a step. -/
def lb (l : List Int) (t k : Nat) : Int := if k ≤ t then l.getD (t - k) 0 else 0
theorem lb_isb {l : List Int} (h : ∀ x ∈ l, isb x) (t k : Nat) : isb (lb l t k) := by
  unfold lb; split
  · exact getD_isb h _
  · exact .inl rfl
theorem lb_succ (l : List Int) (t k : Nat) : lb l (t + 1) (k + 1) = lb l t k := by
  unfold lb
  by_cases h : k ≤ t
  · rw [if_pos h, if_pos (by omega), show t + 1 - (k + 1) = t - k from by omega]
  · rw [if_neg h, if_neg (by omega)]
theorem lb_zero (l : List Int) (t : Nat) : lb l t 0 = l.getD t 0 := by unfold lb; rw [if_pos (by omega)]; rfl
theorem bitR_eq {l : List Int} (h : ∀ x ∈ l, isb x) (t s : Nat) : ∀ k, bitR l t s k = bitB (lb l t) s k
  | 0 => rfl
  | k + 1 => by
    unfold bitR bitB
    rw [bitR_eq h t s k]
    by_cases c : k ≤ t ∧ t - k < l.length
    · rw [if_pos c]; unfold lb; rw [if_pos c.1]
    · rw [if_neg c]
      have e : lb l t k = 0 := by
        unfold lb
        split
        · rw [List.getD_eq_getElem?_getD, List.getElem?_eq_none (by omega)]; rfl
        · rfl
      rw [e, and_zero (tap_isb s k), xor_zero (bitB_isb (lb_isb h t) s k)]
/-- A state's number, a word's. -/
def sd (b : Nat → Int) : Int := 32 * b 1 + 16 * b 2 + 8 * b 3 + 4 * b 4 + 2 * b 5 + b 6
def wd (b : Nat → Int) : Int := 64 * b 0 + sd b
def bw (w j : Nat) : Int := ((w / 2 ^ (6 - j) % 2 : Nat) : Int)
theorem bw_isb (w j : Nat) : isb (bw w j) := by unfold bw; exact isb_of (by omega) (by omega)
theorem sd_in {b : Nat → Int} (hb : ∀ j, isb (b j)) : 0 ≤ sd b ∧ sd b ≤ 63 := by
  have h1 := isb01 (hb 1); have h2 := isb01 (hb 2); have h3 := isb01 (hb 3); have h4 := isb01 (hb 4); have h5 := isb01 (hb 5); have h6 := isb01 (hb 6)
  unfold sd; omega
theorem wd_in {b : Nat → Int} (hb : ∀ j, isb (b j)) : 0 ≤ wd b ∧ wd b ≤ 127 := by
  have := sd_in hb; have h0 := isb01 (hb 0)
  unfold wd; omega
theorem bw_wd {b : Nat → Int} (hb : ∀ j, isb (b j)) (j : Nat) (hj : j < 7) : bw (wd b).toNat j = b j := by
  have h0 := isb01 (hb 0); have h1 := isb01 (hb 1); have h2 := isb01 (hb 2); have h3 := isb01 (hb 3); have h4 := isb01 (hb 4); have h5 := isb01 (hb 5); have h6 := isb01 (hb 6)
  unfold bw wd sd
  obtain rfl | rfl | rfl | rfl | rfl | rfl | rfl : j = 0 ∨ j = 1 ∨ j = 2 ∨ j = 3 ∨ j = 4 ∨ j = 5 ∨ j = 6 := by omega
  all_goals (simp only [Nat.sub_zero, Nat.reduceSub, Nat.reducePow]; omega)
theorem out_all : ∀ w : Fin 128, conv_out.f ((w.val : Nat) : Int) = some (bitB (bw w.val) 0 7, bitB (bw w.val) 1 7, bitB (bw w.val) 2 7, bitB (bw w.val) 3 7) := by decide +kernel
theorem word_all : ∀ s : Fin 64, ∀ b : Fin 2, conv_word.f ((s.val : Nat) : Int) ((b.val : Nat) : Int) = some ((64 * b.val + s.val : Nat) : Int) := by decide +kernel
theorem word_f {s b : Int} (hs : 0 ≤ s ∧ s ≤ 63) (hb : isb b) : conv_word.f s b = some (64 * b + s) := by
  have hb' := isb01 hb
  have := word_all ⟨s.toNat, by omega⟩ ⟨b.toNat, by omega⟩
  rw [show (((⟨s.toNat, by omega⟩ : Fin 64).val : Nat) : Int) = s from by show ((s.toNat : Nat) : Int) = s; omega, show (((⟨b.toNat, by omega⟩ : Fin 2).val : Nat) : Int) = b from by show ((b.toNat : Nat) : Int) = b; omega] at this
  rw [this]
  congr 1
  show ((64 * b.toNat + s.toNat : Nat) : Int) = _
  omega
theorem out_f {b : Nat → Int} (hb : ∀ j, isb (b j)) : conv_out.f (wd b) = some (bitB b 0 7, bitB b 1 7, bitB b 2 7, bitB b 3 7) := by
  have hw := wd_in hb
  have := out_all ⟨(wd b).toNat, by omega⟩
  rw [show (((⟨(wd b).toNat, by omega⟩ : Fin 128).val : Nat) : Int) = wd b from by show (((wd b).toNat : Nat) : Int) = _; omega] at this
  rw [this]
  have e : ∀ s, bitB (bw (wd b).toNat) s 7 = bitB b s 7 := fun s => bitB_congr s 7 (fun j hj => bw_wd hb j hj)
  simp only [e]
/-- What is told at a step, of a list's first steps. -/
def code4 (l : List Int) (t : Nat) : List Int := [bitB (lb l t) 0 7, bitB (lb l t) 1 7, bitB (lb l t) 2 7, bitB (lb l t) 3 7]
def codeN (l : List Int) : Nat → List Int
  | 0 => []
  | n + 1 => codeN l n ++ code4 l n
def code (l : List Int) : List Int := codeN l (l.length + 6)
theorem codeN_length (l : List Int) : ∀ n, (codeN l n).length = 4 * n
  | 0 => rfl
  | n + 1 => by unfold codeN; rw [List.length_append, codeN_length l n]; show _ + 4 = _; omega
theorem code_length (l : List Int) : (code l).length = 4 * (l.length + 6) := codeN_length l _
theorem code4_isb {l : List Int} (h : ∀ x ∈ l, isb x) (t : Nat) : ∀ x ∈ code4 l t, isb x := by
  intro x hx
  simp only [code4, List.mem_cons, List.not_mem_nil, or_false] at hx
  rcases hx with rfl | rfl | rfl | rfl <;> exact bitB_isb (lb_isb h t) _ _
theorem codeN_isb {l : List Int} (h : ∀ x ∈ l, isb x) : ∀ n, ∀ x ∈ codeN l n, isb x
  | 0 => by intro x hx; cases hx
  | n + 1 => by
    intro x hx
    unfold codeN at hx
    rcases List.mem_append.1 hx with hx | hx
    · exact codeN_isb h n x hx
    · exact code4_isb h n x hx
theorem sd_succ (l : List Int) (h : ∀ x ∈ l, isb x) (t : Nat) : sd (lb l (t + 1)) = wd (lb l t) / 2 := by
  have h6 := isb01 (lb_isb h t 6)
  unfold wd sd
  rw [lb_succ, lb_succ, lb_succ, lb_succ, lb_succ, lb_succ]
  omega
theorem sd_start (l : List Int) : sd (lb l 0) = 0 := by
  unfold sd lb; rfl
theorem code_l0 (l : List Int) (h : ∀ x ∈ l, isb x) (hl : l.length ≤ 16384) (d : Nat) : ∀ k i : Nat, i + d = l.length + 6 → d < k →
    conv_Code.l0 k l (codeN l i) (sd (lb l i)) ((l.length : Int) + 6) (i : Int) = some (code l, 0) := by
  induction d with
  | zero =>
    intro k i hi hk
    obtain ⟨k, rfl⟩ := pred hk
    obtain rfl : i = l.length + 6 := by omega
    simp only [conv_Code.l0]
    rw [if_neg (by omega)]; rfl
  | succ d ih =>
    intro k i hi hk
    obtain ⟨k, rfl⟩ := pred hk
    have hs := sd_in (lb_isb h i)
    have hw := wd_in (lb_isb h i)
    have hn := ih k (i + 1) (by omega) (by omega)
    have ew : conv_word.f (sd (lb l i)) (lb l i 0) = some (wd (lb l i)) := word_f hs (lb_isb h i 0)
    have hlen : (codeN l i).length + [bitB (lb l i) 0 7, bitB (lb l i) 1 7, bitB (lb l i) 2 7, bitB (lb l i) 3 7].length < 140737488355328 := by
      rw [codeN_length]; show 4 * i + 4 < _; omega
    have e2 : wrap64 (wd (lb l i) / 2) = sd (lb l (i + 1)) := by rw [sd_succ l h, wrap_in (by omega) (by omega)]
    simp only [conv_Code.l0]
    rw [if_pos (by omega)]
    by_cases c : (i : Int) < (l.length : Int)
    · rw [if_pos c, if_pos (by omega), rd_getD, ← lb_zero l i, ew, Option.bind_some, out_f (lb_isb h i), Option.bind_some, if_pos hlen, e2, wrap_succ i (by omega)]
      exact hn
    · have e0 : lb l i 0 = 0 := by
        rw [lb_zero, List.getD_eq_getElem?_getD, List.getElem?_eq_none (by omega)]; rfl
      rw [if_neg c]
      rw [e0] at ew
      rw [ew, Option.bind_some, out_f (lb_isb h i), Option.bind_some, if_pos hlen, e2, wrap_succ i (by omega)]
      exact hn
theorem big_isb {l : List Int} (h0 : ∀ x ∈ l, 0 ≤ x) : l.any big = false ↔ ∀ x ∈ l, isb x := by
  constructor
  · intro h x hx
    have := List.any_eq_false.1 h x hx
    unfold big at this
    have := h0 x hx
    exact isb_of this (by simpa using ‹¬decide (x > 1) = true›)
  · intro h
    rw [List.any_eq_false]
    intro x hx
    have := isb01 (h x hx)
    unfold big
    simp; omega
theorem Code_f (l : List Int) (h : ∀ x ∈ l, isb x) (hl : l.length ≤ 16384) (k : Nat) (hk : l.length + 6 < k) : conv_Code.f k l = some (code l, 0) := by
  unfold conv_Code.f
  rw [right_f l (by omega) k (by omega), (big_isb (fun x hx => (isb01 (h x hx)).1)).2 h, Option.bind_some, if_pos (show (!false) = true from rfl), if_neg (by omega)]
  unfold conv_Steps.f
  rw [if_neg (by omega), Option.bind_some, wrap_in (by omega) (by omega)]
  have := code_l0 l h hl (l.length + 6) k 0 (by omega) (by omega)
  rw [sd_start] at this
  exact this
theorem Code_no (l : List Int) (h : l.any big = true) (hl : l.length ≤ 16384) (k : Nat) (hk : l.length < k) : conv_Code.f k l = some ([], 5) := by
  unfold conv_Code.f
  rw [right_f l (by omega) k (by omega), h, Option.bind_some, if_neg (show ¬ (!true) = true by decide)]
theorem rbit_f (l : List Int) (h : ∀ x ∈ l, isb x) (t s : Nat) (ht : (t : Int) ≤ 9223372036854775807) (hs : s < 4) : shuttleref06_Bit.f l (t : Int) (s : Int) = some (bitB (lb l t) s 7) := by
  unfold shuttleref06_Bit.f
  rw [if_pos ⟨by omega, ht, by omega, by omega⟩]
  show some (bitR l t s 7) = _
  rw [bitR_eq h]
theorem rcode_l0 (l : List Int) (h : ∀ x ∈ l, isb x) (hl : l.length ≤ 16384) (d : Nat) : ∀ k i : Nat, i + d = l.length + 6 → 6 * d < k →
    shuttleref06_Code.l0 k l (codeN l i) (i : Int) = some (code l) := by
  induction d with
  | zero =>
    intro k i hi hk
    obtain ⟨k, rfl⟩ := pred (show 0 < k by omega)
    obtain rfl : i = l.length + 6 := by omega
    rw [shuttleref06_Code.l0.eq_2, wrap_in (by omega) (by omega), if_neg (by omega)]; rfl
  | succ d ih =>
    intro k i hi hk
    obtain ⟨k, rfl⟩ : ∃ m, k = m + 6 := ⟨k - 6, by omega⟩
    have hn := ih k (i + 1) (by omega) (by omega)
    have hb := fun s hs => rbit_f l h i s (by omega) hs
    have h0 := hb 0 (by omega); have h1 := hb 1 (by omega); have h2 := hb 2 (by omega); have h3 := hb 3 (by omega)
    have hlen := codeN_length l i
    rw [shuttleref06_Code.l0.eq_2, wrap_in (by omega) (by omega), if_pos (by omega)]
    rw [shuttleref06_Code.l1.eq_2, if_pos (by decide), show ((0 : Int)) = ((0 : Nat) : Int) from rfl, h0, Option.bind_some, if_pos (by omega), show wrap64 (((0 : Nat) : Int) + 1) = ((1 : Nat) : Int) from by unfold wrap64; omega]
    rw [shuttleref06_Code.l1.eq_2, if_pos (by decide), h1, Option.bind_some, if_pos (by simp only [List.length_append, List.length_cons, List.length_nil]; omega), show wrap64 (((1 : Nat) : Int) + 1) = ((2 : Nat) : Int) from by unfold wrap64; omega]
    rw [shuttleref06_Code.l1.eq_2, if_pos (by decide), h2, Option.bind_some, if_pos (by simp only [List.length_append, List.length_cons, List.length_nil]; omega), show wrap64 (((2 : Nat) : Int) + 1) = ((3 : Nat) : Int) from by unfold wrap64; omega]
    rw [shuttleref06_Code.l1.eq_2, if_pos (by decide), h3, Option.bind_some, if_pos (by simp only [List.length_append, List.length_cons, List.length_nil]; omega), show wrap64 (((3 : Nat) : Int) + 1) = ((4 : Nat) : Int) from by unfold wrap64; omega]
    rw [shuttleref06_Code.l1.eq_2, if_neg (by decide), wrap_succ i (by omega)]
    have e : codeN l i ++ [bitB (lb l i) 0 7] ++ [bitB (lb l i) 1 7] ++ [bitB (lb l i) 2 7] ++ [bitB (lb l i) 3 7] = codeN l (i + 1) := by
      show _ = codeN l i ++ code4 l i
      simp [code4]
    rw [e]
    exact hn
theorem rcode_f (l : List Int) (h : ∀ x ∈ l, isb x) (hl : l.length ≤ 16384) (k : Nat) (hk : 6 * (l.length + 6) < k) : shuttleref06_Code.f k l = some (code l) :=
  rcode_l0 l h hl (l.length + 6) k 0 (by omega) hk
end Go.Proofs.YtmajbcglpcagoaaDoor.X

-- YtmajbcglpcagoaaDoorXConv2
namespace Go.Proofs.YtmajbcglpcagoaaDoor.X
open Go.RowKit Go.Proofs.YtmajbcglpcagoaaDoorW.PrintWords Go.Proofs.YtmajbcglpcagoaaDoorW.PrintLast Go.Proofs.YtmajbcglpcagoaaDoorW.PrintMore
set_option linter.unusedVariables false
theorem codeN_succ (l : List Int) (n : Nat) : codeN l (n + 1) = codeN l n ++ code4 l n := rfl
theorem code4_getD (l : List Int) (t s : Nat) (hs : s < 4) : (code4 l t).getD s 0 = bitB (lb l t) s 7 := by
  obtain rfl | rfl | rfl | rfl : s = 0 ∨ s = 1 ∨ s = 2 ∨ s = 3 := by omega
  all_goals rfl
theorem codeN_getD (l : List Int) (t s : Nat) (hs : s < 4) : ∀ n, t < n → (codeN l n).getD (4 * t + s) 0 = bitB (lb l t) s 7
  | 0, h => by omega
  | n + 1, h => by
    unfold codeN
    rw [List.getD_eq_getElem?_getD]
    by_cases c : t < n
    · rw [List.getElem?_append_left (by rw [codeN_length]; omega), ← List.getD_eq_getElem?_getD]
      exact codeN_getD l t s hs n c
    · obtain rfl : t = n := by omega
      rw [List.getElem?_append_right (by rw [codeN_length]; omega), codeN_length, show 4 * t + s - 4 * t = s from by omega, ← List.getD_eq_getElem?_getD]
      exact code4_getD l t s hs
/-- Two lists by exclusive or, their first n places. -/
def zx (a b : List Int) (n : Nat) : List Int := (List.range n).map fun j => Go.bits .xor .u8 (a.getD j 0) (b.getD j 0)
theorem zx_length (a b : List Int) (n : Nat) : (zx a b n).length = n := by simp [zx]
theorem zx_succ (a b : List Int) (n : Nat) : zx a b (n + 1) = zx a b n ++ [Go.bits .xor .u8 (a.getD n 0) (b.getD n 0)] := by
  unfold zx; rw [List.range_succ, List.map_append]; rfl
theorem zx_isb {a b : List Int} (ha : ∀ x ∈ a, isb x) (hb : ∀ x ∈ b, isb x) (n : Nat) : ∀ x ∈ zx a b n, isb x := by
  intro x hx
  simp only [zx, List.mem_map] at hx
  obtain ⟨j, _, rfl⟩ := hx
  exact xor_isb (getD_isb ha j) (getD_isb hb j)
theorem take_getD (a : List Int) (n j : Nat) (h : j < n) : (a.take n).getD j 0 = a.getD j 0 := by
  rw [List.getD_eq_getElem?_getD, List.getElem?_take, if_pos h, ← List.getD_eq_getElem?_getD]
theorem getD_out (a : List Int) (j : Nat) (h : a.length ≤ j) : a.getD j 0 = 0 := by
  rw [List.getD_eq_getElem?_getD, List.getElem?_eq_none h]; rfl
theorem zx_getD (a b : List Int) (n j : Nat) : (zx a b n).getD j 0 = Go.bits .xor .u8 ((a.take n).getD j 0) ((b.take n).getD j 0) := by
  by_cases h : j < n
  · rw [take_getD a n j h, take_getD b n j h]
    unfold zx
    rw [List.getD_eq_getElem?_getD, List.getElem?_map, List.getElem?_range h]; rfl
  · rw [getD_out _ _ (by rw [zx_length]; omega), getD_out (a.take n) j (by rw [List.length_take]; omega), getD_out (b.take n) j (by rw [List.length_take]; omega)]
    decide +kernel
theorem lb_zx (a b : List Int) (n t k : Nat) : lb (zx a b n) t k = Go.bits .xor .u8 (lb (a.take n) t k) (lb (b.take n) t k) := by
  unfold lb
  by_cases h : k ≤ t
  · rw [if_pos h, if_pos h, if_pos h, zx_getD]
  · rw [if_neg h, if_neg h, if_neg h]; decide +kernel
theorem take_isb {a : List Int} (h : ∀ x ∈ a, isb x) (n : Nat) : ∀ x ∈ a.take n, isb x := fun x hx => h x (List.mem_of_mem_take hx)
theorem bit_zx {a b : List Int} (ha : ∀ x ∈ a, isb x) (hb : ∀ x ∈ b, isb x) (n t s : Nat) :
    bitB (lb (zx a b n) t) s 7 = Go.bits .xor .u8 (bitB (lb (a.take n) t) s 7) (bitB (lb (b.take n) t) s 7) := by
  rw [← bitB_xor (lb_isb (take_isb ha n) t) (lb_isb (take_isb hb n) t) s 7]
  exact bitB_congr s 7 fun j _ => lb_zx a b n t j
/-- The newest bit is told by each stream. -/
theorem newest_all : ∀ w : Fin 64, ∀ s : Fin 4, bitB (bw w.val) s.val 7 ≠ bitB (bw (64 + w.val)) s.val 7 := by decide +kernel
theorem bitB_wd {b : Nat → Int} (hb : ∀ j, isb (b j)) (s : Nat) : bitB b s 7 = bitB (bw (wd b).toNat) s 7 := bitB_congr s 7 fun j hj => (bw_wd hb j hj).symm
theorem newest {b c : Nat → Int} (hb : ∀ j, isb (b j)) (hc : ∀ j, isb (c j)) (h : ∀ j, 1 ≤ j → j ≤ 6 → b j = c j) (s : Nat) (hs : s < 4) (e : bitB b s 7 = bitB c s 7) : b 0 = c 0 := by
  have hsd : sd b = sd c := by
    unfold sd
    rw [h 1 (by omega) (by omega), h 2 (by omega) (by omega), h 3 (by omega) (by omega), h 4 (by omega) (by omega), h 5 (by omega) (by omega), h 6 (by omega) (by omega)]
  have i1 := sd_in hb
  rw [bitB_wd hb, bitB_wd hc] at e
  have n1 := newest_all ⟨(sd b).toNat, by omega⟩ ⟨s, hs⟩
  have e1 : wd b = 64 * b 0 + sd b := rfl
  have e2 : wd c = 64 * c 0 + sd b := by rw [hsd]; rfl
  rcases hb 0 with h0 | h0 <;> rcases hc 0 with k0 | k0
  · rw [h0, k0]
  · exfalso
    rw [e1, e2, h0, k0, show (64 * 0 + sd b).toNat = (sd b).toNat from by omega, show (64 * 1 + sd b).toNat = 64 + (sd b).toNat from by omega] at e
    exact n1 e
  · exfalso
    rw [e1, e2, h0, k0, show (64 * 0 + sd b).toNat = (sd b).toNat from by omega, show (64 * 1 + sd b).toNat = 64 + (sd b).toNat from by omega] at e
    exact n1 e.symm
  · rw [h0, k0]
/-- Lists that tell the same in one stream at each step are the same. -/
theorem same_of {a b : List Int} (ha : ∀ x ∈ a, isb x) (hb : ∀ x ∈ b, isb x) (hl : a.length = b.length) (sel : Nat → Nat) (hs : ∀ t, sel t < 4)
    (h : ∀ t, t < a.length → bitB (lb a t) (sel t) 7 = bitB (lb b t) (sel t) 7) : a = b := by
  have key : ∀ m t, t < m → t < a.length → a.getD t 0 = b.getD t 0 := by
    intro m
    induction m with
    | zero => intro t h1; omega
    | succ m ih =>
      intro t h1 h2
      have := newest (lb_isb ha t) (lb_isb hb t) (fun j h3 h4 => by
        unfold lb
        by_cases c : j ≤ t
        · rw [if_pos c, if_pos c]; exact ih (t - j) (by omega) (by omega)
        · rw [if_neg c, if_neg c]) (sel t) (hs t) (h t h2)
      rwa [lb_zero, lb_zero] at this
  refine List.ext_getElem? fun t => ?_
  by_cases c : t < a.length
  · have := key (t + 1) t (by omega) c
    rw [List.getD_eq_getElem?_getD, List.getD_eq_getElem?_getD, List.getElem?_eq_getElem c, List.getElem?_eq_getElem (by omega)] at this
    rw [List.getElem?_eq_getElem c, List.getElem?_eq_getElem (by omega)]
    exact congrArg some this
  · rw [List.getElem?_eq_none (by omega), List.getElem?_eq_none (by omega)]
/-- Behind noughts. -/
theorem lb_late (l : List Int) (n m k : Nat) : lb (List.replicate n 0 ++ l) (n + m) k = lb l m k := by
  unfold lb
  by_cases c : k ≤ m
  · rw [if_pos (by omega), if_pos c, List.getD_eq_getElem?_getD, List.getElem?_append_right (by rw [List.length_replicate]; omega), List.length_replicate, show n + m - k - n = m - k from by omega, ← List.getD_eq_getElem?_getD]
  · rw [if_neg c]
    by_cases c2 : k ≤ n + m
    · rw [if_pos c2, List.getD_eq_getElem?_getD, List.getElem?_append_left (by rw [List.length_replicate]; omega), List.getElem?_replicate, if_pos (by omega)]; rfl
    · rw [if_neg c2]
theorem lb_nought (l : List Int) (n t k : Nat) (h : t < n) : lb (List.replicate n 0 ++ l) t k = 0 := by
  unfold lb
  by_cases c : k ≤ t
  · rw [if_pos c, List.getD_eq_getElem?_getD, List.getElem?_append_left (by rw [List.length_replicate]; omega), List.getElem?_replicate, if_pos (by omega)]; rfl
  · rw [if_neg c]
theorem codeN_nought (l : List Int) (n : Nat) : ∀ m, m ≤ n → codeN (List.replicate n 0 ++ l) m = List.replicate (4 * m) 0
  | 0, _ => rfl
  | m + 1, h => by
    unfold codeN
    rw [codeN_nought l n m (by omega)]
    have e : ∀ s, bitB (lb (List.replicate n 0 ++ l) m) s 7 = 0 := fun s => (bitB_congr s 7 fun j _ => lb_nought l n m j (by omega)).trans (bitB_zero s 7)
    unfold code4
    rw [e, e, e, e, show 4 * (m + 1) = 4 * m + 4 from by omega, ← List.replicate_append_replicate]
    rfl
theorem codeN_late (l : List Int) (n : Nat) : ∀ m, codeN (List.replicate n 0 ++ l) (n + m) = List.replicate (4 * n) 0 ++ codeN l m
  | 0 => by rw [Nat.add_zero, codeN_nought l n n (Nat.le_refl _)]; show _ = _ ++ []; rw [List.append_nil]
  | m + 1 => by
    have e : ∀ s, bitB (lb (List.replicate n 0 ++ l) (n + m)) s 7 = bitB (lb l m) s 7 := fun s => bitB_congr s 7 fun j _ => lb_late l n m j
    have e4 : code4 (List.replicate n 0 ++ l) (n + m) = code4 l m := by unfold code4; rw [e, e, e, e]
    rw [show n + (m + 1) = (n + m) + 1 from rfl, codeN_succ, codeN_late l n m, e4, codeN_succ, List.append_assoc]
theorem code_late (l : List Int) (n : Nat) : code (List.replicate n 0 ++ l) = List.replicate (4 * n) 0 ++ code l := by
  unfold code
  rw [List.length_append, List.length_replicate, Nat.add_assoc, codeN_late]
end Go.Proofs.YtmajbcglpcagoaaDoor.X

-- YtmajbcglpcagoaaDoorXStr
namespace Go.Proofs.YtmajbcglpcagoaaDoor.X
open Go.RowKit Go.Proofs.YtmajbcglpcagoaaDoorW.PrintWords Go.Proofs.YtmajbcglpcagoaaDoorW.PrintLast Go.Proofs.YtmajbcglpcagoaaDoorW.PrintMore

theorem toList_loop (b : ByteArray) (d : Nat) : ∀ (i : Nat) (r : List UInt8), i + d = b.size → ByteArray.toList.loop b i r = r.reverse ++ b.data.toList.drop i := by
  induction d with
  | zero =>
    intro i r hi
    unfold ByteArray.toList.loop
    have hs : b.data.toList.length = b.size := by rw [Array.length_toList]; rfl
    rw [if_neg (by omega), List.drop_eq_nil_of_le (by omega), List.append_nil]
  | succ d ih =>
    intro i r hi
    unfold ByteArray.toList.loop
    have hs : b.data.toList.length = b.size := by rw [Array.length_toList]; rfl
    rw [if_pos (by omega), ih (i + 1) _ (by omega), List.reverse_cons, List.append_assoc, drop_cons b.data.toList i (by omega)]
    congr 1
    show [b.get! i] ++ _ = _
    rw [show b.get! i = b.data.toList[i]'(by omega) from by
      show b.data[i]! = _
      have h : i < b.data.size := by rw [← Array.length_toList]; omega
      rw [getElem!_pos b.data i h]; simp]
    rfl
theorem toList_data (b : ByteArray) : b.toList = b.data.toList := by
  unfold ByteArray.toList
  rw [toList_loop b b.size 0 [] (by omega)]; simp
theorem str_list (l : List Int) : (strOfNums l).toList = l.map fun n => UInt8.ofNat n.toNat := by
  rw [toList_data, strOfNums_data]
theorem str_inj : ∀ {a b : List Int}, (∀ x ∈ a, 0 ≤ x ∧ x ≤ 255) → (∀ x ∈ b, 0 ≤ x ∧ x ≤ 255) → (strOfNums a).toList = (strOfNums b).toList → a = b
  | [], [], _, _, _ => rfl
  | [], _ :: _, _, _, h => by rw [str_list, str_list] at h; cases h
  | _ :: _, [], _, _, h => by rw [str_list, str_list] at h; cases h
  | x :: a, y :: b, ha, hb, h => by
    rw [str_list, str_list] at h
    simp only [List.map_cons, List.cons.injEq] at h
    have h1 := ha x List.mem_cons_self
    have h2 := hb y List.mem_cons_self
    have e : x = y := by
      have := congrArg UInt8.toNat h.1
      rw [UInt8.toNat_ofNat', UInt8.toNat_ofNat'] at this
      omega
    rw [e, str_inj (fun z hz => ha z (List.mem_cons_of_mem _ hz)) (fun z hz => hb z (List.mem_cons_of_mem _ hz)) (by rw [str_list, str_list]; exact h.2)]
theorem str_beq {a b : List Int} (ha : ∀ x ∈ a, 0 ≤ x ∧ x ≤ 255) (hb : ∀ x ∈ b, 0 ≤ x ∧ x ≤ 255) : ((strOfNums a).toList == (strOfNums b).toList) = decide (a = b) := by
  by_cases h : a = b
  · subst h; simp
  · rw [decide_eq_false h]
    exact beq_eq_false_iff_ne.2 fun e => h (str_inj ha hb e)

end Go.Proofs.YtmajbcglpcagoaaDoor.X
