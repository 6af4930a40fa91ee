/- Texts of this seat, one behind the other (merge.py): the walks of the functions that the law TrellisEdges uses, and plain words on what they come to. No condition. -/
import Derived.Test.YtmajbcglpcagoaaDoorXMTrellisEdges0
-- YtmajbcglpcagoaaDoorX14
namespace Go.Proofs.YtmajbcglpcagoaaDoor.X
open Go.RowKit Go.Proofs.YtmajbcglpcagoaaDoorW.PrintWords Go.Proofs.YtmajbcglpcagoaaDoorW.PrintLast Go.Proofs.YtmajbcglpcagoaaDoorW.PrintMore
attribute [local go_sem] max2_int min2_int max_two min_two max_three min_three max_four min_four   -- for this text's walks alone
set_option linter.unusedVariables false
set_option linter.unusedSimpArgs false

attribute [local go_sem high] eqA22
/-! ### shuttlelaw07_leads: function 11 -/
def shuttlelaw07_leads.f  : Option (Bool) := (trellis_Into.f 0).bind fun bt171 => (if bt171.2.2.2.2.2.2.2.2.2.2.2.2.2.2 = 0 then (if bt171.1 = 0 then (if bt171.2.2.2.2.2.2.2.1 = 1 then (if bt171.2.2.2.2.2.2.2.2.1 = 0 then (some (bt171.2.2.2.2.2.2.2.2.2.2.1 == 1 && (bt171.2.2.2.2.2.2.2.2.2.2.2.1 == 1 && (bt171.2.2.2.2.2.2.2.2.2.2.2.2.1 == 1 && (bt171.2.2.2.2.2.2.2.2.2.2.2.2.2.1 == 1))))) else (some false)) else (some false)) else (some false)) else (some false))
set_option maxHeartbeats 8000000 in
set_option maxRecDepth 100000 in
theorem shuttlelaw07_leads.calls  (r : Bool) (w : World) (h : shuttlelaw07_leads.f  = some r) (hT_ : TP w := by first | assumption | exact TP_of (by assumption : TP _) (by repeat (first | (with_reducible first | apply below_alloc | apply pw_below_drewN | apply below_drew1 | refine below_set ?_ (Aside0.out (by assumption))) | exact Aside0.out (by assumption) | exact Below.refl _ _))) :
    Calls Tryd.prog 11 #[] w fun e w' => e = .returned (.bool r) ∧ Below w.heap.size w w' := by
  have hu25 := Tryd.underlying25
  have hu22 := Tryd.underlying22
  have HB := Aside0.mk (Below.refl w.heap.size w)
  have H : ((trellis_Into.f 0).bind fun bt171 => (if bt171.2.2.2.2.2.2.2.2.2.2.2.2.2.2 = 0 then (if bt171.1 = 0 then (if bt171.2.2.2.2.2.2.2.1 = 1 then (if bt171.2.2.2.2.2.2.2.2.1 = 0 then (some (bt171.2.2.2.2.2.2.2.2.2.2.1 == 1 && (bt171.2.2.2.2.2.2.2.2.2.2.2.1 == 1 && (bt171.2.2.2.2.2.2.2.2.2.2.2.2.1 == 1 && (bt171.2.2.2.2.2.2.2.2.2.2.2.2.2.1 == 1))))) else (some false)) else (some false)) else (some false)) else (some false))) = some r := h
  clear h
  replace H := Option.bind_eq_some_iff.mp H
  obtain ⟨⟨t171, t172, t173, t174, t175, t176, t177, t178, t179, t180, t181, t182, t183, t184, t185⟩, A10, H⟩ := H
  replace H : (if t185 = 0 then (if t171 = 0 then (if t178 = 1 then (if t179 = 0 then (some (t181 == 1 && (t182 == 1 && (t183 == 1 && (t184 == 1))))) else (some false)) else (some false)) else (some false)) else (some false)) = some r := H
  have A1 := Aside0.mk A10
  clear A10
  by_cases c2 : t185 = 0
  · rw [if_pos c2] at H
    have c2b0 : (t185 == 0) = true := beq_iff_eq.mpr c2
    have c2b1 : (t185 != 0) = false := bne_eq_false_iff_eq.mpr c2
    clear c2
    by_cases c3 : t171 = 0
    · rw [if_pos c3] at H
      have c3b0 : (t171 == 0) = true := beq_iff_eq.mpr c3
      have c3b1 : (t171 != 0) = false := bne_eq_false_iff_eq.mpr c3
      clear c3
      by_cases c4 : t178 = 1
      · rw [if_pos c4] at H
        have c4b0 : (t178 == 1) = true := beq_iff_eq.mpr c4
        have c4b1 : (t178 != 1) = false := bne_eq_false_iff_eq.mpr c4
        clear c4
        by_cases c5 : t179 = 0
        · rw [if_pos c5] at H
          have c5b0 : (t179 == 0) = true := beq_iff_eq.mpr c5
          have c5b1 : (t179 != 0) = false := bne_eq_false_iff_eq.mpr c5
          clear c5
          obtain rfl := Option.some.inj H
          go_enter Tryd.func11, Tryd.ntmps11
          go_wp2_with (first | ((with_reducible refine gate_callee (f := 10) rfl ?_); refine goesL_ (some 4) rfl rfl Tryd.func10 (by kernel_rfl) rfl #[.int .i64 0] rfl (by (try simp only [List.map_toArray, List.map_cons, List.map_nil]); first | done | rfl | (simp only [List.length_drop, List.length_take]; rfl)) ?_; (with_reducible refine (trellis_Into.calls 0 t171 t172 t173 t174 t175 t176 t177 t178 t179 t180 t181 t182 t183 t184 t185 _ A1.out).mono ?_); rintro e w6 ⟨rfl, hb⟩; refine ⟨_, rfl, ?_⟩; have n0_ := Aside0.mk (below_step (by repeat (first | (with_reducible first | exact HB.out | apply below_alloc | apply pw_below_drewN | apply below_drew1) | exact HB.out)) hb); clear HB; have HB := n0_; clear n0_; (try clear hb); (try clear hb2); (try clear hk); (try clear hi)) | ((with_reducible refine gate_dst (N := 1) rfl ?_); refine box_event ?hg (N := 1) ?hd (cs := #[.int .i64 0, .int .i64 0, .int .u8 0, .int .u8 0, .int .u8 0, .int .u8 0, .int .u8 0, .int .i64 0, .int .i64 0, .int .u8 0, .int .u8 0, .int .u8 0, .int .u8 0, .int .u8 0]) (t := 25) ?hr ?_; (case hd => rfl); (case hg => rfl); (case hr => first | (go_simp; done) | (go_simp; rfl)); intro gb186 hg w7 hbox hb; have n0_ := Aside0.mk (below_step (by repeat (first | (with_reducible first | exact HB.out | apply below_alloc | apply pw_below_drewN | apply below_drew1) | exact HB.out)) hb); have n1_ := Aside0.mk (hbox); have n2_ := Aside0.mk ((by rw [hg]; exact (below_size (by repeat (first | (with_reducible first | exact HB.out | apply below_alloc | apply pw_below_drewN | apply below_drew1) | exact HB.out))) : w.heap.size ≤ gb186)); have n3_ := Aside0.mk ((by rw [hg]; exact (below_size (by repeat (first | (with_reducible first | exact HB.out | apply below_alloc | apply pw_below_drewN | apply below_drew1) | exact HB.out))) : w.heap.size ≤ gb186)); clear HB; have HB := n0_; have BK186 := n1_; have GW186 := n2_; have GE186 := n3_; clear n0_ n1_ n2_ n3_; clear hb hbox hg; have hcz8_0 : w7.cell? ⟨gb186, 0, none⟩ = some (.int .i64 0) := (blk_cell BK186.out 0).trans rfl; have hcz8_1 : w7.cell? ⟨gb186, 1, none⟩ = some (.int .i64 0) := (blk_cell BK186.out 1).trans rfl; have hcz8_2 : w7.cell? ⟨gb186, 2, none⟩ = some (.int .u8 0) := (blk_cell BK186.out 2).trans rfl; have hcz8_3 : w7.cell? ⟨gb186, 3, none⟩ = some (.int .u8 0) := (blk_cell BK186.out 3).trans rfl; have hcz8_4 : w7.cell? ⟨gb186, 4, none⟩ = some (.int .u8 0) := (blk_cell BK186.out 4).trans rfl; have hcz8_5 : w7.cell? ⟨gb186, 5, none⟩ = some (.int .u8 0) := (blk_cell BK186.out 5).trans rfl; have hcz8_6 : w7.cell? ⟨gb186, 6, none⟩ = some (.int .u8 0) := (blk_cell BK186.out 6).trans rfl; have hcz8_7 : w7.cell? ⟨gb186, 7, none⟩ = some (.int .i64 0) := (blk_cell BK186.out 7).trans rfl; have hcz8_8 : w7.cell? ⟨gb186, 8, none⟩ = some (.int .i64 0) := (blk_cell BK186.out 8).trans rfl; have hcz8_9 : w7.cell? ⟨gb186, 9, none⟩ = some (.int .u8 0) := (blk_cell BK186.out 9).trans rfl; have hcz8_10 : w7.cell? ⟨gb186, 10, none⟩ = some (.int .u8 0) := (blk_cell BK186.out 10).trans rfl; have hcz8_11 : w7.cell? ⟨gb186, 11, none⟩ = some (.int .u8 0) := (blk_cell BK186.out 11).trans rfl; have hcz8_12 : w7.cell? ⟨gb186, 12, none⟩ = some (.int .u8 0) := (blk_cell BK186.out 12).trans rfl; have hcz8_13 : w7.cell? ⟨gb186, 13, none⟩ = some (.int .u8 0) := (blk_cell BK186.out 13).trans rfl; have hfz8_0 := blk_frozen BK186.out 0; have hfz8_1 := blk_frozen BK186.out 1; have hfz8_2 := blk_frozen BK186.out 2; have hfz8_3 := blk_frozen BK186.out 3; have hfz8_4 := blk_frozen BK186.out 4; have hfz8_5 := blk_frozen BK186.out 5; have hfz8_6 := blk_frozen BK186.out 6; have hfz8_7 := blk_frozen BK186.out 7; have hfz8_8 := blk_frozen BK186.out 8; have hfz8_9 := blk_frozen BK186.out 9; have hfz8_10 := blk_frozen BK186.out 10; have hfz8_11 := blk_frozen BK186.out 11; have hfz8_12 := blk_frozen BK186.out 12; have hfz8_13 := blk_frozen BK186.out 13))
          go_ret
          exact ⟨by first | rfl | (simp [errW_none, errW_some] <;> rfl) | (simp [*, errW_none, errW_some] <;> rfl), by repeat (first | (with_reducible first | exact HB.out | apply below_alloc | apply pw_below_drewN | apply below_drew1 | refine below_set ?_ GE186.out) | exact HB.out)⟩
        · rw [if_neg c5] at H
          have c5b0 : (t179 == 0) = false := beq_eq_false_iff_ne.mpr c5
          have c5b1 : (t179 != 0) = true := bne_iff_ne.mpr c5
          obtain rfl := Option.some.inj H
          go_enter Tryd.func11, Tryd.ntmps11
          go_wp2_with (first | ((with_reducible refine gate_callee (f := 10) rfl ?_); refine goesL_ (some 4) rfl rfl Tryd.func10 (by kernel_rfl) rfl #[.int .i64 0] rfl (by (try simp only [List.map_toArray, List.map_cons, List.map_nil]); first | done | rfl | (simp only [List.length_drop, List.length_take]; rfl)) ?_; (with_reducible refine (trellis_Into.calls 0 t171 t172 t173 t174 t175 t176 t177 t178 t179 t180 t181 t182 t183 t184 t185 _ A1.out).mono ?_); rintro e w9 ⟨rfl, hb⟩; refine ⟨_, rfl, ?_⟩; have n0_ := Aside0.mk (below_step (by repeat (first | (with_reducible first | exact HB.out | apply below_alloc | apply pw_below_drewN | apply below_drew1) | exact HB.out)) hb); clear HB; have HB := n0_; clear n0_; (try clear hb); (try clear hb2); (try clear hk); (try clear hi)) | ((with_reducible refine gate_dst (N := 1) rfl ?_); refine box_event ?hg (N := 1) ?hd (cs := #[.int .i64 0, .int .i64 0, .int .u8 0, .int .u8 0, .int .u8 0, .int .u8 0, .int .u8 0, .int .i64 0, .int .i64 0, .int .u8 0, .int .u8 0, .int .u8 0, .int .u8 0, .int .u8 0]) (t := 25) ?hr ?_; (case hd => rfl); (case hg => rfl); (case hr => first | (go_simp; done) | (go_simp; rfl)); intro gb186 hg w10 hbox hb; have n0_ := Aside0.mk (below_step (by repeat (first | (with_reducible first | exact HB.out | apply below_alloc | apply pw_below_drewN | apply below_drew1) | exact HB.out)) hb); have n1_ := Aside0.mk (hbox); have n2_ := Aside0.mk ((by rw [hg]; exact (below_size (by repeat (first | (with_reducible first | exact HB.out | apply below_alloc | apply pw_below_drewN | apply below_drew1) | exact HB.out))) : w.heap.size ≤ gb186)); have n3_ := Aside0.mk ((by rw [hg]; exact (below_size (by repeat (first | (with_reducible first | exact HB.out | apply below_alloc | apply pw_below_drewN | apply below_drew1) | exact HB.out))) : w.heap.size ≤ gb186)); clear HB; have HB := n0_; have BK186 := n1_; have GW186 := n2_; have GE186 := n3_; clear n0_ n1_ n2_ n3_; clear hb hbox hg; have hcz11_0 : w10.cell? ⟨gb186, 0, none⟩ = some (.int .i64 0) := (blk_cell BK186.out 0).trans rfl; have hcz11_1 : w10.cell? ⟨gb186, 1, none⟩ = some (.int .i64 0) := (blk_cell BK186.out 1).trans rfl; have hcz11_2 : w10.cell? ⟨gb186, 2, none⟩ = some (.int .u8 0) := (blk_cell BK186.out 2).trans rfl; have hcz11_3 : w10.cell? ⟨gb186, 3, none⟩ = some (.int .u8 0) := (blk_cell BK186.out 3).trans rfl; have hcz11_4 : w10.cell? ⟨gb186, 4, none⟩ = some (.int .u8 0) := (blk_cell BK186.out 4).trans rfl; have hcz11_5 : w10.cell? ⟨gb186, 5, none⟩ = some (.int .u8 0) := (blk_cell BK186.out 5).trans rfl; have hcz11_6 : w10.cell? ⟨gb186, 6, none⟩ = some (.int .u8 0) := (blk_cell BK186.out 6).trans rfl; have hcz11_7 : w10.cell? ⟨gb186, 7, none⟩ = some (.int .i64 0) := (blk_cell BK186.out 7).trans rfl; have hcz11_8 : w10.cell? ⟨gb186, 8, none⟩ = some (.int .i64 0) := (blk_cell BK186.out 8).trans rfl; have hcz11_9 : w10.cell? ⟨gb186, 9, none⟩ = some (.int .u8 0) := (blk_cell BK186.out 9).trans rfl; have hcz11_10 : w10.cell? ⟨gb186, 10, none⟩ = some (.int .u8 0) := (blk_cell BK186.out 10).trans rfl; have hcz11_11 : w10.cell? ⟨gb186, 11, none⟩ = some (.int .u8 0) := (blk_cell BK186.out 11).trans rfl; have hcz11_12 : w10.cell? ⟨gb186, 12, none⟩ = some (.int .u8 0) := (blk_cell BK186.out 12).trans rfl; have hcz11_13 : w10.cell? ⟨gb186, 13, none⟩ = some (.int .u8 0) := (blk_cell BK186.out 13).trans rfl; have hfz11_0 := blk_frozen BK186.out 0; have hfz11_1 := blk_frozen BK186.out 1; have hfz11_2 := blk_frozen BK186.out 2; have hfz11_3 := blk_frozen BK186.out 3; have hfz11_4 := blk_frozen BK186.out 4; have hfz11_5 := blk_frozen BK186.out 5; have hfz11_6 := blk_frozen BK186.out 6; have hfz11_7 := blk_frozen BK186.out 7; have hfz11_8 := blk_frozen BK186.out 8; have hfz11_9 := blk_frozen BK186.out 9; have hfz11_10 := blk_frozen BK186.out 10; have hfz11_11 := blk_frozen BK186.out 11; have hfz11_12 := blk_frozen BK186.out 12; have hfz11_13 := blk_frozen BK186.out 13))
          go_ret
          exact ⟨by first | rfl | (simp [errW_none, errW_some] <;> rfl) | (simp [*, errW_none, errW_some] <;> rfl), by repeat (first | (with_reducible first | exact HB.out | apply below_alloc | apply pw_below_drewN | apply below_drew1 | refine below_set ?_ GE186.out) | exact HB.out)⟩
      · rw [if_neg c4] at H
        have c4b0 : (t178 == 1) = false := beq_eq_false_iff_ne.mpr c4
        have c4b1 : (t178 != 1) = true := bne_iff_ne.mpr c4
        obtain rfl := Option.some.inj H
        go_enter Tryd.func11, Tryd.ntmps11
        go_wp2_with (first | ((with_reducible refine gate_callee (f := 10) rfl ?_); refine goesL_ (some 4) rfl rfl Tryd.func10 (by kernel_rfl) rfl #[.int .i64 0] rfl (by (try simp only [List.map_toArray, List.map_cons, List.map_nil]); first | done | rfl | (simp only [List.length_drop, List.length_take]; rfl)) ?_; (with_reducible refine (trellis_Into.calls 0 t171 t172 t173 t174 t175 t176 t177 t178 t179 t180 t181 t182 t183 t184 t185 _ A1.out).mono ?_); rintro e w12 ⟨rfl, hb⟩; refine ⟨_, rfl, ?_⟩; have n0_ := Aside0.mk (below_step (by repeat (first | (with_reducible first | exact HB.out | apply below_alloc | apply pw_below_drewN | apply below_drew1) | exact HB.out)) hb); clear HB; have HB := n0_; clear n0_; (try clear hb); (try clear hb2); (try clear hk); (try clear hi)) | ((with_reducible refine gate_dst (N := 1) rfl ?_); refine box_event ?hg (N := 1) ?hd (cs := #[.int .i64 0, .int .i64 0, .int .u8 0, .int .u8 0, .int .u8 0, .int .u8 0, .int .u8 0, .int .i64 0, .int .i64 0, .int .u8 0, .int .u8 0, .int .u8 0, .int .u8 0, .int .u8 0]) (t := 25) ?hr ?_; (case hd => rfl); (case hg => rfl); (case hr => first | (go_simp; done) | (go_simp; rfl)); intro gb186 hg w13 hbox hb; have n0_ := Aside0.mk (below_step (by repeat (first | (with_reducible first | exact HB.out | apply below_alloc | apply pw_below_drewN | apply below_drew1) | exact HB.out)) hb); have n1_ := Aside0.mk (hbox); have n2_ := Aside0.mk ((by rw [hg]; exact (below_size (by repeat (first | (with_reducible first | exact HB.out | apply below_alloc | apply pw_below_drewN | apply below_drew1) | exact HB.out))) : w.heap.size ≤ gb186)); have n3_ := Aside0.mk ((by rw [hg]; exact (below_size (by repeat (first | (with_reducible first | exact HB.out | apply below_alloc | apply pw_below_drewN | apply below_drew1) | exact HB.out))) : w.heap.size ≤ gb186)); clear HB; have HB := n0_; have BK186 := n1_; have GW186 := n2_; have GE186 := n3_; clear n0_ n1_ n2_ n3_; clear hb hbox hg; have hcz14_0 : w13.cell? ⟨gb186, 0, none⟩ = some (.int .i64 0) := (blk_cell BK186.out 0).trans rfl; have hcz14_1 : w13.cell? ⟨gb186, 1, none⟩ = some (.int .i64 0) := (blk_cell BK186.out 1).trans rfl; have hcz14_2 : w13.cell? ⟨gb186, 2, none⟩ = some (.int .u8 0) := (blk_cell BK186.out 2).trans rfl; have hcz14_3 : w13.cell? ⟨gb186, 3, none⟩ = some (.int .u8 0) := (blk_cell BK186.out 3).trans rfl; have hcz14_4 : w13.cell? ⟨gb186, 4, none⟩ = some (.int .u8 0) := (blk_cell BK186.out 4).trans rfl; have hcz14_5 : w13.cell? ⟨gb186, 5, none⟩ = some (.int .u8 0) := (blk_cell BK186.out 5).trans rfl; have hcz14_6 : w13.cell? ⟨gb186, 6, none⟩ = some (.int .u8 0) := (blk_cell BK186.out 6).trans rfl; have hcz14_7 : w13.cell? ⟨gb186, 7, none⟩ = some (.int .i64 0) := (blk_cell BK186.out 7).trans rfl; have hcz14_8 : w13.cell? ⟨gb186, 8, none⟩ = some (.int .i64 0) := (blk_cell BK186.out 8).trans rfl; have hcz14_9 : w13.cell? ⟨gb186, 9, none⟩ = some (.int .u8 0) := (blk_cell BK186.out 9).trans rfl; have hcz14_10 : w13.cell? ⟨gb186, 10, none⟩ = some (.int .u8 0) := (blk_cell BK186.out 10).trans rfl; have hcz14_11 : w13.cell? ⟨gb186, 11, none⟩ = some (.int .u8 0) := (blk_cell BK186.out 11).trans rfl; have hcz14_12 : w13.cell? ⟨gb186, 12, none⟩ = some (.int .u8 0) := (blk_cell BK186.out 12).trans rfl; have hcz14_13 : w13.cell? ⟨gb186, 13, none⟩ = some (.int .u8 0) := (blk_cell BK186.out 13).trans rfl; have hfz14_0 := blk_frozen BK186.out 0; have hfz14_1 := blk_frozen BK186.out 1; have hfz14_2 := blk_frozen BK186.out 2; have hfz14_3 := blk_frozen BK186.out 3; have hfz14_4 := blk_frozen BK186.out 4; have hfz14_5 := blk_frozen BK186.out 5; have hfz14_6 := blk_frozen BK186.out 6; have hfz14_7 := blk_frozen BK186.out 7; have hfz14_8 := blk_frozen BK186.out 8; have hfz14_9 := blk_frozen BK186.out 9; have hfz14_10 := blk_frozen BK186.out 10; have hfz14_11 := blk_frozen BK186.out 11; have hfz14_12 := blk_frozen BK186.out 12; have hfz14_13 := blk_frozen BK186.out 13))
        go_ret
        exact ⟨by first | rfl | (simp [errW_none, errW_some] <;> rfl) | (simp [*, errW_none, errW_some] <;> rfl), by repeat (first | (with_reducible first | exact HB.out | apply below_alloc | apply pw_below_drewN | apply below_drew1 | refine below_set ?_ GE186.out) | exact HB.out)⟩
    · rw [if_neg c3] at H
      have c3b0 : (t171 == 0) = false := beq_eq_false_iff_ne.mpr c3
      have c3b1 : (t171 != 0) = true := bne_iff_ne.mpr c3
      obtain rfl := Option.some.inj H
      go_enter Tryd.func11, Tryd.ntmps11
      go_wp2_with (first | ((with_reducible refine gate_callee (f := 10) rfl ?_); refine goesL_ (some 4) rfl rfl Tryd.func10 (by kernel_rfl) rfl #[.int .i64 0] rfl (by (try simp only [List.map_toArray, List.map_cons, List.map_nil]); first | done | rfl | (simp only [List.length_drop, List.length_take]; rfl)) ?_; (with_reducible refine (trellis_Into.calls 0 t171 t172 t173 t174 t175 t176 t177 t178 t179 t180 t181 t182 t183 t184 t185 _ A1.out).mono ?_); rintro e w15 ⟨rfl, hb⟩; refine ⟨_, rfl, ?_⟩; have n0_ := Aside0.mk (below_step (by repeat (first | (with_reducible first | exact HB.out | apply below_alloc | apply pw_below_drewN | apply below_drew1) | exact HB.out)) hb); clear HB; have HB := n0_; clear n0_; (try clear hb); (try clear hb2); (try clear hk); (try clear hi)) | ((with_reducible refine gate_dst (N := 1) rfl ?_); refine box_event ?hg (N := 1) ?hd (cs := #[.int .i64 0, .int .i64 0, .int .u8 0, .int .u8 0, .int .u8 0, .int .u8 0, .int .u8 0, .int .i64 0, .int .i64 0, .int .u8 0, .int .u8 0, .int .u8 0, .int .u8 0, .int .u8 0]) (t := 25) ?hr ?_; (case hd => rfl); (case hg => rfl); (case hr => first | (go_simp; done) | (go_simp; rfl)); intro gb186 hg w16 hbox hb; have n0_ := Aside0.mk (below_step (by repeat (first | (with_reducible first | exact HB.out | apply below_alloc | apply pw_below_drewN | apply below_drew1) | exact HB.out)) hb); have n1_ := Aside0.mk (hbox); have n2_ := Aside0.mk ((by rw [hg]; exact (below_size (by repeat (first | (with_reducible first | exact HB.out | apply below_alloc | apply pw_below_drewN | apply below_drew1) | exact HB.out))) : w.heap.size ≤ gb186)); have n3_ := Aside0.mk ((by rw [hg]; exact (below_size (by repeat (first | (with_reducible first | exact HB.out | apply below_alloc | apply pw_below_drewN | apply below_drew1) | exact HB.out))) : w.heap.size ≤ gb186)); clear HB; have HB := n0_; have BK186 := n1_; have GW186 := n2_; have GE186 := n3_; clear n0_ n1_ n2_ n3_; clear hb hbox hg; have hcz17_0 : w16.cell? ⟨gb186, 0, none⟩ = some (.int .i64 0) := (blk_cell BK186.out 0).trans rfl; have hcz17_1 : w16.cell? ⟨gb186, 1, none⟩ = some (.int .i64 0) := (blk_cell BK186.out 1).trans rfl; have hcz17_2 : w16.cell? ⟨gb186, 2, none⟩ = some (.int .u8 0) := (blk_cell BK186.out 2).trans rfl; have hcz17_3 : w16.cell? ⟨gb186, 3, none⟩ = some (.int .u8 0) := (blk_cell BK186.out 3).trans rfl; have hcz17_4 : w16.cell? ⟨gb186, 4, none⟩ = some (.int .u8 0) := (blk_cell BK186.out 4).trans rfl; have hcz17_5 : w16.cell? ⟨gb186, 5, none⟩ = some (.int .u8 0) := (blk_cell BK186.out 5).trans rfl; have hcz17_6 : w16.cell? ⟨gb186, 6, none⟩ = some (.int .u8 0) := (blk_cell BK186.out 6).trans rfl; have hcz17_7 : w16.cell? ⟨gb186, 7, none⟩ = some (.int .i64 0) := (blk_cell BK186.out 7).trans rfl; have hcz17_8 : w16.cell? ⟨gb186, 8, none⟩ = some (.int .i64 0) := (blk_cell BK186.out 8).trans rfl; have hcz17_9 : w16.cell? ⟨gb186, 9, none⟩ = some (.int .u8 0) := (blk_cell BK186.out 9).trans rfl; have hcz17_10 : w16.cell? ⟨gb186, 10, none⟩ = some (.int .u8 0) := (blk_cell BK186.out 10).trans rfl; have hcz17_11 : w16.cell? ⟨gb186, 11, none⟩ = some (.int .u8 0) := (blk_cell BK186.out 11).trans rfl; have hcz17_12 : w16.cell? ⟨gb186, 12, none⟩ = some (.int .u8 0) := (blk_cell BK186.out 12).trans rfl; have hcz17_13 : w16.cell? ⟨gb186, 13, none⟩ = some (.int .u8 0) := (blk_cell BK186.out 13).trans rfl; have hfz17_0 := blk_frozen BK186.out 0; have hfz17_1 := blk_frozen BK186.out 1; have hfz17_2 := blk_frozen BK186.out 2; have hfz17_3 := blk_frozen BK186.out 3; have hfz17_4 := blk_frozen BK186.out 4; have hfz17_5 := blk_frozen BK186.out 5; have hfz17_6 := blk_frozen BK186.out 6; have hfz17_7 := blk_frozen BK186.out 7; have hfz17_8 := blk_frozen BK186.out 8; have hfz17_9 := blk_frozen BK186.out 9; have hfz17_10 := blk_frozen BK186.out 10; have hfz17_11 := blk_frozen BK186.out 11; have hfz17_12 := blk_frozen BK186.out 12; have hfz17_13 := blk_frozen BK186.out 13))
      go_ret
      exact ⟨by first | rfl | (simp [errW_none, errW_some] <;> rfl) | (simp [*, errW_none, errW_some] <;> rfl), by repeat (first | (with_reducible first | exact HB.out | apply below_alloc | apply pw_below_drewN | apply below_drew1 | refine below_set ?_ GE186.out) | exact HB.out)⟩
  · rw [if_neg c2] at H
    have c2b0 : (t185 == 0) = false := beq_eq_false_iff_ne.mpr c2
    have c2b1 : (t185 != 0) = true := bne_iff_ne.mpr c2
    obtain rfl := Option.some.inj H
    go_enter Tryd.func11, Tryd.ntmps11
    go_wp2_with (first | ((with_reducible refine gate_callee (f := 10) rfl ?_); refine goesL_ (some 4) rfl rfl Tryd.func10 (by kernel_rfl) rfl #[.int .i64 0] rfl (by (try simp only [List.map_toArray, List.map_cons, List.map_nil]); first | done | rfl | (simp only [List.length_drop, List.length_take]; rfl)) ?_; (with_reducible refine (trellis_Into.calls 0 t171 t172 t173 t174 t175 t176 t177 t178 t179 t180 t181 t182 t183 t184 t185 _ A1.out).mono ?_); rintro e w18 ⟨rfl, hb⟩; refine ⟨_, rfl, ?_⟩; have n0_ := Aside0.mk (below_step (by repeat (first | (with_reducible first | exact HB.out | apply below_alloc | apply pw_below_drewN | apply below_drew1) | exact HB.out)) hb); clear HB; have HB := n0_; clear n0_; (try clear hb); (try clear hb2); (try clear hk); (try clear hi)) | ((with_reducible refine gate_dst (N := 1) rfl ?_); refine box_event ?hg (N := 1) ?hd (cs := #[.int .i64 0, .int .i64 0, .int .u8 0, .int .u8 0, .int .u8 0, .int .u8 0, .int .u8 0, .int .i64 0, .int .i64 0, .int .u8 0, .int .u8 0, .int .u8 0, .int .u8 0, .int .u8 0]) (t := 25) ?hr ?_; (case hd => rfl); (case hg => rfl); (case hr => first | (go_simp; done) | (go_simp; rfl)); intro gb186 hg w19 hbox hb; have n0_ := Aside0.mk (below_step (by repeat (first | (with_reducible first | exact HB.out | apply below_alloc | apply pw_below_drewN | apply below_drew1) | exact HB.out)) hb); have n1_ := Aside0.mk (hbox); have n2_ := Aside0.mk ((by rw [hg]; exact (below_size (by repeat (first | (with_reducible first | exact HB.out | apply below_alloc | apply pw_below_drewN | apply below_drew1) | exact HB.out))) : w.heap.size ≤ gb186)); have n3_ := Aside0.mk ((by rw [hg]; exact (below_size (by repeat (first | (with_reducible first | exact HB.out | apply below_alloc | apply pw_below_drewN | apply below_drew1) | exact HB.out))) : w.heap.size ≤ gb186)); clear HB; have HB := n0_; have BK186 := n1_; have GW186 := n2_; have GE186 := n3_; clear n0_ n1_ n2_ n3_; clear hb hbox hg; have hcz20_0 : w19.cell? ⟨gb186, 0, none⟩ = some (.int .i64 0) := (blk_cell BK186.out 0).trans rfl; have hcz20_1 : w19.cell? ⟨gb186, 1, none⟩ = some (.int .i64 0) := (blk_cell BK186.out 1).trans rfl; have hcz20_2 : w19.cell? ⟨gb186, 2, none⟩ = some (.int .u8 0) := (blk_cell BK186.out 2).trans rfl; have hcz20_3 : w19.cell? ⟨gb186, 3, none⟩ = some (.int .u8 0) := (blk_cell BK186.out 3).trans rfl; have hcz20_4 : w19.cell? ⟨gb186, 4, none⟩ = some (.int .u8 0) := (blk_cell BK186.out 4).trans rfl; have hcz20_5 : w19.cell? ⟨gb186, 5, none⟩ = some (.int .u8 0) := (blk_cell BK186.out 5).trans rfl; have hcz20_6 : w19.cell? ⟨gb186, 6, none⟩ = some (.int .u8 0) := (blk_cell BK186.out 6).trans rfl; have hcz20_7 : w19.cell? ⟨gb186, 7, none⟩ = some (.int .i64 0) := (blk_cell BK186.out 7).trans rfl; have hcz20_8 : w19.cell? ⟨gb186, 8, none⟩ = some (.int .i64 0) := (blk_cell BK186.out 8).trans rfl; have hcz20_9 : w19.cell? ⟨gb186, 9, none⟩ = some (.int .u8 0) := (blk_cell BK186.out 9).trans rfl; have hcz20_10 : w19.cell? ⟨gb186, 10, none⟩ = some (.int .u8 0) := (blk_cell BK186.out 10).trans rfl; have hcz20_11 : w19.cell? ⟨gb186, 11, none⟩ = some (.int .u8 0) := (blk_cell BK186.out 11).trans rfl; have hcz20_12 : w19.cell? ⟨gb186, 12, none⟩ = some (.int .u8 0) := (blk_cell BK186.out 12).trans rfl; have hcz20_13 : w19.cell? ⟨gb186, 13, none⟩ = some (.int .u8 0) := (blk_cell BK186.out 13).trans rfl; have hfz20_0 := blk_frozen BK186.out 0; have hfz20_1 := blk_frozen BK186.out 1; have hfz20_2 := blk_frozen BK186.out 2; have hfz20_3 := blk_frozen BK186.out 3; have hfz20_4 := blk_frozen BK186.out 4; have hfz20_5 := blk_frozen BK186.out 5; have hfz20_6 := blk_frozen BK186.out 6; have hfz20_7 := blk_frozen BK186.out 7; have hfz20_8 := blk_frozen BK186.out 8; have hfz20_9 := blk_frozen BK186.out 9; have hfz20_10 := blk_frozen BK186.out 10; have hfz20_11 := blk_frozen BK186.out 11; have hfz20_12 := blk_frozen BK186.out 12; have hfz20_13 := blk_frozen BK186.out 13))
    go_ret
    exact ⟨by first | rfl | (simp [errW_none, errW_some] <;> rfl) | (simp [*, errW_none, errW_some] <;> rfl), by repeat (first | (with_reducible first | exact HB.out | apply below_alloc | apply pw_below_drewN | apply below_drew1 | refine below_set ?_ GE186.out) | exact HB.out)⟩

end Go.Proofs.YtmajbcglpcagoaaDoor.X

-- YtmajbcglpcagoaaDoorX15
namespace Go.Proofs.YtmajbcglpcagoaaDoor.X
open Go.RowKit Go.Proofs.YtmajbcglpcagoaaDoorW.PrintWords Go.Proofs.YtmajbcglpcagoaaDoorW.PrintLast Go.Proofs.YtmajbcglpcagoaaDoorW.PrintMore
attribute [local go_sem] max2_int min2_int max_two min_two max_three min_three max_four min_four   -- for this text's walks alone
set_option linter.unusedVariables false
set_option linter.unusedSimpArgs false

attribute [local go_sem high] eqA22
/-! ### shuttlelaw07_same: function 12 -/
def shuttlelaw07_same.f (a0_0 : Int) (a0_1 : Int) (a0_2 : Int) (a0_3 : Int) (a0_4 : Int) (a0_5 : Int) (a0_6 : Int) (a1_0 : Int) (a1_1 : Int) (a1_2 : Int) (a1_3 : Int) (a1_4 : Int) (a1_5 : Int) (a1_6 : Int) : Option (Bool) := if a0_0 = a1_0 then (if a0_1 = a1_1 then (if a0_2 = a1_2 then (some (a0_3 == a1_3 && (a0_4 == a1_4 && (a0_5 == a1_5 && (a0_6 == a1_6))))) else (some false)) else (some false)) else (some false)
set_option maxHeartbeats 8000000 in
set_option maxRecDepth 100000 in
theorem shuttlelaw07_same.calls (a0_0 : Int) (a0_1 : Int) (a0_2 : Int) (a0_3 : Int) (a0_4 : Int) (a0_5 : Int) (a0_6 : Int) (a1_0 : Int) (a1_1 : Int) (a1_2 : Int) (a1_3 : Int) (a1_4 : Int) (a1_5 : Int) (a1_6 : Int) (r : Bool) (w : World) (h : shuttlelaw07_same.f a0_0 a0_1 a0_2 a0_3 a0_4 a0_5 a0_6 a1_0 a1_1 a1_2 a1_3 a1_4 a1_5 a1_6 = some r) :
    Calls Tryd.prog 12 #[.agg #[.int .i64 a0_0, .int .i64 a0_1, .int .u8 a0_2, .int .u8 a0_3, .int .u8 a0_4, .int .u8 a0_5, .int .u8 a0_6], .agg #[.int .i64 a1_0, .int .i64 a1_1, .int .u8 a1_2, .int .u8 a1_3, .int .u8 a1_4, .int .u8 a1_5, .int .u8 a1_6]] w fun e w' => e = .returned (.bool r) ∧ Below w.heap.size w w' := by
  have hu24 := Tryd.underlying24
  have hu31 := Tryd.underlying31
  have hu22 := Tryd.underlying22
  have HB := Aside0.mk (Below.refl w.heap.size w)
  have H : (if a0_0 = a1_0 then (if a0_1 = a1_1 then (if a0_2 = a1_2 then (some (a0_3 == a1_3 && (a0_4 == a1_4 && (a0_5 == a1_5 && (a0_6 == a1_6))))) else (some false)) else (some false)) else (some false)) = some r := h
  clear h
  by_cases c3 : a0_0 = a1_0
  · rw [if_pos c3] at H
    have c3b0 : (a0_0 == a1_0) = true := beq_iff_eq.mpr c3
    have c3b1 : (a0_0 != a1_0) = false := bne_eq_false_iff_eq.mpr c3
    clear c3
    by_cases c4 : a0_1 = a1_1
    · rw [if_pos c4] at H
      have c4b0 : (a0_1 == a1_1) = true := beq_iff_eq.mpr c4
      have c4b1 : (a0_1 != a1_1) = false := bne_eq_false_iff_eq.mpr c4
      clear c4
      by_cases c5 : a0_2 = a1_2
      · rw [if_pos c5] at H
        have c5b0 : (a0_2 == a1_2) = true := beq_iff_eq.mpr c5
        have c5b1 : (a0_2 != a1_2) = false := bne_eq_false_iff_eq.mpr c5
        clear c5
        obtain rfl := Option.some.inj H
        go_enter Tryd.func12, Tryd.ntmps12
        go_wp2_with (first | ((with_reducible refine gate_dst (N := 2) rfl ?_); refine box_event ?hg (N := 2) ?hd (cs := #[.int .i64 a0_0, .int .i64 a0_1, .int .u8 a0_2, .int .u8 a0_3, .int .u8 a0_4, .int .u8 a0_5, .int .u8 a0_6]) (t := 24) ?hr ?_; (case hd => rfl); (case hg => rfl); (case hr => first | (go_simp; done) | (go_simp; rfl)); intro gb187 hg w6 hbox hb; have n0_ := Aside0.mk (below_step (by repeat (first | (with_reducible first | exact HB.out | apply below_alloc | apply pw_below_drewN | apply below_drew1) | exact HB.out)) hb); have n1_ := Aside0.mk (hbox); have n2_ := Aside0.mk ((by rw [hg]; exact (below_size (by repeat (first | (with_reducible first | exact HB.out | apply below_alloc | apply pw_below_drewN | apply below_drew1) | exact HB.out))) : w.heap.size ≤ gb187)); have n3_ := Aside0.mk ((by rw [hg]; exact (below_size (by repeat (first | (with_reducible first | exact HB.out | apply below_alloc | apply pw_below_drewN | apply below_drew1) | exact HB.out))) : w.heap.size ≤ gb187)); clear HB; have HB := n0_; have BK187 := n1_; have GW187 := n2_; have GE187 := n3_; clear n0_ n1_ n2_ n3_; clear hb hbox hg) | ((with_reducible refine gate_dst (N := 3) rfl ?_); refine box_event ?hg (N := 3) ?hd (cs := #[.int .i64 a1_0, .int .i64 a1_1, .int .u8 a1_2, .int .u8 a1_3, .int .u8 a1_4, .int .u8 a1_5, .int .u8 a1_6]) (t := 31) ?hr ?_; (case hd => rfl); (case hg => rfl); (case hr => first | (go_simp; done) | (go_simp; rfl)); intro gb188 hg w7 hbox hb; have n0_ := Aside0.mk (blk_below (g := gb187) (o := .cells #[.int .i64 a0_0, .int .i64 a0_1, .int .u8 a0_2, .int .u8 a0_3, .int .u8 a0_4, .int .u8 a0_5, .int .u8 a0_6] 24 (0, 0)) (by (with_reducible repeat (first | refine blk_drewN ?_ _ | refine blk_drew ?_ | refine blk_alloc ?_ _)); exact BK187.out) hb); have n1_ := Aside0.mk (below_step (by repeat (first | (with_reducible first | exact HB.out | apply below_alloc | apply pw_below_drewN | apply below_drew1 | refine below_set ?_ GE187.out) | exact HB.out)) hb); have n2_ := Aside0.mk (hbox); have n3_ := Aside0.mk ((by rw [hg]; exact (below_size (by repeat (first | (with_reducible first | exact HB.out | apply below_alloc | apply pw_below_drewN | apply below_drew1 | refine below_set ?_ GE187.out) | exact HB.out))) : w.heap.size ≤ gb188)); have n4_ := Aside0.mk ((by rw [hg]; exact (below_size (by repeat (first | (with_reducible first | exact HB.out | apply below_alloc | apply pw_below_drewN | apply below_drew1 | refine below_set ?_ GE187.out) | exact HB.out))) : w.heap.size ≤ gb188)); have n5_ := Aside0.mk ((by rw [hg]; exact Nat.ne_of_lt (blk_lt (g := gb187) (o := .cells #[.int .i64 a0_0, .int .i64 a0_1, .int .u8 a0_2, .int .u8 a0_3, .int .u8 a0_4, .int .u8 a0_5, .int .u8 a0_6] 24 (0, 0)) (by (with_reducible repeat (first | refine blk_drewN ?_ _ | refine blk_drew ?_ | refine blk_alloc ?_ _)); exact BK187.out)) : gb187 ≠ gb188)); have n6_ := Aside0.mk ((by rw [hg]; exact Nat.ne_of_gt (blk_lt (g := gb187) (o := .cells #[.int .i64 a0_0, .int .i64 a0_1, .int .u8 a0_2, .int .u8 a0_3, .int .u8 a0_4, .int .u8 a0_5, .int .u8 a0_6] 24 (0, 0)) (by (with_reducible repeat (first | refine blk_drewN ?_ _ | refine blk_drew ?_ | refine blk_alloc ?_ _)); exact BK187.out)) : gb188 ≠ gb187)); clear BK187; clear HB; have BK187 := n0_; have HB := n1_; have BK188 := n2_; have GW188 := n3_; have GE188 := n4_; have NB187_188 := n5_; have NB188_187 := n6_; clear n0_ n1_ n2_ n3_ n4_ n5_ n6_; clear hb hbox hg; have hnb8 := NB187_188.out; have hnc8 := NB188_187.out; have hcz9_0 : w7.cell? ⟨gb187, 0, none⟩ = some (.int .i64 a0_0) := (blk_cell BK187.out 0).trans rfl; have hcz9_1 : w7.cell? ⟨gb187, 1, none⟩ = some (.int .i64 a0_1) := (blk_cell BK187.out 1).trans rfl; have hcz9_2 : w7.cell? ⟨gb187, 2, none⟩ = some (.int .u8 a0_2) := (blk_cell BK187.out 2).trans rfl; have hcz9_3 : w7.cell? ⟨gb187, 3, none⟩ = some (.int .u8 a0_3) := (blk_cell BK187.out 3).trans rfl; have hcz9_4 : w7.cell? ⟨gb187, 4, none⟩ = some (.int .u8 a0_4) := (blk_cell BK187.out 4).trans rfl; have hcz9_5 : w7.cell? ⟨gb187, 5, none⟩ = some (.int .u8 a0_5) := (blk_cell BK187.out 5).trans rfl; have hcz9_6 : w7.cell? ⟨gb187, 6, none⟩ = some (.int .u8 a0_6) := (blk_cell BK187.out 6).trans rfl; have hfz9_0 := blk_frozen BK187.out 0; have hfz9_1 := blk_frozen BK187.out 1; have hfz9_2 := blk_frozen BK187.out 2; have hfz9_3 := blk_frozen BK187.out 3; have hfz9_4 := blk_frozen BK187.out 4; have hfz9_5 := blk_frozen BK187.out 5; have hfz9_6 := blk_frozen BK187.out 6; have hcz10_0 : w7.cell? ⟨gb188, 0, none⟩ = some (.int .i64 a1_0) := (blk_cell BK188.out 0).trans rfl; have hcz10_1 : w7.cell? ⟨gb188, 1, none⟩ = some (.int .i64 a1_1) := (blk_cell BK188.out 1).trans rfl; have hcz10_2 : w7.cell? ⟨gb188, 2, none⟩ = some (.int .u8 a1_2) := (blk_cell BK188.out 2).trans rfl; have hcz10_3 : w7.cell? ⟨gb188, 3, none⟩ = some (.int .u8 a1_3) := (blk_cell BK188.out 3).trans rfl; have hcz10_4 : w7.cell? ⟨gb188, 4, none⟩ = some (.int .u8 a1_4) := (blk_cell BK188.out 4).trans rfl; have hcz10_5 : w7.cell? ⟨gb188, 5, none⟩ = some (.int .u8 a1_5) := (blk_cell BK188.out 5).trans rfl; have hcz10_6 : w7.cell? ⟨gb188, 6, none⟩ = some (.int .u8 a1_6) := (blk_cell BK188.out 6).trans rfl; have hfz10_0 := blk_frozen BK188.out 0; have hfz10_1 := blk_frozen BK188.out 1; have hfz10_2 := blk_frozen BK188.out 2; have hfz10_3 := blk_frozen BK188.out 3; have hfz10_4 := blk_frozen BK188.out 4; have hfz10_5 := blk_frozen BK188.out 5; have hfz10_6 := blk_frozen BK188.out 6))
        go_ret
        exact ⟨by first | rfl | (simp [errW_none, errW_some] <;> rfl) | (simp [*, errW_none, errW_some] <;> rfl), by repeat (first | (with_reducible first | exact HB.out | apply below_alloc | apply pw_below_drewN | apply below_drew1 | refine below_set ?_ GE187.out | refine below_set ?_ GE188.out) | exact HB.out)⟩
      · rw [if_neg c5] at H
        have c5b0 : (a0_2 == a1_2) = false := beq_eq_false_iff_ne.mpr c5
        have c5b1 : (a0_2 != a1_2) = true := bne_iff_ne.mpr c5
        obtain rfl := Option.some.inj H
        go_enter Tryd.func12, Tryd.ntmps12
        go_wp2_with (first | ((with_reducible refine gate_dst (N := 2) rfl ?_); refine box_event ?hg (N := 2) ?hd (cs := #[.int .i64 a0_0, .int .i64 a0_1, .int .u8 a0_2, .int .u8 a0_3, .int .u8 a0_4, .int .u8 a0_5, .int .u8 a0_6]) (t := 24) ?hr ?_; (case hd => rfl); (case hg => rfl); (case hr => first | (go_simp; done) | (go_simp; rfl)); intro gb187 hg w11 hbox hb; have n0_ := Aside0.mk (below_step (by repeat (first | (with_reducible first | exact HB.out | apply below_alloc | apply pw_below_drewN | apply below_drew1) | exact HB.out)) hb); have n1_ := Aside0.mk (hbox); have n2_ := Aside0.mk ((by rw [hg]; exact (below_size (by repeat (first | (with_reducible first | exact HB.out | apply below_alloc | apply pw_below_drewN | apply below_drew1) | exact HB.out))) : w.heap.size ≤ gb187)); have n3_ := Aside0.mk ((by rw [hg]; exact (below_size (by repeat (first | (with_reducible first | exact HB.out | apply below_alloc | apply pw_below_drewN | apply below_drew1) | exact HB.out))) : w.heap.size ≤ gb187)); clear HB; have HB := n0_; have BK187 := n1_; have GW187 := n2_; have GE187 := n3_; clear n0_ n1_ n2_ n3_; clear hb hbox hg) | ((with_reducible refine gate_dst (N := 3) rfl ?_); refine box_event ?hg (N := 3) ?hd (cs := #[.int .i64 a1_0, .int .i64 a1_1, .int .u8 a1_2, .int .u8 a1_3, .int .u8 a1_4, .int .u8 a1_5, .int .u8 a1_6]) (t := 31) ?hr ?_; (case hd => rfl); (case hg => rfl); (case hr => first | (go_simp; done) | (go_simp; rfl)); intro gb188 hg w12 hbox hb; have n0_ := Aside0.mk (blk_below (g := gb187) (o := .cells #[.int .i64 a0_0, .int .i64 a0_1, .int .u8 a0_2, .int .u8 a0_3, .int .u8 a0_4, .int .u8 a0_5, .int .u8 a0_6] 24 (0, 0)) (by (with_reducible repeat (first | refine blk_drewN ?_ _ | refine blk_drew ?_ | refine blk_alloc ?_ _)); exact BK187.out) hb); have n1_ := Aside0.mk (below_step (by repeat (first | (with_reducible first | exact HB.out | apply below_alloc | apply pw_below_drewN | apply below_drew1 | refine below_set ?_ GE187.out) | exact HB.out)) hb); have n2_ := Aside0.mk (hbox); have n3_ := Aside0.mk ((by rw [hg]; exact (below_size (by repeat (first | (with_reducible first | exact HB.out | apply below_alloc | apply pw_below_drewN | apply below_drew1 | refine below_set ?_ GE187.out) | exact HB.out))) : w.heap.size ≤ gb188)); have n4_ := Aside0.mk ((by rw [hg]; exact (below_size (by repeat (first | (with_reducible first | exact HB.out | apply below_alloc | apply pw_below_drewN | apply below_drew1 | refine below_set ?_ GE187.out) | exact HB.out))) : w.heap.size ≤ gb188)); have n5_ := Aside0.mk ((by rw [hg]; exact Nat.ne_of_lt (blk_lt (g := gb187) (o := .cells #[.int .i64 a0_0, .int .i64 a0_1, .int .u8 a0_2, .int .u8 a0_3, .int .u8 a0_4, .int .u8 a0_5, .int .u8 a0_6] 24 (0, 0)) (by (with_reducible repeat (first | refine blk_drewN ?_ _ | refine blk_drew ?_ | refine blk_alloc ?_ _)); exact BK187.out)) : gb187 ≠ gb188)); have n6_ := Aside0.mk ((by rw [hg]; exact Nat.ne_of_gt (blk_lt (g := gb187) (o := .cells #[.int .i64 a0_0, .int .i64 a0_1, .int .u8 a0_2, .int .u8 a0_3, .int .u8 a0_4, .int .u8 a0_5, .int .u8 a0_6] 24 (0, 0)) (by (with_reducible repeat (first | refine blk_drewN ?_ _ | refine blk_drew ?_ | refine blk_alloc ?_ _)); exact BK187.out)) : gb188 ≠ gb187)); clear BK187; clear HB; have BK187 := n0_; have HB := n1_; have BK188 := n2_; have GW188 := n3_; have GE188 := n4_; have NB187_188 := n5_; have NB188_187 := n6_; clear n0_ n1_ n2_ n3_ n4_ n5_ n6_; clear hb hbox hg; have hnb13 := NB187_188.out; have hnc13 := NB188_187.out; have hcz14_0 : w12.cell? ⟨gb187, 0, none⟩ = some (.int .i64 a0_0) := (blk_cell BK187.out 0).trans rfl; have hcz14_1 : w12.cell? ⟨gb187, 1, none⟩ = some (.int .i64 a0_1) := (blk_cell BK187.out 1).trans rfl; have hcz14_2 : w12.cell? ⟨gb187, 2, none⟩ = some (.int .u8 a0_2) := (blk_cell BK187.out 2).trans rfl; have hcz14_3 : w12.cell? ⟨gb187, 3, none⟩ = some (.int .u8 a0_3) := (blk_cell BK187.out 3).trans rfl; have hcz14_4 : w12.cell? ⟨gb187, 4, none⟩ = some (.int .u8 a0_4) := (blk_cell BK187.out 4).trans rfl; have hcz14_5 : w12.cell? ⟨gb187, 5, none⟩ = some (.int .u8 a0_5) := (blk_cell BK187.out 5).trans rfl; have hcz14_6 : w12.cell? ⟨gb187, 6, none⟩ = some (.int .u8 a0_6) := (blk_cell BK187.out 6).trans rfl; have hfz14_0 := blk_frozen BK187.out 0; have hfz14_1 := blk_frozen BK187.out 1; have hfz14_2 := blk_frozen BK187.out 2; have hfz14_3 := blk_frozen BK187.out 3; have hfz14_4 := blk_frozen BK187.out 4; have hfz14_5 := blk_frozen BK187.out 5; have hfz14_6 := blk_frozen BK187.out 6; have hcz15_0 : w12.cell? ⟨gb188, 0, none⟩ = some (.int .i64 a1_0) := (blk_cell BK188.out 0).trans rfl; have hcz15_1 : w12.cell? ⟨gb188, 1, none⟩ = some (.int .i64 a1_1) := (blk_cell BK188.out 1).trans rfl; have hcz15_2 : w12.cell? ⟨gb188, 2, none⟩ = some (.int .u8 a1_2) := (blk_cell BK188.out 2).trans rfl; have hcz15_3 : w12.cell? ⟨gb188, 3, none⟩ = some (.int .u8 a1_3) := (blk_cell BK188.out 3).trans rfl; have hcz15_4 : w12.cell? ⟨gb188, 4, none⟩ = some (.int .u8 a1_4) := (blk_cell BK188.out 4).trans rfl; have hcz15_5 : w12.cell? ⟨gb188, 5, none⟩ = some (.int .u8 a1_5) := (blk_cell BK188.out 5).trans rfl; have hcz15_6 : w12.cell? ⟨gb188, 6, none⟩ = some (.int .u8 a1_6) := (blk_cell BK188.out 6).trans rfl; have hfz15_0 := blk_frozen BK188.out 0; have hfz15_1 := blk_frozen BK188.out 1; have hfz15_2 := blk_frozen BK188.out 2; have hfz15_3 := blk_frozen BK188.out 3; have hfz15_4 := blk_frozen BK188.out 4; have hfz15_5 := blk_frozen BK188.out 5; have hfz15_6 := blk_frozen BK188.out 6))
        go_ret
        exact ⟨by first | rfl | (simp [errW_none, errW_some] <;> rfl) | (simp [*, errW_none, errW_some] <;> rfl), by repeat (first | (with_reducible first | exact HB.out | apply below_alloc | apply pw_below_drewN | apply below_drew1 | refine below_set ?_ GE187.out | refine below_set ?_ GE188.out) | exact HB.out)⟩
    · rw [if_neg c4] at H
      have c4b0 : (a0_1 == a1_1) = false := beq_eq_false_iff_ne.mpr c4
      have c4b1 : (a0_1 != a1_1) = true := bne_iff_ne.mpr c4
      obtain rfl := Option.some.inj H
      go_enter Tryd.func12, Tryd.ntmps12
      go_wp2_with (first | ((with_reducible refine gate_dst (N := 2) rfl ?_); refine box_event ?hg (N := 2) ?hd (cs := #[.int .i64 a0_0, .int .i64 a0_1, .int .u8 a0_2, .int .u8 a0_3, .int .u8 a0_4, .int .u8 a0_5, .int .u8 a0_6]) (t := 24) ?hr ?_; (case hd => rfl); (case hg => rfl); (case hr => first | (go_simp; done) | (go_simp; rfl)); intro gb187 hg w16 hbox hb; have n0_ := Aside0.mk (below_step (by repeat (first | (with_reducible first | exact HB.out | apply below_alloc | apply pw_below_drewN | apply below_drew1) | exact HB.out)) hb); have n1_ := Aside0.mk (hbox); have n2_ := Aside0.mk ((by rw [hg]; exact (below_size (by repeat (first | (with_reducible first | exact HB.out | apply below_alloc | apply pw_below_drewN | apply below_drew1) | exact HB.out))) : w.heap.size ≤ gb187)); have n3_ := Aside0.mk ((by rw [hg]; exact (below_size (by repeat (first | (with_reducible first | exact HB.out | apply below_alloc | apply pw_below_drewN | apply below_drew1) | exact HB.out))) : w.heap.size ≤ gb187)); clear HB; have HB := n0_; have BK187 := n1_; have GW187 := n2_; have GE187 := n3_; clear n0_ n1_ n2_ n3_; clear hb hbox hg) | ((with_reducible refine gate_dst (N := 3) rfl ?_); refine box_event ?hg (N := 3) ?hd (cs := #[.int .i64 a1_0, .int .i64 a1_1, .int .u8 a1_2, .int .u8 a1_3, .int .u8 a1_4, .int .u8 a1_5, .int .u8 a1_6]) (t := 31) ?hr ?_; (case hd => rfl); (case hg => rfl); (case hr => first | (go_simp; done) | (go_simp; rfl)); intro gb188 hg w17 hbox hb; have n0_ := Aside0.mk (blk_below (g := gb187) (o := .cells #[.int .i64 a0_0, .int .i64 a0_1, .int .u8 a0_2, .int .u8 a0_3, .int .u8 a0_4, .int .u8 a0_5, .int .u8 a0_6] 24 (0, 0)) (by (with_reducible repeat (first | refine blk_drewN ?_ _ | refine blk_drew ?_ | refine blk_alloc ?_ _)); exact BK187.out) hb); have n1_ := Aside0.mk (below_step (by repeat (first | (with_reducible first | exact HB.out | apply below_alloc | apply pw_below_drewN | apply below_drew1 | refine below_set ?_ GE187.out) | exact HB.out)) hb); have n2_ := Aside0.mk (hbox); have n3_ := Aside0.mk ((by rw [hg]; exact (below_size (by repeat (first | (with_reducible first | exact HB.out | apply below_alloc | apply pw_below_drewN | apply below_drew1 | refine below_set ?_ GE187.out) | exact HB.out))) : w.heap.size ≤ gb188)); have n4_ := Aside0.mk ((by rw [hg]; exact (below_size (by repeat (first | (with_reducible first | exact HB.out | apply below_alloc | apply pw_below_drewN | apply below_drew1 | refine below_set ?_ GE187.out) | exact HB.out))) : w.heap.size ≤ gb188)); have n5_ := Aside0.mk ((by rw [hg]; exact Nat.ne_of_lt (blk_lt (g := gb187) (o := .cells #[.int .i64 a0_0, .int .i64 a0_1, .int .u8 a0_2, .int .u8 a0_3, .int .u8 a0_4, .int .u8 a0_5, .int .u8 a0_6] 24 (0, 0)) (by (with_reducible repeat (first | refine blk_drewN ?_ _ | refine blk_drew ?_ | refine blk_alloc ?_ _)); exact BK187.out)) : gb187 ≠ gb188)); have n6_ := Aside0.mk ((by rw [hg]; exact Nat.ne_of_gt (blk_lt (g := gb187) (o := .cells #[.int .i64 a0_0, .int .i64 a0_1, .int .u8 a0_2, .int .u8 a0_3, .int .u8 a0_4, .int .u8 a0_5, .int .u8 a0_6] 24 (0, 0)) (by (with_reducible repeat (first | refine blk_drewN ?_ _ | refine blk_drew ?_ | refine blk_alloc ?_ _)); exact BK187.out)) : gb188 ≠ gb187)); clear BK187; clear HB; have BK187 := n0_; have HB := n1_; have BK188 := n2_; have GW188 := n3_; have GE188 := n4_; have NB187_188 := n5_; have NB188_187 := n6_; clear n0_ n1_ n2_ n3_ n4_ n5_ n6_; clear hb hbox hg; have hnb18 := NB187_188.out; have hnc18 := NB188_187.out; have hcz19_0 : w17.cell? ⟨gb187, 0, none⟩ = some (.int .i64 a0_0) := (blk_cell BK187.out 0).trans rfl; have hcz19_1 : w17.cell? ⟨gb187, 1, none⟩ = some (.int .i64 a0_1) := (blk_cell BK187.out 1).trans rfl; have hcz19_2 : w17.cell? ⟨gb187, 2, none⟩ = some (.int .u8 a0_2) := (blk_cell BK187.out 2).trans rfl; have hcz19_3 : w17.cell? ⟨gb187, 3, none⟩ = some (.int .u8 a0_3) := (blk_cell BK187.out 3).trans rfl; have hcz19_4 : w17.cell? ⟨gb187, 4, none⟩ = some (.int .u8 a0_4) := (blk_cell BK187.out 4).trans rfl; have hcz19_5 : w17.cell? ⟨gb187, 5, none⟩ = some (.int .u8 a0_5) := (blk_cell BK187.out 5).trans rfl; have hcz19_6 : w17.cell? ⟨gb187, 6, none⟩ = some (.int .u8 a0_6) := (blk_cell BK187.out 6).trans rfl; have hfz19_0 := blk_frozen BK187.out 0; have hfz19_1 := blk_frozen BK187.out 1; have hfz19_2 := blk_frozen BK187.out 2; have hfz19_3 := blk_frozen BK187.out 3; have hfz19_4 := blk_frozen BK187.out 4; have hfz19_5 := blk_frozen BK187.out 5; have hfz19_6 := blk_frozen BK187.out 6; have hcz20_0 : w17.cell? ⟨gb188, 0, none⟩ = some (.int .i64 a1_0) := (blk_cell BK188.out 0).trans rfl; have hcz20_1 : w17.cell? ⟨gb188, 1, none⟩ = some (.int .i64 a1_1) := (blk_cell BK188.out 1).trans rfl; have hcz20_2 : w17.cell? ⟨gb188, 2, none⟩ = some (.int .u8 a1_2) := (blk_cell BK188.out 2).trans rfl; have hcz20_3 : w17.cell? ⟨gb188, 3, none⟩ = some (.int .u8 a1_3) := (blk_cell BK188.out 3).trans rfl; have hcz20_4 : w17.cell? ⟨gb188, 4, none⟩ = some (.int .u8 a1_4) := (blk_cell BK188.out 4).trans rfl; have hcz20_5 : w17.cell? ⟨gb188, 5, none⟩ = some (.int .u8 a1_5) := (blk_cell BK188.out 5).trans rfl; have hcz20_6 : w17.cell? ⟨gb188, 6, none⟩ = some (.int .u8 a1_6) := (blk_cell BK188.out 6).trans rfl; have hfz20_0 := blk_frozen BK188.out 0; have hfz20_1 := blk_frozen BK188.out 1; have hfz20_2 := blk_frozen BK188.out 2; have hfz20_3 := blk_frozen BK188.out 3; have hfz20_4 := blk_frozen BK188.out 4; have hfz20_5 := blk_frozen BK188.out 5; have hfz20_6 := blk_frozen BK188.out 6))
      go_ret
      exact ⟨by first | rfl | (simp [errW_none, errW_some] <;> rfl) | (simp [*, errW_none, errW_some] <;> rfl), by repeat (first | (with_reducible first | exact HB.out | apply below_alloc | apply pw_below_drewN | apply below_drew1 | refine below_set ?_ GE187.out | refine below_set ?_ GE188.out) | exact HB.out)⟩
  · rw [if_neg c3] at H
    have c3b0 : (a0_0 == a1_0) = false := beq_eq_false_iff_ne.mpr c3
    have c3b1 : (a0_0 != a1_0) = true := bne_iff_ne.mpr c3
    obtain rfl := Option.some.inj H
    go_enter Tryd.func12, Tryd.ntmps12
    go_wp2_with (first | ((with_reducible refine gate_dst (N := 2) rfl ?_); refine box_event ?hg (N := 2) ?hd (cs := #[.int .i64 a0_0, .int .i64 a0_1, .int .u8 a0_2, .int .u8 a0_3, .int .u8 a0_4, .int .u8 a0_5, .int .u8 a0_6]) (t := 24) ?hr ?_; (case hd => rfl); (case hg => rfl); (case hr => first | (go_simp; done) | (go_simp; rfl)); intro gb187 hg w21 hbox hb; have n0_ := Aside0.mk (below_step (by repeat (first | (with_reducible first | exact HB.out | apply below_alloc | apply pw_below_drewN | apply below_drew1) | exact HB.out)) hb); have n1_ := Aside0.mk (hbox); have n2_ := Aside0.mk ((by rw [hg]; exact (below_size (by repeat (first | (with_reducible first | exact HB.out | apply below_alloc | apply pw_below_drewN | apply below_drew1) | exact HB.out))) : w.heap.size ≤ gb187)); have n3_ := Aside0.mk ((by rw [hg]; exact (below_size (by repeat (first | (with_reducible first | exact HB.out | apply below_alloc | apply pw_below_drewN | apply below_drew1) | exact HB.out))) : w.heap.size ≤ gb187)); clear HB; have HB := n0_; have BK187 := n1_; have GW187 := n2_; have GE187 := n3_; clear n0_ n1_ n2_ n3_; clear hb hbox hg) | ((with_reducible refine gate_dst (N := 3) rfl ?_); refine box_event ?hg (N := 3) ?hd (cs := #[.int .i64 a1_0, .int .i64 a1_1, .int .u8 a1_2, .int .u8 a1_3, .int .u8 a1_4, .int .u8 a1_5, .int .u8 a1_6]) (t := 31) ?hr ?_; (case hd => rfl); (case hg => rfl); (case hr => first | (go_simp; done) | (go_simp; rfl)); intro gb188 hg w22 hbox hb; have n0_ := Aside0.mk (blk_below (g := gb187) (o := .cells #[.int .i64 a0_0, .int .i64 a0_1, .int .u8 a0_2, .int .u8 a0_3, .int .u8 a0_4, .int .u8 a0_5, .int .u8 a0_6] 24 (0, 0)) (by (with_reducible repeat (first | refine blk_drewN ?_ _ | refine blk_drew ?_ | refine blk_alloc ?_ _)); exact BK187.out) hb); have n1_ := Aside0.mk (below_step (by repeat (first | (with_reducible first | exact HB.out | apply below_alloc | apply pw_below_drewN | apply below_drew1 | refine below_set ?_ GE187.out) | exact HB.out)) hb); have n2_ := Aside0.mk (hbox); have n3_ := Aside0.mk ((by rw [hg]; exact (below_size (by repeat (first | (with_reducible first | exact HB.out | apply below_alloc | apply pw_below_drewN | apply below_drew1 | refine below_set ?_ GE187.out) | exact HB.out))) : w.heap.size ≤ gb188)); have n4_ := Aside0.mk ((by rw [hg]; exact (below_size (by repeat (first | (with_reducible first | exact HB.out | apply below_alloc | apply pw_below_drewN | apply below_drew1 | refine below_set ?_ GE187.out) | exact HB.out))) : w.heap.size ≤ gb188)); have n5_ := Aside0.mk ((by rw [hg]; exact Nat.ne_of_lt (blk_lt (g := gb187) (o := .cells #[.int .i64 a0_0, .int .i64 a0_1, .int .u8 a0_2, .int .u8 a0_3, .int .u8 a0_4, .int .u8 a0_5, .int .u8 a0_6] 24 (0, 0)) (by (with_reducible repeat (first | refine blk_drewN ?_ _ | refine blk_drew ?_ | refine blk_alloc ?_ _)); exact BK187.out)) : gb187 ≠ gb188)); have n6_ := Aside0.mk ((by rw [hg]; exact Nat.ne_of_gt (blk_lt (g := gb187) (o := .cells #[.int .i64 a0_0, .int .i64 a0_1, .int .u8 a0_2, .int .u8 a0_3, .int .u8 a0_4, .int .u8 a0_5, .int .u8 a0_6] 24 (0, 0)) (by (with_reducible repeat (first | refine blk_drewN ?_ _ | refine blk_drew ?_ | refine blk_alloc ?_ _)); exact BK187.out)) : gb188 ≠ gb187)); clear BK187; clear HB; have BK187 := n0_; have HB := n1_; have BK188 := n2_; have GW188 := n3_; have GE188 := n4_; have NB187_188 := n5_; have NB188_187 := n6_; clear n0_ n1_ n2_ n3_ n4_ n5_ n6_; clear hb hbox hg; have hnb23 := NB187_188.out; have hnc23 := NB188_187.out; have hcz24_0 : w22.cell? ⟨gb187, 0, none⟩ = some (.int .i64 a0_0) := (blk_cell BK187.out 0).trans rfl; have hcz24_1 : w22.cell? ⟨gb187, 1, none⟩ = some (.int .i64 a0_1) := (blk_cell BK187.out 1).trans rfl; have hcz24_2 : w22.cell? ⟨gb187, 2, none⟩ = some (.int .u8 a0_2) := (blk_cell BK187.out 2).trans rfl; have hcz24_3 : w22.cell? ⟨gb187, 3, none⟩ = some (.int .u8 a0_3) := (blk_cell BK187.out 3).trans rfl; have hcz24_4 : w22.cell? ⟨gb187, 4, none⟩ = some (.int .u8 a0_4) := (blk_cell BK187.out 4).trans rfl; have hcz24_5 : w22.cell? ⟨gb187, 5, none⟩ = some (.int .u8 a0_5) := (blk_cell BK187.out 5).trans rfl; have hcz24_6 : w22.cell? ⟨gb187, 6, none⟩ = some (.int .u8 a0_6) := (blk_cell BK187.out 6).trans rfl; have hfz24_0 := blk_frozen BK187.out 0; have hfz24_1 := blk_frozen BK187.out 1; have hfz24_2 := blk_frozen BK187.out 2; have hfz24_3 := blk_frozen BK187.out 3; have hfz24_4 := blk_frozen BK187.out 4; have hfz24_5 := blk_frozen BK187.out 5; have hfz24_6 := blk_frozen BK187.out 6; have hcz25_0 : w22.cell? ⟨gb188, 0, none⟩ = some (.int .i64 a1_0) := (blk_cell BK188.out 0).trans rfl; have hcz25_1 : w22.cell? ⟨gb188, 1, none⟩ = some (.int .i64 a1_1) := (blk_cell BK188.out 1).trans rfl; have hcz25_2 : w22.cell? ⟨gb188, 2, none⟩ = some (.int .u8 a1_2) := (blk_cell BK188.out 2).trans rfl; have hcz25_3 : w22.cell? ⟨gb188, 3, none⟩ = some (.int .u8 a1_3) := (blk_cell BK188.out 3).trans rfl; have hcz25_4 : w22.cell? ⟨gb188, 4, none⟩ = some (.int .u8 a1_4) := (blk_cell BK188.out 4).trans rfl; have hcz25_5 : w22.cell? ⟨gb188, 5, none⟩ = some (.int .u8 a1_5) := (blk_cell BK188.out 5).trans rfl; have hcz25_6 : w22.cell? ⟨gb188, 6, none⟩ = some (.int .u8 a1_6) := (blk_cell BK188.out 6).trans rfl; have hfz25_0 := blk_frozen BK188.out 0; have hfz25_1 := blk_frozen BK188.out 1; have hfz25_2 := blk_frozen BK188.out 2; have hfz25_3 := blk_frozen BK188.out 3; have hfz25_4 := blk_frozen BK188.out 4; have hfz25_5 := blk_frozen BK188.out 5; have hfz25_6 := blk_frozen BK188.out 6))
    go_ret
    exact ⟨by first | rfl | (simp [errW_none, errW_some] <;> rfl) | (simp [*, errW_none, errW_some] <;> rfl), by repeat (first | (with_reducible first | exact HB.out | apply below_alloc | apply pw_below_drewN | apply below_drew1 | refine below_set ?_ GE187.out | refine below_set ?_ GE188.out) | exact HB.out)⟩

end Go.Proofs.YtmajbcglpcagoaaDoor.X

-- YtmajbcglpcagoaaDoorX16
namespace Go.Proofs.YtmajbcglpcagoaaDoor.X
open Go.RowKit Go.Proofs.YtmajbcglpcagoaaDoorW.PrintWords Go.Proofs.YtmajbcglpcagoaaDoorW.PrintLast Go.Proofs.YtmajbcglpcagoaaDoorW.PrintMore
attribute [local go_sem] max2_int min2_int max_two min_two max_three min_three max_four min_four   -- for this text's walks alone
set_option linter.unusedVariables false
set_option linter.unusedSimpArgs false

/-! ### shuttleref06_List: function 26 -/
def shuttleref06_List.l0 : Nat → Int → Int → List Int → Int → Option (List Int)
  | 0, _, _, _, _ => none
  | k + 1, x0, x1, x5, x6 => if x6 < 6 then (if 0 ≤ x6 then (if x5.length < 140737488355328 then (shuttleref06_List.l0 k x0 x1 (x5 ++ [(Go.bits .and .i64 (shr .i64 x0 x6) 1) % 256]) (wrap64 (x6 + 1))) else (none)) else (none)) else (if x5.length < 140737488355328 then (some (x5 ++ [x1])) else (none))
def shuttleref06_List.f (k : Nat) (a0 : Int) (a1 : Int) : Option (List Int) := shuttleref06_List.l0 k a0 a1 ([] : List Int) 0
theorem shuttleref06_List.mono_l : ∀ k, (∀ y0 y1 y2 y3, LeO (shuttleref06_List.l0 k y0 y1 y2 y3) (shuttleref06_List.l0 (k + 1) y0 y1 y2 y3))
  | 0 => fun _ _ _ _ r h => by simp [shuttleref06_List.l0] at h
  | k + 1 => by
    have ih0 := shuttleref06_List.mono_l k
    · intro y0 y1 y2 y3
      unfold shuttleref06_List.l0
      repeat' first
      | (with_reducible exact ih0 _ _ _ _)
      | (with_reducible exact LeO.refl _)
      | (with_reducible exact LeO.none _)
      | (with_reducible refine LeO.ite ?_ ?_)
      | (with_reducible refine LeO.bind ?_ (fun _ => ?_))
      | exact ih0 _ _ _ _
      | exact LeO.none _
      | refine LeO.ite ?_ ?_
      | refine LeO.bind ?_ (fun _ => ?_)
theorem shuttleref06_List.mono : ∀ a0 a1 k, LeO (shuttleref06_List.f k a0 a1) (shuttleref06_List.f (k + 1) a0 a1) := by
  intro a0 a1 k
  have ih0 := shuttleref06_List.mono_l k
  unfold shuttleref06_List.f
  repeat' first
      | (with_reducible exact ih0 _ _ _ _)
      | (with_reducible exact LeO.refl _)
      | (with_reducible exact LeO.none _)
      | (with_reducible refine LeO.ite ?_ ?_)
      | (with_reducible refine LeO.bind ?_ (fun _ => ?_))
      | exact ih0 _ _ _ _
      | exact LeO.none _
      | refine LeO.ite ?_ ?_
      | refine LeO.bind ?_ (fun _ => ?_)
set_option maxHeartbeats 8000000 in
set_option maxRecDepth 100000 in
theorem shuttleref06_List.calls (k : Nat) (a0 : Int) (a1 : Int) (r : List Int) (w : World) (h : shuttleref06_List.f k a0 a1 = some r) :
    Calls Tryd.prog 26 #[.int .i64 a0, .int .u8 a1] w fun e w' => ∃ v0_ : Value, e = .returned (v0_) ∧ Kd.R (Kd.int .u8) 5 w' w.heap.size (fun _ => True) v0_ r ∧ Below w.heap.size w w' := by
  have HB := Aside0.mk (Below.refl w.heap.size w)
  have H : (shuttleref06_List.l0 k a0 a1 ([] : List Int) 0) = some r := h
  clear h
  have H' := Aside0.mk H
  clear H
  go_enter Tryd.func26, Tryd.ntmps26
  go_wp2
  go_loopg [5, 6] k (fun kq v5 v6 w' => ∃ (x5_1 : List Int) (x6_1 : Int), v6 = .int .i64 x6_1 ∧ Aside0 (shuttleref06_List.l0 kq a0 a1 x5_1 x6_1 = some r) ∧ Aside0 (kq ≤ k) ∧ Aside0 (Kd.R (Kd.int .u8) 5 w' w.heap.size (fun _ => True) v5 x5_1) ∧ Aside0 (Below w.heap.size w w'))
  case atStart => exact ⟨(([] : List Int)), (0), (by first | rfl | (simp; done) | (simp [*]; done)), H', ⟨Nat.le_refl _⟩, ⟨by first | exact Kd.R_nil _ _ _ _ _ | exact Kd.N_nil _ _ _ _ _ | exact Kd.V_nil _ _ _ _ _ | exact Kd.Q_nil _ _ _ _ _ | exact Kd.S_nil _ _ _ _ _⟩, ⟨by repeat (first | (with_reducible first | exact HB.out | apply below_alloc | apply pw_below_drewN | apply below_drew1) | exact HB.out)⟩⟩
  case round =>
    clear H'
    try clear c2
    try clear p2
    obtain ⟨x5_1, x6_1, rfl, HA, HK1, HO_5, HB⟩ := hrel
    cases gk with
    | zero => exact absurd HA.out (by simp [shuttleref06_List.l0])
    | succ k1 =>
      have H := HA.out
      clear HA
      simp only [shuttleref06_List.l0] at H
      by_cases c3 : x6_1 < 6
      · rw [if_pos c3] at H
        have c3b0 : decide (x6_1 < 6) = true := decide_eq_true c3
        clear c3
        by_cases c4 : 0 ≤ x6_1
        · rw [if_pos c4] at H
          have c4b0 := eq_true c4
          have c4b1 : decide (0 ≤ x6_1) = true := decide_eq_true c4
          clear c4
          obtain ⟨ji5, hji5⟩ : ∃ j_ : Int, (shr .i64 a0 x6_1) = j_ := ⟨_, rfl⟩
          replace H : (if x5_1.length < 140737488355328 then (shuttleref06_List.l0 k1 a0 a1 (x5_1 ++ [(Go.bits .and .i64 (ji5) 1) % 256]) (wrap64 (x6_1 + 1))) else (none)) = some r := by first | (rw [hji5] at H; exact H) | (simp only [hji5] at H ⊢; exact H)
          have hji5_ : (a0 / 2 ^ min x6_1.toNat 64) = ji5 := hji5
          have hji5z : x6_1 ≤ 64 → (a0 / 2 ^ x6_1.toNat) = ji5 := shr_small hji5
          by_cases c6 : x5_1.length < 140737488355328
          · rw [if_pos c6] at H
            have LMc6 := Aside0.mk c6
            clear c6
            obtain ⟨y189, hy189⟩ : ∃ y_ : List Int, y_ = (x5_1 ++ [(Go.bits .and .i64 (ji5) 1) % 256]) := ⟨_, rfl⟩
            replace H : (shuttleref06_List.l0 k1 a0 a1 y189 (wrap64 (x6_1 + 1))) = some r := by first | (rw [hy189]; with_reducible exact H) | (have H2_ := (Option.bind_some _ _).symm.trans H; rw [hy189]; with_reducible exact H2_) | (have H2_ := (Option.bind_some _ _).symm.trans H; with_reducible exact H2_) | with_reducible exact H | (rw [hy189]; exact H) | exact H
            have Ny189 := Aside0.mk hy189
            clear hy189
            have H' := Aside0.mk H
            clear H
            go_wp2_with (first | ((with_reducible refine gate_builtin (b := .append) (xs := #[.tmp 11, .tmp 17]) rfl ?_); at_builtin; refine Kd.R_append (Kd.int .u8) (w0 := w) w.heap.size rfl (.tmp 11) (.tmp 17) 35 5 (.int .u8 0) 1 rfl Tryd.underlying35 info5 rfl (by decide) (by omega) u5 x5_1 ((Go.bits .and .i64 (ji5) 1) % 256) [.int .u8 ((Go.bits .and .i64 (ji5) 1) % 256)] (fun _ => True) (fun _ => False) rfl rfl ?aP (fun _ hk => hk.elim) ?aF ?aO ?aB ?aS ?aL ?_; (case aP => exact rfl); (case aB => exact (by repeat (first | (with_reducible first | exact HB.out | apply below_alloc | apply pw_below_drewN | apply below_drew1) | exact HB.out))); (case aF => exact (fun _ _ => trivial)); (case aO => exact (by (with_reducible repeat (first | apply Kd.R_alloc | apply Kd.R_drewN | apply Kd.R_drew)); exact HO_5.out)); (case aS => exact (below_size (by repeat (first | (with_reducible first | exact HB.out | apply below_alloc | apply pw_below_drewN | apply below_drew1) | exact HB.out)))); (case aL => have := LMc6.out; omega); intro v190 w7 ho hb hg hat; rw [← Ny189.out] at ho; have n0_ := Aside0.mk (hb); have n1_ := Aside0.mk (ho); clear HB; clear HO_5; have HB := n0_; have HO191 := n1_; clear n0_ n1_; clear ho hb hg hat))
            go_roundg k1
            case measure => have := HK1.out; omega
            case rel => exact ⟨(y189), (wrap64 (x6_1 + 1)), (by first | rfl | (simp; done) | (simp [*]; done)), H', ⟨by have := HK1.out; omega⟩, ⟨by (with_reducible repeat (first | apply Kd.R_alloc | apply Kd.R_drewN | apply Kd.R_drew)); exact HO191.out⟩, ⟨by repeat (first | (with_reducible first | exact HB.out | apply below_alloc | apply pw_below_drewN | apply below_drew1) | exact HB.out)⟩⟩
          · rw [if_neg c6] at H
            exact absurd H (by simp)
        · rw [if_neg c4] at H
          exact absurd H (by simp)
      · rw [if_neg c3] at H
        have c3b0 : decide (x6_1 < 6) = false := decide_eq_false c3
        clear c3
        by_cases c8 : x5_1.length < 140737488355328
        · rw [if_pos c8] at H
          have LMc8 := Aside0.mk c8
          clear c8
          obtain ⟨y192, hy192⟩ : ∃ y_ : List Int, y_ = (x5_1 ++ [a1]) := ⟨_, rfl⟩
          replace H : (some y192) = some r := by first | (rw [hy192]; with_reducible exact H) | (have H2_ := (Option.bind_some _ _).symm.trans H; rw [hy192]; with_reducible exact H2_) | (have H2_ := (Option.bind_some _ _).symm.trans H; with_reducible exact H2_) | with_reducible exact H | (rw [hy192]; exact H) | exact H
          have Ny192 := Aside0.mk hy192
          clear hy192
          obtain rfl := Option.some.inj H
          go_wp2_with (first | ((with_reducible refine gate_builtin (b := .append) (xs := #[.tmp 19, .tmp 21]) rfl ?_); at_builtin; refine Kd.R_append (Kd.int .u8) (w0 := w) w.heap.size rfl (.tmp 19) (.tmp 21) 35 5 (.int .u8 0) 1 rfl Tryd.underlying35 info5 rfl (by decide) (by omega) u5 x5_1 a1 [.int .u8 a1] (fun _ => True) (fun _ => False) rfl rfl ?aP (fun _ hk => hk.elim) ?aF ?aO ?aB ?aS ?aL ?_; (case aP => exact rfl); (case aB => exact (by repeat (first | (with_reducible first | exact HB.out | apply below_alloc | apply pw_below_drewN | apply below_drew1) | exact HB.out))); (case aF => exact (fun _ _ => trivial)); (case aO => exact (by (with_reducible repeat (first | apply Kd.R_alloc | apply Kd.R_drewN | apply Kd.R_drew)); exact HO_5.out)); (case aS => exact (below_size (by repeat (first | (with_reducible first | exact HB.out | apply below_alloc | apply pw_below_drewN | apply below_drew1) | exact HB.out)))); (case aL => have := LMc8.out; omega); intro v193 w9 ho hb hg hat; rw [← Ny192.out] at ho; have n0_ := Aside0.mk (hb); have n1_ := Aside0.mk (ho); clear HB; clear HO_5; have HB := n0_; have HO194 := n1_; clear n0_ n1_; clear ho hb hg hat))
          go_ret
          exact ⟨_, by first | rfl | (simp [errW_none, errW_some] <;> rfl) | (simp [*, errW_none, errW_some] <;> rfl), by (with_reducible repeat (first | apply Kd.R_alloc | apply Kd.R_drewN | apply Kd.R_drew)); exact HO194.out, by repeat (first | (with_reducible first | exact HB.out | apply below_alloc | apply pw_below_drewN | apply below_drew1) | exact HB.out)⟩
        · rw [if_neg c8] at H
          exact absurd H (by simp)

end Go.Proofs.YtmajbcglpcagoaaDoor.X

-- YtmajbcglpcagoaaDoorX18
namespace Go.Proofs.YtmajbcglpcagoaaDoor.X
open Go.RowKit Go.Proofs.YtmajbcglpcagoaaDoorW.PrintWords Go.Proofs.YtmajbcglpcagoaaDoorW.PrintLast Go.Proofs.YtmajbcglpcagoaaDoorW.PrintMore
attribute [local go_sem] max2_int min2_int max_two min_two max_three min_three max_four min_four   -- for this text's walks alone
set_option linter.unusedVariables false
set_option linter.unusedSimpArgs false

/-! ### shuttleref06_Bit: function 27 -/
attribute [local go_sem] run_index_arr

def tapsL : List Int := [1, 0, 0, 1, 1, 1, 1, 1, 0, 1, 0, 1, 1, 1, 1, 1, 0, 1, 1, 0, 1, 1, 1, 1, 1, 0, 0, 1]
def tapsV : Array Value := (nums .u8 tapsL).toArray
def tapAt (s k : Nat) : Int := tapsL.getD (s * 7 + k) 0
theorem taps_size : (Tryd.prog.info? 68).map (·.size) = some tapsV.size := by
  rw [show tapsV.size = 28 from rfl]
  kernel_rfl
theorem taps_one : tapsV.all (·.oneCell') = true := by decide +kernel
theorem taps_lit : #[Value.int .u8 1, .int .u8 0, .int .u8 0, .int .u8 1, .int .u8 1, .int .u8 1, .int .u8 1, .int .u8 1, .int .u8 0, .int .u8 1, .int .u8 0, .int .u8 1, .int .u8 1, .int .u8 1, .int .u8 1, .int .u8 1, .int .u8 0, .int .u8 1, .int .u8 1, .int .u8 0, .int .u8 1, .int .u8 1, .int .u8 1, .int .u8 1, .int .u8 1, .int .u8 0, .int .u8 0, .int .u8 1] = tapsV := rfl
/-- What a stream tells of a list at a step, behind k of the seven places. -/
def bitR (l : List Int) (step s : Nat) : Nat → Int
  | 0 => 0
  | k + 1 => if k ≤ step ∧ step - k < l.length then Go.bits .xor .u8 (bitR l step s k) (Go.bits .and .u8 (tapAt s k) (l.getD (step - k) 0)) else bitR l step s k
def shuttleref06_Bit.f (l0 : List Int) (a1 : Int) (a2 : Int) : Option Int := if 0 ≤ a1 ∧ a1 ≤ 9223372036854775807 ∧ 0 ≤ a2 ∧ a2 < 4 then some (bitR l0 a1.toNat a2.toNat 7) else none
set_option maxRecDepth 100000 in
set_option maxHeartbeats 4000000 in
theorem shuttleref06_taps_calls (w : World) :
    Calls Tryd.prog 38 #[] w fun e w' => e = .returned (.agg tapsV) ∧ Below w.heap.size w w' := by
  go_enter Tryd.func38, Tryd.ntmps38
  have k0 := Aside0.mk (heap_alloc_new w (.cells #[.int .u8 0, .int .u8 0, .int .u8 0, .int .u8 0, .int .u8 0, .int .u8 0, .int .u8 0, .int .u8 0, .int .u8 0, .int .u8 0, .int .u8 0, .int .u8 0, .int .u8 0, .int .u8 0, .int .u8 0, .int .u8 0, .int .u8 0, .int .u8 0, .int .u8 0, .int .u8 0, .int .u8 0, .int .u8 0, .int .u8 0, .int .u8 0, .int .u8 0, .int .u8 0, .int .u8 0, .int .u8 0] 68))
  go_wp2_with (refine wpList_store_row rfl 68 (.tmp 0) (.tmp 5) rfl w.heap.size tapsV rfl rfl 68 _ k0.out taps_size rfl taps_one ?_)
  refine bodyPost_ret (results_cell_row rfl _ _ w.heap.size 68 tapsV (0, 0) _ rfl (setRow_heap _ _ _ _ _ _ k0.out) Tryd.underlying68 rfl (by kernel_rfl)) rfl ?_
  exact ⟨rfl, below_setRow (below_alloc (Below.refl _ _) _) (Nat.le_refl _) _⟩
theorem tapsV_at (s k : Nat) (hs : s < 4) (hk : k < 7) : tapsV[s * 7 + k]? = some (.int .u8 (tapAt s k)) := by
  unfold tapsV tapAt nums
  have h : s * 7 + k < tapsL.length := by show _ < 28; omega
  rw [List.getElem?_toArray, List.getElem?_map, List.getElem?_eq_getElem h, List.getD_eq_getElem?_getD, List.getElem?_eq_getElem h]
  rfl
set_option maxRecDepth 100000 in
set_option maxHeartbeats 4000000 in
theorem shuttleref06_Bit.calls (A0 : Option Addr) (c0 : Nat) (l0 : List Int) (a1 : Int) (a2 : Int) (r : Int) (w : World) (hr0 : Kd.C (Kd.int .u8) w A0 l0.length l0) (hc0 : l0.length ≤ c0) (h : shuttleref06_Bit.f l0 a1 a2 = some r) :
    Calls Tryd.prog 27 #[.slice A0 l0.length c0, .int .i64 a1, .int .i64 a2] w fun e w' => e = .returned (.int .u8 r) ∧ Below w.heap.size w w' := by
  unfold shuttleref06_Bit.f at h
  by_cases hg : 0 ≤ a1 ∧ a1 ≤ 9223372036854775807 ∧ 0 ≤ a2 ∧ a2 < 4
  · rw [if_pos hg] at h
    obtain ⟨step, rfl⟩ := Int.eq_ofNat_of_zero_le hg.1
    obtain ⟨s, rfl⟩ := Int.eq_ofNat_of_zero_le hg.2.2.1
    have hs : s < 4 := by omega
    have hst : (step : Int) ≤ 9223372036854775807 := hg.2.1
    clear hg
    simp only [Int.toNat_natCast, Option.some.injEq] at h
    subst h
    replace hr0 := Aside0.mk hr0
    have hl0 : (l0.length : Int) ≤ 9223372036854775807 := by
      have := hr0.out.2.1
      omega
    go_enter Tryd.func27, Tryd.ntmps27
    go_wp2_with (first | ((with_reducible refine gate_callee (f := 38) rfl ?_); refine goesL_ (some 10) rfl rfl Tryd.func38 (by kernel_rfl) rfl #[] rfl (by (try simp only [List.map_toArray, List.map_cons, List.map_nil]); first | done | rfl) ?_; (with_reducible refine (shuttleref06_taps_calls _).mono ?_); rintro e w1 ⟨rfl, HB0⟩; refine ⟨_, rfl, ?_⟩; have HB := Aside0.mk HB0; clear HB0)  | ((with_reducible refine gate_dst (N := 7) rfl ?_); refine box_event ?hg (N := 7) ?hd (cs := #[.int .u8 0, .int .u8 0, .int .u8 0, .int .u8 0, .int .u8 0, .int .u8 0, .int .u8 0, .int .u8 0, .int .u8 0, .int .u8 0, .int .u8 0, .int .u8 0, .int .u8 0, .int .u8 0, .int .u8 0, .int .u8 0, .int .u8 0, .int .u8 0, .int .u8 0, .int .u8 0, .int .u8 0, .int .u8 0, .int .u8 0, .int .u8 0, .int .u8 0, .int .u8 0, .int .u8 0, .int .u8 0]) (t := 68) ?hr ?_; (case hd => rfl); (case hg => rfl); (case hr => first | (go_simp; done) | (go_simp; rfl)); intro g hge w2 hbox0 hb0; have hbox := Aside0.mk hbox0; have HB1 := Aside0.mk (below_step HB.out hb0); have hgl := Aside0.mk (show w.heap.size ≤ g by rw [hge]; exact HB.out.size); clear HB hbox0 hb0 hge)  | (refine wpList_store_row rfl 68 (.tmp 7) (.tmp 10) rfl g tapsV rfl rfl 68 _ hbox.out taps_size rfl taps_one ?_; have BK := Aside0.mk (setRow_heap w2 g _ tapsV _ _ hbox.out); have HB2 := Aside0.mk (below_setRow HB1.out hgl.out tapsV); clear hbox HB1; obtain ⟨w3, hw3⟩ : ∃ w3, w2.setRow g tapsV = w3 := ⟨_, rfl⟩; rw [hw3] at BK HB2 ⊢; clear hw3))
    replace hst := Aside0.mk hst
    replace hl0 := Aside0.mk hl0
    go_loopw [8, 9] (fun v8 v9 wr => ∃ q : Nat, q ≤ 7 ∧ v8 = .int .u8 (bitR l0 step s q) ∧ v9 = .int .i64 (q : Int) ∧ Aside0 (wr.heap[g]? = some (.cells tapsV 68 (0, 0))) ∧ Aside0 (Below w.heap.size w wr)) (fun _ v9 _ => 7 - (intOf v9).toNat)
    case atStart => exact ⟨0, by omega, rfl, rfl, BK, HB2⟩
    case round =>
      clear BK HB2
      obtain ⟨q, hq, rfl, rfl, BK, HB⟩ := hrel
      by_cases hq7 : q < 7
      · have hlt7 : (q : Int) < 7 := by omega
        by_cases c1 : q ≤ step
        · obtain ⟨d, hd⟩ : ∃ d, step - q = d := ⟨_, rfl⟩
          have e1 : wrap64 ((step : Int) - (q : Int)) = (d : Int) := by have := hst.out; unfold wrap64; omega
          have e2 : (0 : Int) ≤ (d : Int) := by omega
          by_cases c2 : d < l0.length
          · have e3 : (d : Int) < (l0.length : Int) := by omega
            obtain ⟨ad, hA, hcs⟩ := (Kd.C_below hr0.out HB.out).2.2 (by omega)
            subst hA
            have hx : wr.cell? (ad.add d) = some (.int .u8 (l0.getD d 0)) := by
              obtain ⟨c, h1, h2, h3⟩ := hcs d _ (List.getElem?_eq_getElem c2)
              have h2' : c = [Value.int .u8 l0[d]] := h2
              subst h2'
              have h4 := h3 0 _ rfl
              rw [List.getD_eq_getElem?_getD, List.getElem?_eq_getElem c2]
              simpa [Kd.int, Kd.scalar] using h4
            have hy := (blk_cell BK.out (s * 7 + q)).trans (tapsV_at s q hs hq7)
            clear hcs
            go_wp2
            go_region
            all_goals
              go_wp2
              have es : wrap64 ((q : Int) + 1) = ((q + 1 : Nat) : Int) := by unfold wrap64; omega
              go_roundw
              case rel =>
                refine ⟨q + 1, by omega, ?_, by first | rfl | rw [es] | (simp; done), ⟨by first | exact BK.out | (exact blk_drew BK.out)⟩, ⟨by first | exact HB.out | exact below_drew1 HB.out⟩⟩
                show _ = Value.int .u8 (bitR l0 step s (q + 1))
                rw [bitR, if_pos ⟨c1, by rw [hd]; exact c2⟩, hd, List.getD_eq_getElem?_getD, List.getElem?_eq_getElem c2]
                rfl
              case measure => simp [intOf]; omega
          · have e3 : ¬ (d : Int) < (l0.length : Int) := by omega
            go_wp2
            have es : wrap64 ((q : Int) + 1) = ((q + 1 : Nat) : Int) := by unfold wrap64; omega
            go_roundw
            case rel =>
              refine ⟨q + 1, by omega, ?_, by first | rfl | rw [es] | (simp; done), BK, HB⟩
              show _ = Value.int .u8 (bitR l0 step s (q + 1))
              rw [bitR, if_neg (fun h => c2 (by rw [← hd]; exact h.2))]
            case measure => simp [intOf]; omega
        · have e1 : wrap64 ((step : Int) - (q : Int)) = (step : Int) - (q : Int) := by unfold wrap64; omega
          have e2 : ¬ (0 : Int) ≤ (step : Int) - (q : Int) := by omega
          have e3 : ¬ (q : Int) ≤ (step : Int) := by omega
          go_wp2
          have es : wrap64 ((q : Int) + 1) = ((q + 1 : Nat) : Int) := by unfold wrap64; omega
          go_roundw
          case rel =>
            refine ⟨q + 1, by omega, ?_, by first | rfl | rw [es] | (simp; done), BK, HB⟩
            show _ = Value.int .u8 (bitR l0 step s (q + 1))
            rw [bitR, if_neg (fun h => c1 h.1)]
          case measure => simp [intOf]; omega
      · obtain rfl : q = 7 := by omega
        go_wp2
        go_ret
        exact ⟨by first | rfl | (simp; done), HB.out⟩
  · rw [if_neg hg] at h; cases h

end Go.Proofs.YtmajbcglpcagoaaDoor.X

-- YtmajbcglpcagoaaDoorX19
namespace Go.Proofs.YtmajbcglpcagoaaDoor.X
open Go.RowKit Go.Proofs.YtmajbcglpcagoaaDoorW.PrintWords Go.Proofs.YtmajbcglpcagoaaDoorW.PrintLast Go.Proofs.YtmajbcglpcagoaaDoorW.PrintMore
attribute [local go_sem] max2_int min2_int max_two min_two max_three min_three max_four min_four   -- for this text's walks alone
set_option linter.unusedVariables false
set_option linter.unusedSimpArgs false

/-! ### shuttleref07_Step: function 13 -/
def shuttleref07_Step.l0 : Nat → List Int → Int → Int → Int → Int → Int → Int → Int → Int → Option (Int × Int × Int × Int × Int × Int × Int)
  | 0, _, _, _, _, _, _, _, _, _ => none
  | k + 1, x6, x7, x197000, x197001, x197002, x197003, x197004, x197005, x197006 => if x7 < 4 then ((shuttleref06_Bit.f x6 6 x7).bind fun t200 => (if x7 = 0 then (shuttleref07_Step.l0 k x6 (0 + 1) x197000 x197001 x197002 t200 x197004 x197005 x197006) else (if x7 = 1 then (shuttleref07_Step.l0 k x6 (1 + 1) x197000 x197001 x197002 x197003 t200 x197005 x197006) else (if x7 = 2 then (shuttleref07_Step.l0 k x6 (2 + 1) x197000 x197001 x197002 x197003 x197004 t200 x197006) else (if x7 = 3 then (shuttleref07_Step.l0 k x6 (3 + 1) x197000 x197001 x197002 x197003 x197004 x197005 t200) else (none)))))) else (some (x197000, x197001, x197002, x197003, x197004, x197005, x197006))
def shuttleref07_Step.f (k : Nat) (a0 : Int) (a1 : Int) : Option (Int × Int × Int × Int × Int × Int × Int) := (shuttleref06_List.f k a0 a1).bind fun t197 => (shuttleref07_Step.l0 k t197 0 a0 (wrap64 ((wrap64 (Int.tdiv a0 2)) + (wrap64 (32 * (wrap64 (a1)))))) a1 0 0 0 0)
theorem shuttleref07_Step.mono_l : ∀ k, (∀ y0 y1 y2 y3 y4 y5 y6 y7 y8, LeO (shuttleref07_Step.l0 k y0 y1 y2 y3 y4 y5 y6 y7 y8) (shuttleref07_Step.l0 (k + 1) y0 y1 y2 y3 y4 y5 y6 y7 y8))
  | 0 => fun _ _ _ _ _ _ _ _ _ r h => by simp [shuttleref07_Step.l0] at h
  | k + 1 => by
    have ih0 := shuttleref07_Step.mono_l k
    · intro y0 y1 y2 y3 y4 y5 y6 y7 y8
      unfold shuttleref07_Step.l0
      repeat' first
      | (with_reducible exact ih0 _ _ _ _ _ _ _ _ _)
      | (with_reducible exact shuttleref06_List.mono _ _ _)
      | (with_reducible exact LeO.refl _)
      | (with_reducible exact LeO.none _)
      | (with_reducible refine LeO.ite ?_ ?_)
      | (with_reducible refine LeO.bind ?_ (fun _ => ?_))
      | exact ih0 _ _ _ _ _ _ _ _ _
      | exact shuttleref06_List.mono _ _ _
      | exact LeO.none _
      | refine LeO.ite ?_ ?_
      | refine LeO.bind ?_ (fun _ => ?_)
theorem shuttleref07_Step.mono : ∀ a0 a1 k, LeO (shuttleref07_Step.f k a0 a1) (shuttleref07_Step.f (k + 1) a0 a1) := by
  intro a0 a1 k
  have ih0 := shuttleref07_Step.mono_l k
  unfold shuttleref07_Step.f
  repeat' first
      | (with_reducible exact ih0 _ _ _ _ _ _ _ _ _)
      | (with_reducible exact shuttleref06_List.mono _ _ _)
      | (with_reducible exact LeO.refl _)
      | (with_reducible exact LeO.none _)
      | (with_reducible refine LeO.ite ?_ ?_)
      | (with_reducible refine LeO.bind ?_ (fun _ => ?_))
      | exact ih0 _ _ _ _ _ _ _ _ _
      | exact shuttleref06_List.mono _ _ _
      | exact LeO.none _
      | refine LeO.ite ?_ ?_
      | refine LeO.bind ?_ (fun _ => ?_)
set_option maxHeartbeats 8000000 in
set_option maxRecDepth 100000 in
theorem shuttleref07_Step.calls (k : Nat) (a0 : Int) (a1 : Int) (r1 : Int) (r2 : Int) (r3 : Int) (r4 : Int) (r5 : Int) (r6 : Int) (r7 : Int) (w : World) (h : shuttleref07_Step.f k a0 a1 = some (r1, r2, r3, r4, r5, r6, r7)) :
    Calls Tryd.prog 13 #[.int .i64 a0, .int .u8 a1] w fun e w' => e = .returned (.agg #[.int .i64 r1, .int .i64 r2, .int .u8 r3, .int .u8 r4, .int .u8 r5, .int .u8 r6, .int .u8 r7]) ∧ Below w.heap.size w w' := by
  have hu31 := Tryd.underlying31
  have HB := Aside0.mk (Below.refl w.heap.size w)
  have H : ((shuttleref06_List.f k a0 a1).bind fun t197 => (shuttleref07_Step.l0 k t197 0 a0 (wrap64 ((wrap64 (Int.tdiv a0 2)) + (wrap64 (32 * (wrap64 (a1)))))) a1 0 0 0 0)) = some (r1, r2, r3, r4, r5, r6, r7) := h
  clear h
  replace H := Option.bind_eq_some_iff.mp H
  obtain ⟨t197, A30, H⟩ := H
  replace H : (shuttleref07_Step.l0 k t197 0 a0 (wrap64 ((wrap64 (Int.tdiv a0 2)) + (wrap64 (32 * (wrap64 (a1)))))) a1 0 0 0 0) = some (r1, r2, r3, r4, r5, r6, r7) := H
  have A3 := Aside0.mk A30
  clear A30
  have H' := Aside0.mk H
  clear H
  go_enter Tryd.func13, Tryd.ntmps13
  go_wp2_with (first | ((with_reducible refine gate_dst (N := 4) rfl ?_); refine box_event ?hg (N := 4) ?hd (cs := #[.int .i64 0, .int .i64 0, .int .u8 0, .int .u8 0, .int .u8 0, .int .u8 0, .int .u8 0]) (t := 31) ?hr ?_; (case hd => rfl); (case hg => rfl); (case hr => first | (go_simp; done) | (go_simp; rfl)); intro gb195 hg w4 hbox hb; have n0_ := Aside0.mk (below_step (by repeat (first | (with_reducible first | exact HB.out | apply below_alloc | apply pw_below_drewN | apply below_drew1) | exact HB.out)) hb); have n1_ := Aside0.mk (hbox); have n2_ := Aside0.mk ((by rw [hg]; exact (below_size (by repeat (first | (with_reducible first | exact HB.out | apply below_alloc | apply pw_below_drewN | apply below_drew1) | exact HB.out))) : w.heap.size ≤ gb195)); have n3_ := Aside0.mk ((by rw [hg]; exact (below_size (by repeat (first | (with_reducible first | exact HB.out | apply below_alloc | apply pw_below_drewN | apply below_drew1) | exact HB.out))) : w.heap.size ≤ gb195)); clear HB; have HB := n0_; have BK195 := n1_; have GW195 := n2_; have GE195 := n3_; clear n0_ n1_ n2_ n3_; clear hb hbox hg) | ((with_reducible refine gate_dst (N := 5) rfl ?_); refine box_event ?hg (N := 5) ?hd (cs := #[.int .i64 0, .int .i64 0, .int .u8 0, .int .u8 0, .int .u8 0, .int .u8 0, .int .u8 0]) (t := 31) ?hr ?_; (case hd => rfl); (case hg => rfl); (case hr => first | (go_simp; done) | (go_simp; rfl)); intro gb196 hg w5 hbox hb; have n0_ := Aside0.mk (blk_below (g := gb195) (o := .cells #[.int .i64 0, .int .i64 0, .int .u8 0, .int .u8 0, .int .u8 0, .int .u8 0, .int .u8 0] 31 (0, 0)) (by (with_reducible repeat (first | refine blk_drewN ?_ _ | refine blk_drew ?_ | refine blk_alloc ?_ _)); exact BK195.out) hb); have n1_ := Aside0.mk (below_step (by repeat (first | (with_reducible first | exact HB.out | apply below_alloc | apply pw_below_drewN | apply below_drew1 | refine below_set ?_ GE195.out) | exact HB.out)) hb); have n2_ := Aside0.mk (hbox); have n3_ := Aside0.mk ((by rw [hg]; exact (below_size (by repeat (first | (with_reducible first | exact HB.out | apply below_alloc | apply pw_below_drewN | apply below_drew1 | refine below_set ?_ GE195.out) | exact HB.out))) : w.heap.size ≤ gb196)); have n4_ := Aside0.mk ((by rw [hg]; exact (below_size (by repeat (first | (with_reducible first | exact HB.out | apply below_alloc | apply pw_below_drewN | apply below_drew1 | refine below_set ?_ GE195.out) | exact HB.out))) : w.heap.size ≤ gb196)); have n5_ := Aside0.mk ((by rw [hg]; exact Nat.ne_of_lt (blk_lt (g := gb195) (o := .cells #[.int .i64 0, .int .i64 0, .int .u8 0, .int .u8 0, .int .u8 0, .int .u8 0, .int .u8 0] 31 (0, 0)) (by (with_reducible repeat (first | refine blk_drewN ?_ _ | refine blk_drew ?_ | refine blk_alloc ?_ _)); exact BK195.out)) : gb195 ≠ gb196)); have n6_ := Aside0.mk ((by rw [hg]; exact Nat.ne_of_gt (blk_lt (g := gb195) (o := .cells #[.int .i64 0, .int .i64 0, .int .u8 0, .int .u8 0, .int .u8 0, .int .u8 0, .int .u8 0] 31 (0, 0)) (by (with_reducible repeat (first | refine blk_drewN ?_ _ | refine blk_drew ?_ | refine blk_alloc ?_ _)); exact BK195.out)) : gb196 ≠ gb195)); clear BK195; clear HB; have BK195 := n0_; have HB := n1_; have BK196 := n2_; have GW196 := n3_; have GE196 := n4_; have NB195_196 := n5_; have NB196_195 := n6_; clear n0_ n1_ n2_ n3_ n4_ n5_ n6_; clear hb hbox hg; have hnb6 := NB196_195.out; have hnc6 := NB195_196.out; have hcz7_0 : w5.cell? ⟨gb196, 0, none⟩ = some (.int .i64 0) := (blk_cell BK196.out 0).trans rfl; have hcz7_1 : w5.cell? ⟨gb196, 1, none⟩ = some (.int .i64 0) := (blk_cell BK196.out 1).trans rfl; have hcz7_2 : w5.cell? ⟨gb196, 2, none⟩ = some (.int .u8 0) := (blk_cell BK196.out 2).trans rfl; have hcz7_3 : w5.cell? ⟨gb196, 3, none⟩ = some (.int .u8 0) := (blk_cell BK196.out 3).trans rfl; have hcz7_4 : w5.cell? ⟨gb196, 4, none⟩ = some (.int .u8 0) := (blk_cell BK196.out 4).trans rfl; have hcz7_5 : w5.cell? ⟨gb196, 5, none⟩ = some (.int .u8 0) := (blk_cell BK196.out 5).trans rfl; have hcz7_6 : w5.cell? ⟨gb196, 6, none⟩ = some (.int .u8 0) := (blk_cell BK196.out 6).trans rfl; have hfz7_0 := blk_frozen BK196.out 0; have hfz7_1 := blk_frozen BK196.out 1; have hfz7_2 := blk_frozen BK196.out 2; have hfz7_3 := blk_frozen BK196.out 3; have hfz7_4 := blk_frozen BK196.out 4; have hfz7_5 := blk_frozen BK196.out 5; have hfz7_6 := blk_frozen BK196.out 6) | ((with_reducible refine gate_callee (f := 26) rfl ?_); refine goesL_ (some 19) rfl rfl Tryd.func26 (by kernel_rfl) rfl #[.int .i64 a0, .int .u8 a1] rfl (by (try simp only [List.map_toArray, List.map_cons, List.map_nil]); first | done | rfl | (simp only [List.length_drop, List.length_take]; rfl)) ?_; (with_reducible refine (shuttleref06_List.calls k a0 a1 t197 _ A3.out).mono ?_); rintro e w8 ⟨v198, rfl, ho0, hb⟩; refine ⟨_, rfl, ?_⟩; have n0_ := Aside0.mk (Kd.R_lower ho0 (below_size (by repeat (first | (with_reducible first | exact HB.out | apply below_alloc | apply pw_below_drewN | apply below_drew1 | refine below_set ?_ GE195.out | refine below_set ?_ GE196.out) | exact HB.out)))); have n1_ := Aside0.mk (blk_below (g := gb195) (o := .cells #[.int .i64 0, .int .i64 0, .int .u8 0, .int .u8 0, .int .u8 0, .int .u8 0, .int .u8 0] 31 (0, 0)) (by (with_reducible repeat (first | refine blk_drewN ?_ _ | refine blk_drew ?_ | refine blk_alloc ?_ _)); refine blk_far ?_ NB195_196.out _; (with_reducible repeat (first | refine blk_drewN ?_ _ | refine blk_drew ?_ | refine blk_alloc ?_ _)); refine blk_far ?_ NB195_196.out _; (with_reducible repeat (first | refine blk_drewN ?_ _ | refine blk_drew ?_ | refine blk_alloc ?_ _)); refine blk_far ?_ NB195_196.out _; (with_reducible repeat (first | refine blk_drewN ?_ _ | refine blk_drew ?_ | refine blk_alloc ?_ _)); refine blk_far ?_ NB195_196.out _; (with_reducible repeat (first | refine blk_drewN ?_ _ | refine blk_drew ?_ | refine blk_alloc ?_ _)); refine blk_far ?_ NB195_196.out _; (with_reducible repeat (first | refine blk_drewN ?_ _ | refine blk_drew ?_ | refine blk_alloc ?_ _)); refine blk_far ?_ NB195_196.out _; (with_reducible repeat (first | refine blk_drewN ?_ _ | refine blk_drew ?_ | refine blk_alloc ?_ _)); refine blk_far ?_ NB195_196.out _; (with_reducible repeat (first | refine blk_drewN ?_ _ | refine blk_drew ?_ | refine blk_alloc ?_ _)); exact BK195.out) hb); have n2_ := Aside0.mk (blk_below (g := gb196) (o := .cells #[.int .i64 a0, .int .i64 (wrap64 ((wrap64 (Int.tdiv a0 2)) + (wrap64 (32 * (wrap64 (a1)))))), .int .u8 a1, .int .u8 0, .int .u8 0, .int .u8 0, .int .u8 0] 31 (0, 0)) (by (with_reducible repeat (first | refine blk_drewN ?_ _ | refine blk_drew ?_ | refine blk_alloc ?_ _)); refine blk_put (cs := #[.int .i64 a0, .int .i64 (wrap64 ((wrap64 (Int.tdiv a0 2)) + (wrap64 (32 * (wrap64 (a1)))))), .int .u8 a1, .int .u8 0, .int .u8 0, .int .u8 0, .int .u8 0]) ?_ 6 _ rfl; (with_reducible repeat (first | refine blk_drewN ?_ _ | refine blk_drew ?_ | refine blk_alloc ?_ _)); refine blk_put (cs := #[.int .i64 a0, .int .i64 (wrap64 ((wrap64 (Int.tdiv a0 2)) + (wrap64 (32 * (wrap64 (a1)))))), .int .u8 a1, .int .u8 0, .int .u8 0, .int .u8 0, .int .u8 0]) ?_ 5 _ rfl; (with_reducible repeat (first | refine blk_drewN ?_ _ | refine blk_drew ?_ | refine blk_alloc ?_ _)); refine blk_put (cs := #[.int .i64 a0, .int .i64 (wrap64 ((wrap64 (Int.tdiv a0 2)) + (wrap64 (32 * (wrap64 (a1)))))), .int .u8 a1, .int .u8 0, .int .u8 0, .int .u8 0, .int .u8 0]) ?_ 4 _ rfl; (with_reducible repeat (first | refine blk_drewN ?_ _ | refine blk_drew ?_ | refine blk_alloc ?_ _)); refine blk_put (cs := #[.int .i64 a0, .int .i64 (wrap64 ((wrap64 (Int.tdiv a0 2)) + (wrap64 (32 * (wrap64 (a1)))))), .int .u8 a1, .int .u8 0, .int .u8 0, .int .u8 0, .int .u8 0]) ?_ 3 _ rfl; (with_reducible repeat (first | refine blk_drewN ?_ _ | refine blk_drew ?_ | refine blk_alloc ?_ _)); refine blk_put (cs := #[.int .i64 a0, .int .i64 (wrap64 ((wrap64 (Int.tdiv a0 2)) + (wrap64 (32 * (wrap64 (a1)))))), .int .u8 0, .int .u8 0, .int .u8 0, .int .u8 0, .int .u8 0]) ?_ 2 _ rfl; (with_reducible repeat (first | refine blk_drewN ?_ _ | refine blk_drew ?_ | refine blk_alloc ?_ _)); refine blk_put (cs := #[.int .i64 a0, .int .i64 0, .int .u8 0, .int .u8 0, .int .u8 0, .int .u8 0, .int .u8 0]) ?_ 1 _ rfl; (with_reducible repeat (first | refine blk_drewN ?_ _ | refine blk_drew ?_ | refine blk_alloc ?_ _)); refine blk_put (cs := #[.int .i64 0, .int .i64 0, .int .u8 0, .int .u8 0, .int .u8 0, .int .u8 0, .int .u8 0]) ?_ 0 _ rfl; (with_reducible repeat (first | refine blk_drewN ?_ _ | refine blk_drew ?_ | refine blk_alloc ?_ _)); exact BK196.out) hb); have n3_ := Aside0.mk (below_step (by repeat (first | (with_reducible first | exact HB.out | apply below_alloc | apply pw_below_drewN | apply below_drew1 | refine below_set ?_ GE195.out | refine below_set ?_ GE196.out) | exact HB.out)) hb); clear BK195; clear BK196; clear HB; have HO199 := n0_; have BK195 := n1_; have BK196 := n2_; have HB := n3_; clear n0_ n1_ n2_ n3_; (try clear hb); (try clear hb2); (try clear hk); (try clear hi); (try clear ho0)))
  go_loopg [7] k (fun kq v7 w' => ∃ (x7_1 : Int) (x197003_1 : Int) (x197004_1 : Int) (x197005_1 : Int) (x197006_1 : Int), v7 = .int .i64 x7_1 ∧ Aside0 (shuttleref07_Step.l0 kq t197 x7_1 a0 (wrap64 ((wrap64 (Int.tdiv a0 2)) + (wrap64 (32 * (wrap64 (a1)))))) a1 x197003_1 x197004_1 x197005_1 x197006_1 = some (r1, r2, r3, r4, r5, r6, r7)) ∧ Aside0 (kq ≤ k) ∧ Aside0 (Kd.R (Kd.int .u8) 5 w' w.heap.size (fun _ => True) v198 t197) ∧ Aside0 (w'.heap[gb195]? = some (.cells #[.int .i64 0, .int .i64 0, .int .u8 0, .int .u8 0, .int .u8 0, .int .u8 0, .int .u8 0] 31 (0, 0))) ∧ Aside0 (w'.heap[gb196]? = some (.cells #[.int .i64 a0, .int .i64 (wrap64 ((wrap64 (Int.tdiv a0 2)) + (wrap64 (32 * (wrap64 (a1)))))), .int .u8 a1, .int .u8 x197003_1, .int .u8 x197004_1, .int .u8 x197005_1, .int .u8 x197006_1] 31 (0, 0))) ∧ Aside0 (Below w.heap.size w w'))
  case atStart => exact ⟨(0), (0), (0), (0), (0), (by first | rfl | (simp; done) | (simp [*]; done)), H', ⟨Nat.le_refl _⟩, ⟨by (with_reducible repeat (first | apply Kd.R_alloc | apply Kd.R_drewN | apply Kd.R_drew)); exact HO199.out⟩, ⟨by (with_reducible repeat (first | refine blk_drewN ?_ _ | refine blk_drew ?_ | refine blk_alloc ?_ _)); exact BK195.out⟩, ⟨by (with_reducible repeat (first | refine blk_drewN ?_ _ | refine blk_drew ?_ | refine blk_alloc ?_ _)); exact BK196.out⟩, ⟨by repeat (first | (with_reducible first | exact HB.out | apply below_alloc | apply pw_below_drewN | apply below_drew1 | refine below_set ?_ GE195.out | refine below_set ?_ GE196.out) | exact HB.out)⟩⟩
  case round =>
    clear H'
    try clear c1
    try clear c2
    try clear p2
    try clear c6
    try clear p6
    try clear hcz7_0
    try clear hcz7_1
    try clear hcz7_2
    try clear hcz7_3
    try clear hcz7_4
    try clear hcz7_5
    try clear hcz7_6
    try clear hfz7_0
    try clear hfz7_1
    try clear hfz7_2
    try clear hfz7_3
    try clear hfz7_4
    try clear hfz7_5
    try clear hfz7_6
    obtain ⟨x7_1, x197003_1, x197004_1, x197005_1, x197006_1, rfl, HA, HK1, HO_6, BK195, BK196, HB⟩ := hrel
    cases gk with
    | zero => exact absurd HA.out (by simp [shuttleref07_Step.l0])
    | succ k1 =>
      have H := HA.out
      clear HA
      simp only [shuttleref07_Step.l0] at H
      by_cases c9 : x7_1 < 4
      · rw [if_pos c9] at H
        have c9b0 : decide (x7_1 < 4) = true := decide_eq_true c9
        clear c9
        replace H := Option.bind_eq_some_iff.mp H
        obtain ⟨t200, A100, H⟩ := H
        replace H : (if x7_1 = 0 then (shuttleref07_Step.l0 k1 t197 (0 + 1) a0 (wrap64 ((wrap64 (Int.tdiv a0 2)) + (wrap64 (32 * (wrap64 (a1)))))) a1 t200 x197004_1 x197005_1 x197006_1) else (if x7_1 = 1 then (shuttleref07_Step.l0 k1 t197 (1 + 1) a0 (wrap64 ((wrap64 (Int.tdiv a0 2)) + (wrap64 (32 * (wrap64 (a1)))))) a1 x197003_1 t200 x197005_1 x197006_1) else (if x7_1 = 2 then (shuttleref07_Step.l0 k1 t197 (2 + 1) a0 (wrap64 ((wrap64 (Int.tdiv a0 2)) + (wrap64 (32 * (wrap64 (a1)))))) a1 x197003_1 x197004_1 t200 x197006_1) else (if x7_1 = 3 then (shuttleref07_Step.l0 k1 t197 (3 + 1) a0 (wrap64 ((wrap64 (Int.tdiv a0 2)) + (wrap64 (32 * (wrap64 (a1)))))) a1 x197003_1 x197004_1 x197005_1 t200) else (none))))) = some (r1, r2, r3, r4, r5, r6, r7) := H
        have A10 := Aside0.mk A100
        clear A100
        by_cases c11 : x7_1 = 0
        · rw [if_pos c11] at H
          subst c11
          have H' := Aside0.mk H
          clear H
          obtain ⟨Ao12, co12, eo12⟩ := Kd.R_slice HO_6.out
          subst eo12
          go_wp2_with (first | ((with_reducible refine gate_callee (f := 27) rfl ?_); refine goesL_ (some 27) rfl rfl Tryd.func27 (by kernel_rfl) rfl #[.slice Ao12 t197.length co12, .int .i64 6, .int .i64 0] rfl (by (try simp only [List.map_toArray, List.map_cons, List.map_nil]); first | done | rfl | (simp only [List.length_drop, List.length_take]; rfl)) ?_; (with_reducible refine (shuttleref06_Bit.calls _ _ t197 6 0 t200 _ ?side1 ?side2 A10.out).mono ?_); (case side1 => repeat (first | exact (Kd.R_reads' HO_6.out).2.2 | (with_reducible refine Kd.C_alloc ?_ _) | (with_reducible refine Kd.C_drewN ?_ _) | (with_reducible refine Kd.C_drew ?_))); (case side2 => exact (Kd.R_reads' HO_6.out).2.1); rintro e w13 ⟨rfl, hb⟩; refine ⟨_, rfl, ?_⟩; have n0_ := Aside0.mk (Kd.R_below (by (with_reducible repeat (first | apply Kd.R_alloc | apply Kd.R_drewN | apply Kd.R_drew)); exact HO_6.out) hb); have n1_ := Aside0.mk (blk_below (g := gb195) (o := .cells #[.int .i64 0, .int .i64 0, .int .u8 0, .int .u8 0, .int .u8 0, .int .u8 0, .int .u8 0] 31 (0, 0)) (by (with_reducible repeat (first | refine blk_drewN ?_ _ | refine blk_drew ?_ | refine blk_alloc ?_ _)); exact BK195.out) hb); have n2_ := Aside0.mk (blk_below (g := gb196) (o := .cells #[.int .i64 a0, .int .i64 (wrap64 ((wrap64 (Int.tdiv a0 2)) + (wrap64 (32 * (wrap64 (a1)))))), .int .u8 a1, .int .u8 x197003_1, .int .u8 x197004_1, .int .u8 x197005_1, .int .u8 x197006_1] 31 (0, 0)) (by (with_reducible repeat (first | refine blk_drewN ?_ _ | refine blk_drew ?_ | refine blk_alloc ?_ _)); exact BK196.out) hb); have n3_ := Aside0.mk (below_step (by repeat (first | (with_reducible first | exact HB.out | apply below_alloc | apply pw_below_drewN | apply below_drew1 | refine below_set ?_ GE195.out | refine below_set ?_ GE196.out) | exact HB.out)) hb); clear HO_6; clear BK195; clear BK196; clear HB; have HO_6 := n0_; have BK195 := n1_; have BK196 := n2_; have HB := n3_; clear n0_ n1_ n2_ n3_; (try clear hb); (try clear hb2); (try clear hk); (try clear hi); have hnb14 := NB196_195.out; have hnc14 := NB195_196.out; have hcz15_0 : w13.cell? ⟨gb196, 0, none⟩ = some (.int .i64 a0) := (blk_cell BK196.out 0).trans rfl; have hcz15_1 : w13.cell? ⟨gb196, 1, none⟩ = some (.int .i64 (wrap64 ((wrap64 (Int.tdiv a0 2)) + (wrap64 (32 * (wrap64 (a1))))))) := (blk_cell BK196.out 1).trans rfl; have hcz15_2 : w13.cell? ⟨gb196, 2, none⟩ = some (.int .u8 a1) := (blk_cell BK196.out 2).trans rfl; have hcz15_3 : w13.cell? ⟨gb196, 3, none⟩ = some (.int .u8 x197003_1) := (blk_cell BK196.out 3).trans rfl; have hcz15_4 : w13.cell? ⟨gb196, 4, none⟩ = some (.int .u8 x197004_1) := (blk_cell BK196.out 4).trans rfl; have hcz15_5 : w13.cell? ⟨gb196, 5, none⟩ = some (.int .u8 x197005_1) := (blk_cell BK196.out 5).trans rfl; have hcz15_6 : w13.cell? ⟨gb196, 6, none⟩ = some (.int .u8 x197006_1) := (blk_cell BK196.out 6).trans rfl; have hfz15_0 := blk_frozen BK196.out 0; have hfz15_1 := blk_frozen BK196.out 1; have hfz15_2 := blk_frozen BK196.out 2; have hfz15_3 := blk_frozen BK196.out 3; have hfz15_4 := blk_frozen BK196.out 4; have hfz15_5 := blk_frozen BK196.out 5; have hfz15_6 := blk_frozen BK196.out 6))
          go_roundg k1
          case measure => have := HK1.out; omega
          case rel => exact ⟨(0 + 1), (t200), (x197004_1), (x197005_1), (x197006_1), (by first | rfl | (simp; done) | (simp [*]; done)), H', ⟨by have := HK1.out; omega⟩, ⟨by (with_reducible repeat (first | apply Kd.R_alloc | apply Kd.R_drewN | apply Kd.R_drew)); exact Kd.R_mono (Kd.R_far (p := ⟨gb196, 3, none⟩) (Kd.R_types HO_6.out BK196.out (by decide)) (fun _ hk => hk.2) (.int .u8 t200)) (fun _ hk => trivial)⟩, ⟨by (with_reducible repeat (first | refine blk_drewN ?_ _ | refine blk_drew ?_ | refine blk_alloc ?_ _)); refine blk_far ?_ NB195_196.out _; (with_reducible repeat (first | refine blk_drewN ?_ _ | refine blk_drew ?_ | refine blk_alloc ?_ _)); exact BK195.out⟩, ⟨by (with_reducible repeat (first | refine blk_drewN ?_ _ | refine blk_drew ?_ | refine blk_alloc ?_ _)); refine blk_put (cs := #[.int .i64 a0, .int .i64 (wrap64 ((wrap64 (Int.tdiv a0 2)) + (wrap64 (32 * (wrap64 (a1)))))), .int .u8 a1, .int .u8 x197003_1, .int .u8 x197004_1, .int .u8 x197005_1, .int .u8 x197006_1]) ?_ 3 _ rfl; (with_reducible repeat (first | refine blk_drewN ?_ _ | refine blk_drew ?_ | refine blk_alloc ?_ _)); exact BK196.out⟩, ⟨by repeat (first | (with_reducible first | exact HB.out | apply below_alloc | apply pw_below_drewN | apply below_drew1 | refine below_set ?_ GE195.out | refine below_set ?_ GE196.out) | exact HB.out)⟩⟩
        · rw [if_neg c11] at H
          clear c11
          by_cases c16 : x7_1 = 1
          · rw [if_pos c16] at H
            subst c16
            have H' := Aside0.mk H
            clear H
            obtain ⟨Ao17, co17, eo17⟩ := Kd.R_slice HO_6.out
            subst eo17
            go_wp2_with (first | ((with_reducible refine gate_callee (f := 27) rfl ?_); refine goesL_ (some 27) rfl rfl Tryd.func27 (by kernel_rfl) rfl #[.slice Ao17 t197.length co17, .int .i64 6, .int .i64 1] rfl (by (try simp only [List.map_toArray, List.map_cons, List.map_nil]); first | done | rfl | (simp only [List.length_drop, List.length_take]; rfl)) ?_; (with_reducible refine (shuttleref06_Bit.calls _ _ t197 6 1 t200 _ ?side1 ?side2 A10.out).mono ?_); (case side1 => repeat (first | exact (Kd.R_reads' HO_6.out).2.2 | (with_reducible refine Kd.C_alloc ?_ _) | (with_reducible refine Kd.C_drewN ?_ _) | (with_reducible refine Kd.C_drew ?_))); (case side2 => exact (Kd.R_reads' HO_6.out).2.1); rintro e w18 ⟨rfl, hb⟩; refine ⟨_, rfl, ?_⟩; have n0_ := Aside0.mk (Kd.R_below (by (with_reducible repeat (first | apply Kd.R_alloc | apply Kd.R_drewN | apply Kd.R_drew)); exact HO_6.out) hb); have n1_ := Aside0.mk (blk_below (g := gb195) (o := .cells #[.int .i64 0, .int .i64 0, .int .u8 0, .int .u8 0, .int .u8 0, .int .u8 0, .int .u8 0] 31 (0, 0)) (by (with_reducible repeat (first | refine blk_drewN ?_ _ | refine blk_drew ?_ | refine blk_alloc ?_ _)); exact BK195.out) hb); have n2_ := Aside0.mk (blk_below (g := gb196) (o := .cells #[.int .i64 a0, .int .i64 (wrap64 ((wrap64 (Int.tdiv a0 2)) + (wrap64 (32 * (wrap64 (a1)))))), .int .u8 a1, .int .u8 x197003_1, .int .u8 x197004_1, .int .u8 x197005_1, .int .u8 x197006_1] 31 (0, 0)) (by (with_reducible repeat (first | refine blk_drewN ?_ _ | refine blk_drew ?_ | refine blk_alloc ?_ _)); exact BK196.out) hb); have n3_ := Aside0.mk (below_step (by repeat (first | (with_reducible first | exact HB.out | apply below_alloc | apply pw_below_drewN | apply below_drew1 | refine below_set ?_ GE195.out | refine below_set ?_ GE196.out) | exact HB.out)) hb); clear HO_6; clear BK195; clear BK196; clear HB; have HO_6 := n0_; have BK195 := n1_; have BK196 := n2_; have HB := n3_; clear n0_ n1_ n2_ n3_; (try clear hb); (try clear hb2); (try clear hk); (try clear hi); have hnb19 := NB196_195.out; have hnc19 := NB195_196.out; have hcz20_0 : w18.cell? ⟨gb196, 0, none⟩ = some (.int .i64 a0) := (blk_cell BK196.out 0).trans rfl; have hcz20_1 : w18.cell? ⟨gb196, 1, none⟩ = some (.int .i64 (wrap64 ((wrap64 (Int.tdiv a0 2)) + (wrap64 (32 * (wrap64 (a1))))))) := (blk_cell BK196.out 1).trans rfl; have hcz20_2 : w18.cell? ⟨gb196, 2, none⟩ = some (.int .u8 a1) := (blk_cell BK196.out 2).trans rfl; have hcz20_3 : w18.cell? ⟨gb196, 3, none⟩ = some (.int .u8 x197003_1) := (blk_cell BK196.out 3).trans rfl; have hcz20_4 : w18.cell? ⟨gb196, 4, none⟩ = some (.int .u8 x197004_1) := (blk_cell BK196.out 4).trans rfl; have hcz20_5 : w18.cell? ⟨gb196, 5, none⟩ = some (.int .u8 x197005_1) := (blk_cell BK196.out 5).trans rfl; have hcz20_6 : w18.cell? ⟨gb196, 6, none⟩ = some (.int .u8 x197006_1) := (blk_cell BK196.out 6).trans rfl; have hfz20_0 := blk_frozen BK196.out 0; have hfz20_1 := blk_frozen BK196.out 1; have hfz20_2 := blk_frozen BK196.out 2; have hfz20_3 := blk_frozen BK196.out 3; have hfz20_4 := blk_frozen BK196.out 4; have hfz20_5 := blk_frozen BK196.out 5; have hfz20_6 := blk_frozen BK196.out 6))
            go_roundg k1
            case measure => have := HK1.out; omega
            case rel => exact ⟨(1 + 1), (x197003_1), (t200), (x197005_1), (x197006_1), (by first | rfl | (simp; done) | (simp [*]; done)), H', ⟨by have := HK1.out; omega⟩, ⟨by (with_reducible repeat (first | apply Kd.R_alloc | apply Kd.R_drewN | apply Kd.R_drew)); exact Kd.R_mono (Kd.R_far (p := ⟨gb196, 4, none⟩) (Kd.R_types HO_6.out BK196.out (by decide)) (fun _ hk => hk.2) (.int .u8 t200)) (fun _ hk => trivial)⟩, ⟨by (with_reducible repeat (first | refine blk_drewN ?_ _ | refine blk_drew ?_ | refine blk_alloc ?_ _)); refine blk_far ?_ NB195_196.out _; (with_reducible repeat (first | refine blk_drewN ?_ _ | refine blk_drew ?_ | refine blk_alloc ?_ _)); exact BK195.out⟩, ⟨by (with_reducible repeat (first | refine blk_drewN ?_ _ | refine blk_drew ?_ | refine blk_alloc ?_ _)); refine blk_put (cs := #[.int .i64 a0, .int .i64 (wrap64 ((wrap64 (Int.tdiv a0 2)) + (wrap64 (32 * (wrap64 (a1)))))), .int .u8 a1, .int .u8 x197003_1, .int .u8 x197004_1, .int .u8 x197005_1, .int .u8 x197006_1]) ?_ 4 _ rfl; (with_reducible repeat (first | refine blk_drewN ?_ _ | refine blk_drew ?_ | refine blk_alloc ?_ _)); exact BK196.out⟩, ⟨by repeat (first | (with_reducible first | exact HB.out | apply below_alloc | apply pw_below_drewN | apply below_drew1 | refine below_set ?_ GE195.out | refine below_set ?_ GE196.out) | exact HB.out)⟩⟩
          · rw [if_neg c16] at H
            clear c16
            by_cases c21 : x7_1 = 2
            · rw [if_pos c21] at H
              subst c21
              have H' := Aside0.mk H
              clear H
              obtain ⟨Ao22, co22, eo22⟩ := Kd.R_slice HO_6.out
              subst eo22
              go_wp2_with (first | ((with_reducible refine gate_callee (f := 27) rfl ?_); refine goesL_ (some 27) rfl rfl Tryd.func27 (by kernel_rfl) rfl #[.slice Ao22 t197.length co22, .int .i64 6, .int .i64 2] rfl (by (try simp only [List.map_toArray, List.map_cons, List.map_nil]); first | done | rfl | (simp only [List.length_drop, List.length_take]; rfl)) ?_; (with_reducible refine (shuttleref06_Bit.calls _ _ t197 6 2 t200 _ ?side1 ?side2 A10.out).mono ?_); (case side1 => repeat (first | exact (Kd.R_reads' HO_6.out).2.2 | (with_reducible refine Kd.C_alloc ?_ _) | (with_reducible refine Kd.C_drewN ?_ _) | (with_reducible refine Kd.C_drew ?_))); (case side2 => exact (Kd.R_reads' HO_6.out).2.1); rintro e w23 ⟨rfl, hb⟩; refine ⟨_, rfl, ?_⟩; have n0_ := Aside0.mk (Kd.R_below (by (with_reducible repeat (first | apply Kd.R_alloc | apply Kd.R_drewN | apply Kd.R_drew)); exact HO_6.out) hb); have n1_ := Aside0.mk (blk_below (g := gb195) (o := .cells #[.int .i64 0, .int .i64 0, .int .u8 0, .int .u8 0, .int .u8 0, .int .u8 0, .int .u8 0] 31 (0, 0)) (by (with_reducible repeat (first | refine blk_drewN ?_ _ | refine blk_drew ?_ | refine blk_alloc ?_ _)); exact BK195.out) hb); have n2_ := Aside0.mk (blk_below (g := gb196) (o := .cells #[.int .i64 a0, .int .i64 (wrap64 ((wrap64 (Int.tdiv a0 2)) + (wrap64 (32 * (wrap64 (a1)))))), .int .u8 a1, .int .u8 x197003_1, .int .u8 x197004_1, .int .u8 x197005_1, .int .u8 x197006_1] 31 (0, 0)) (by (with_reducible repeat (first | refine blk_drewN ?_ _ | refine blk_drew ?_ | refine blk_alloc ?_ _)); exact BK196.out) hb); have n3_ := Aside0.mk (below_step (by repeat (first | (with_reducible first | exact HB.out | apply below_alloc | apply pw_below_drewN | apply below_drew1 | refine below_set ?_ GE195.out | refine below_set ?_ GE196.out) | exact HB.out)) hb); clear HO_6; clear BK195; clear BK196; clear HB; have HO_6 := n0_; have BK195 := n1_; have BK196 := n2_; have HB := n3_; clear n0_ n1_ n2_ n3_; (try clear hb); (try clear hb2); (try clear hk); (try clear hi); have hnb24 := NB196_195.out; have hnc24 := NB195_196.out; have hcz25_0 : w23.cell? ⟨gb196, 0, none⟩ = some (.int .i64 a0) := (blk_cell BK196.out 0).trans rfl; have hcz25_1 : w23.cell? ⟨gb196, 1, none⟩ = some (.int .i64 (wrap64 ((wrap64 (Int.tdiv a0 2)) + (wrap64 (32 * (wrap64 (a1))))))) := (blk_cell BK196.out 1).trans rfl; have hcz25_2 : w23.cell? ⟨gb196, 2, none⟩ = some (.int .u8 a1) := (blk_cell BK196.out 2).trans rfl; have hcz25_3 : w23.cell? ⟨gb196, 3, none⟩ = some (.int .u8 x197003_1) := (blk_cell BK196.out 3).trans rfl; have hcz25_4 : w23.cell? ⟨gb196, 4, none⟩ = some (.int .u8 x197004_1) := (blk_cell BK196.out 4).trans rfl; have hcz25_5 : w23.cell? ⟨gb196, 5, none⟩ = some (.int .u8 x197005_1) := (blk_cell BK196.out 5).trans rfl; have hcz25_6 : w23.cell? ⟨gb196, 6, none⟩ = some (.int .u8 x197006_1) := (blk_cell BK196.out 6).trans rfl; have hfz25_0 := blk_frozen BK196.out 0; have hfz25_1 := blk_frozen BK196.out 1; have hfz25_2 := blk_frozen BK196.out 2; have hfz25_3 := blk_frozen BK196.out 3; have hfz25_4 := blk_frozen BK196.out 4; have hfz25_5 := blk_frozen BK196.out 5; have hfz25_6 := blk_frozen BK196.out 6))
              go_roundg k1
              case measure => have := HK1.out; omega
              case rel => exact ⟨(2 + 1), (x197003_1), (x197004_1), (t200), (x197006_1), (by first | rfl | (simp; done) | (simp [*]; done)), H', ⟨by have := HK1.out; omega⟩, ⟨by (with_reducible repeat (first | apply Kd.R_alloc | apply Kd.R_drewN | apply Kd.R_drew)); exact Kd.R_mono (Kd.R_far (p := ⟨gb196, 5, none⟩) (Kd.R_types HO_6.out BK196.out (by decide)) (fun _ hk => hk.2) (.int .u8 t200)) (fun _ hk => trivial)⟩, ⟨by (with_reducible repeat (first | refine blk_drewN ?_ _ | refine blk_drew ?_ | refine blk_alloc ?_ _)); refine blk_far ?_ NB195_196.out _; (with_reducible repeat (first | refine blk_drewN ?_ _ | refine blk_drew ?_ | refine blk_alloc ?_ _)); exact BK195.out⟩, ⟨by (with_reducible repeat (first | refine blk_drewN ?_ _ | refine blk_drew ?_ | refine blk_alloc ?_ _)); refine blk_put (cs := #[.int .i64 a0, .int .i64 (wrap64 ((wrap64 (Int.tdiv a0 2)) + (wrap64 (32 * (wrap64 (a1)))))), .int .u8 a1, .int .u8 x197003_1, .int .u8 x197004_1, .int .u8 x197005_1, .int .u8 x197006_1]) ?_ 5 _ rfl; (with_reducible repeat (first | refine blk_drewN ?_ _ | refine blk_drew ?_ | refine blk_alloc ?_ _)); exact BK196.out⟩, ⟨by repeat (first | (with_reducible first | exact HB.out | apply below_alloc | apply pw_below_drewN | apply below_drew1 | refine below_set ?_ GE195.out | refine below_set ?_ GE196.out) | exact HB.out)⟩⟩
            · rw [if_neg c21] at H
              clear c21
              by_cases c26 : x7_1 = 3
              · rw [if_pos c26] at H
                subst c26
                have H' := Aside0.mk H
                clear H
                obtain ⟨Ao27, co27, eo27⟩ := Kd.R_slice HO_6.out
                subst eo27
                go_wp2_with (first | ((with_reducible refine gate_callee (f := 27) rfl ?_); refine goesL_ (some 27) rfl rfl Tryd.func27 (by kernel_rfl) rfl #[.slice Ao27 t197.length co27, .int .i64 6, .int .i64 3] rfl (by (try simp only [List.map_toArray, List.map_cons, List.map_nil]); first | done | rfl | (simp only [List.length_drop, List.length_take]; rfl)) ?_; (with_reducible refine (shuttleref06_Bit.calls _ _ t197 6 3 t200 _ ?side1 ?side2 A10.out).mono ?_); (case side1 => repeat (first | exact (Kd.R_reads' HO_6.out).2.2 | (with_reducible refine Kd.C_alloc ?_ _) | (with_reducible refine Kd.C_drewN ?_ _) | (with_reducible refine Kd.C_drew ?_))); (case side2 => exact (Kd.R_reads' HO_6.out).2.1); rintro e w28 ⟨rfl, hb⟩; refine ⟨_, rfl, ?_⟩; have n0_ := Aside0.mk (Kd.R_below (by (with_reducible repeat (first | apply Kd.R_alloc | apply Kd.R_drewN | apply Kd.R_drew)); exact HO_6.out) hb); have n1_ := Aside0.mk (blk_below (g := gb195) (o := .cells #[.int .i64 0, .int .i64 0, .int .u8 0, .int .u8 0, .int .u8 0, .int .u8 0, .int .u8 0] 31 (0, 0)) (by (with_reducible repeat (first | refine blk_drewN ?_ _ | refine blk_drew ?_ | refine blk_alloc ?_ _)); exact BK195.out) hb); have n2_ := Aside0.mk (blk_below (g := gb196) (o := .cells #[.int .i64 a0, .int .i64 (wrap64 ((wrap64 (Int.tdiv a0 2)) + (wrap64 (32 * (wrap64 (a1)))))), .int .u8 a1, .int .u8 x197003_1, .int .u8 x197004_1, .int .u8 x197005_1, .int .u8 x197006_1] 31 (0, 0)) (by (with_reducible repeat (first | refine blk_drewN ?_ _ | refine blk_drew ?_ | refine blk_alloc ?_ _)); exact BK196.out) hb); have n3_ := Aside0.mk (below_step (by repeat (first | (with_reducible first | exact HB.out | apply below_alloc | apply pw_below_drewN | apply below_drew1 | refine below_set ?_ GE195.out | refine below_set ?_ GE196.out) | exact HB.out)) hb); clear HO_6; clear BK195; clear BK196; clear HB; have HO_6 := n0_; have BK195 := n1_; have BK196 := n2_; have HB := n3_; clear n0_ n1_ n2_ n3_; (try clear hb); (try clear hb2); (try clear hk); (try clear hi); have hnb29 := NB196_195.out; have hnc29 := NB195_196.out; have hcz30_0 : w28.cell? ⟨gb196, 0, none⟩ = some (.int .i64 a0) := (blk_cell BK196.out 0).trans rfl; have hcz30_1 : w28.cell? ⟨gb196, 1, none⟩ = some (.int .i64 (wrap64 ((wrap64 (Int.tdiv a0 2)) + (wrap64 (32 * (wrap64 (a1))))))) := (blk_cell BK196.out 1).trans rfl; have hcz30_2 : w28.cell? ⟨gb196, 2, none⟩ = some (.int .u8 a1) := (blk_cell BK196.out 2).trans rfl; have hcz30_3 : w28.cell? ⟨gb196, 3, none⟩ = some (.int .u8 x197003_1) := (blk_cell BK196.out 3).trans rfl; have hcz30_4 : w28.cell? ⟨gb196, 4, none⟩ = some (.int .u8 x197004_1) := (blk_cell BK196.out 4).trans rfl; have hcz30_5 : w28.cell? ⟨gb196, 5, none⟩ = some (.int .u8 x197005_1) := (blk_cell BK196.out 5).trans rfl; have hcz30_6 : w28.cell? ⟨gb196, 6, none⟩ = some (.int .u8 x197006_1) := (blk_cell BK196.out 6).trans rfl; have hfz30_0 := blk_frozen BK196.out 0; have hfz30_1 := blk_frozen BK196.out 1; have hfz30_2 := blk_frozen BK196.out 2; have hfz30_3 := blk_frozen BK196.out 3; have hfz30_4 := blk_frozen BK196.out 4; have hfz30_5 := blk_frozen BK196.out 5; have hfz30_6 := blk_frozen BK196.out 6))
                go_roundg k1
                case measure => have := HK1.out; omega
                case rel => exact ⟨(3 + 1), (x197003_1), (x197004_1), (x197005_1), (t200), (by first | rfl | (simp; done) | (simp [*]; done)), H', ⟨by have := HK1.out; omega⟩, ⟨by (with_reducible repeat (first | apply Kd.R_alloc | apply Kd.R_drewN | apply Kd.R_drew)); exact Kd.R_mono (Kd.R_far (p := ⟨gb196, 6, none⟩) (Kd.R_types HO_6.out BK196.out (by decide)) (fun _ hk => hk.2) (.int .u8 t200)) (fun _ hk => trivial)⟩, ⟨by (with_reducible repeat (first | refine blk_drewN ?_ _ | refine blk_drew ?_ | refine blk_alloc ?_ _)); refine blk_far ?_ NB195_196.out _; (with_reducible repeat (first | refine blk_drewN ?_ _ | refine blk_drew ?_ | refine blk_alloc ?_ _)); exact BK195.out⟩, ⟨by (with_reducible repeat (first | refine blk_drewN ?_ _ | refine blk_drew ?_ | refine blk_alloc ?_ _)); refine blk_put (cs := #[.int .i64 a0, .int .i64 (wrap64 ((wrap64 (Int.tdiv a0 2)) + (wrap64 (32 * (wrap64 (a1)))))), .int .u8 a1, .int .u8 x197003_1, .int .u8 x197004_1, .int .u8 x197005_1, .int .u8 x197006_1]) ?_ 6 _ rfl; (with_reducible repeat (first | refine blk_drewN ?_ _ | refine blk_drew ?_ | refine blk_alloc ?_ _)); exact BK196.out⟩, ⟨by repeat (first | (with_reducible first | exact HB.out | apply below_alloc | apply pw_below_drewN | apply below_drew1 | refine below_set ?_ GE195.out | refine below_set ?_ GE196.out) | exact HB.out)⟩⟩
              · rw [if_neg c26] at H
                clear c26
                exact absurd H (by simp)
      · rw [if_neg c9] at H
        have c9b0 : decide (x7_1 < 4) = false := decide_eq_false c9
        clear c9
        simp only [Option.some.injEq, Prod.mk.injEq] at H
        obtain ⟨rfl, rfl, rfl, rfl, rfl, rfl, rfl⟩ := H
        have hnb31 := NB196_195.out
        have hnc31 := NB195_196.out
        have hcz32_0 : wr.cell? ⟨gb196, 0, none⟩ = some (.int .i64 a0) := (blk_cell BK196.out 0).trans rfl
        have hcz32_1 : wr.cell? ⟨gb196, 1, none⟩ = some (.int .i64 (wrap64 ((wrap64 (Int.tdiv a0 2)) + (wrap64 (32 * (wrap64 (a1))))))) := (blk_cell BK196.out 1).trans rfl
        have hcz32_2 : wr.cell? ⟨gb196, 2, none⟩ = some (.int .u8 a1) := (blk_cell BK196.out 2).trans rfl
        have hcz32_3 : wr.cell? ⟨gb196, 3, none⟩ = some (.int .u8 x197003_1) := (blk_cell BK196.out 3).trans rfl
        have hcz32_4 : wr.cell? ⟨gb196, 4, none⟩ = some (.int .u8 x197004_1) := (blk_cell BK196.out 4).trans rfl
        have hcz32_5 : wr.cell? ⟨gb196, 5, none⟩ = some (.int .u8 x197005_1) := (blk_cell BK196.out 5).trans rfl
        have hcz32_6 : wr.cell? ⟨gb196, 6, none⟩ = some (.int .u8 x197006_1) := (blk_cell BK196.out 6).trans rfl
        have hfz32_0 := blk_frozen BK196.out 0
        have hfz32_1 := blk_frozen BK196.out 1
        have hfz32_2 := blk_frozen BK196.out 2
        have hfz32_3 := blk_frozen BK196.out 3
        have hfz32_4 := blk_frozen BK196.out 4
        have hfz32_5 := blk_frozen BK196.out 5
        have hfz32_6 := blk_frozen BK196.out 6
        have hcz33_0 : wr.cell? ⟨gb195, 0, none⟩ = some (.int .i64 0) := (blk_cell BK195.out 0).trans rfl
        have hcz33_1 : wr.cell? ⟨gb195, 1, none⟩ = some (.int .i64 0) := (blk_cell BK195.out 1).trans rfl
        have hcz33_2 : wr.cell? ⟨gb195, 2, none⟩ = some (.int .u8 0) := (blk_cell BK195.out 2).trans rfl
        have hcz33_3 : wr.cell? ⟨gb195, 3, none⟩ = some (.int .u8 0) := (blk_cell BK195.out 3).trans rfl
        have hcz33_4 : wr.cell? ⟨gb195, 4, none⟩ = some (.int .u8 0) := (blk_cell BK195.out 4).trans rfl
        have hcz33_5 : wr.cell? ⟨gb195, 5, none⟩ = some (.int .u8 0) := (blk_cell BK195.out 5).trans rfl
        have hcz33_6 : wr.cell? ⟨gb195, 6, none⟩ = some (.int .u8 0) := (blk_cell BK195.out 6).trans rfl
        have hfz33_0 := blk_frozen BK195.out 0
        have hfz33_1 := blk_frozen BK195.out 1
        have hfz33_2 := blk_frozen BK195.out 2
        have hfz33_3 := blk_frozen BK195.out 3
        have hfz33_4 := blk_frozen BK195.out 4
        have hfz33_5 := blk_frozen BK195.out 5
        have hfz33_6 := blk_frozen BK195.out 6
        go_wp2
        refine bodyPost_ret (results_cell_row rfl _ _ gb195 31 #[.int .i64 a0, .int .i64 (wrap64 ((wrap64 (Int.tdiv a0 2)) + (wrap64 (32 * (wrap64 (a1)))))), .int .u8 a1, .int .u8 x197003_1, .int .u8 x197004_1, .int .u8 x197005_1, .int .u8 x197006_1] (0, 0) _ rfl (by (with_reducible repeat (first | refine blk_drewN ?_ _ | refine blk_drew ?_ | refine blk_alloc ?_ _)); refine blk_put (cs := #[.int .i64 a0, .int .i64 (wrap64 ((wrap64 (Int.tdiv a0 2)) + (wrap64 (32 * (wrap64 (a1)))))), .int .u8 a1, .int .u8 x197003_1, .int .u8 x197004_1, .int .u8 x197005_1, .int .u8 0]) ?_ 6 _ rfl; (with_reducible repeat (first | refine blk_drewN ?_ _ | refine blk_drew ?_ | refine blk_alloc ?_ _)); refine blk_put (cs := #[.int .i64 a0, .int .i64 (wrap64 ((wrap64 (Int.tdiv a0 2)) + (wrap64 (32 * (wrap64 (a1)))))), .int .u8 a1, .int .u8 x197003_1, .int .u8 x197004_1, .int .u8 0, .int .u8 0]) ?_ 5 _ rfl; (with_reducible repeat (first | refine blk_drewN ?_ _ | refine blk_drew ?_ | refine blk_alloc ?_ _)); refine blk_put (cs := #[.int .i64 a0, .int .i64 (wrap64 ((wrap64 (Int.tdiv a0 2)) + (wrap64 (32 * (wrap64 (a1)))))), .int .u8 a1, .int .u8 x197003_1, .int .u8 0, .int .u8 0, .int .u8 0]) ?_ 4 _ rfl; (with_reducible repeat (first | refine blk_drewN ?_ _ | refine blk_drew ?_ | refine blk_alloc ?_ _)); refine blk_put (cs := #[.int .i64 a0, .int .i64 (wrap64 ((wrap64 (Int.tdiv a0 2)) + (wrap64 (32 * (wrap64 (a1)))))), .int .u8 a1, .int .u8 0, .int .u8 0, .int .u8 0, .int .u8 0]) ?_ 3 _ rfl; (with_reducible repeat (first | refine blk_drewN ?_ _ | refine blk_drew ?_ | refine blk_alloc ?_ _)); refine blk_put (cs := #[.int .i64 a0, .int .i64 (wrap64 ((wrap64 (Int.tdiv a0 2)) + (wrap64 (32 * (wrap64 (a1)))))), .int .u8 0, .int .u8 0, .int .u8 0, .int .u8 0, .int .u8 0]) ?_ 2 _ rfl; (with_reducible repeat (first | refine blk_drewN ?_ _ | refine blk_drew ?_ | refine blk_alloc ?_ _)); refine blk_put (cs := #[.int .i64 a0, .int .i64 0, .int .u8 0, .int .u8 0, .int .u8 0, .int .u8 0, .int .u8 0]) ?_ 1 _ rfl; (with_reducible repeat (first | refine blk_drewN ?_ _ | refine blk_drew ?_ | refine blk_alloc ?_ _)); refine blk_put (cs := #[.int .i64 0, .int .i64 0, .int .u8 0, .int .u8 0, .int .u8 0, .int .u8 0, .int .u8 0]) ?_ 0 _ rfl; (with_reducible repeat (first | refine blk_drewN ?_ _ | refine blk_drew ?_ | refine blk_alloc ?_ _)); exact BK195.out) Tryd.underlying31 rfl (by kernel_rfl)) rfl ?_
        exact ⟨by first | rfl | (simp [errW_none, errW_some] <;> rfl) | (simp [*, errW_none, errW_some] <;> rfl), by repeat (first | (with_reducible first | exact HB.out | apply below_alloc | apply pw_below_drewN | apply below_drew1 | refine below_set ?_ GE195.out | refine below_set ?_ GE196.out) | exact HB.out)⟩

end Go.Proofs.YtmajbcglpcagoaaDoor.X
