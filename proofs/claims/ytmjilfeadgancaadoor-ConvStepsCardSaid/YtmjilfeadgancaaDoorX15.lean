-- Made by xprint.py (an own driver round the kit's print.py), with contracts of this session's own. Lean checks it.
import Derived.Test.YtmjilfeadgancaaDoorX0
import Derived.Test.YtmjilfeadgancaaDoorX1
import Derived.Test.YtmjilfeadgancaaDoorX8
import Derived.Test.YtmjilfeadgancaaDoorX9
import Derived.Test.YtmjilfeadgancaaDoorX10
import Derived.Test.YtmjilfeadgancaaDoorX11
import Derived.Test.YtmjilfeadgancaaDoorX12
import Derived.Test.YtmjilfeadgancaaDoorX14
namespace Go.Proofs.YtmjilfeadgancaaDoor.X
open Go.RowKit Go.Proofs.YtmjilfeadgancaaDoorW.PrintWords Go.Proofs.YtmjilfeadgancaaDoorW.PrintLast Go.Proofs.YtmjilfeadgancaaDoorW.PrintMore
attribute [local go_sem] max2_int min2_int max_two min_two max_three min_three max_four min_four   -- for this text's walks alone
set_option linter.unusedVariables false
set_option linter.unusedSimpArgs false

attribute [local go_sem high] eqA22
/-! ### shuttlelaw06_ConvSteps: function 3 -/
mutual
def shuttlelaw06_ConvSteps.j0 : Nat → Int → Int → Int → Int → Int → Bool → Int → Int → Int → Int → Option (Bool)
  | 0, _, _, _, _, _, _, _, _, _, _ => none
  | k + 1, x0, x1, x8, x9, x10, x48, x132000, x132001, x132002, x132003 => if x48 = true then (some false) else (if x0 < 0 then (shuttlelaw06_ConvSteps.j1 k x0 x1 x8 x9 x10 true x132000 x132001 x132002 x132003) else (if x0 > 63 then (shuttlelaw06_ConvSteps.j1 k x0 x1 x8 x9 x10 true x132000 x132001 x132002 x132003) else (shuttlelaw06_ConvSteps.j1 k x0 x1 x8 x9 x10 (decide (x1 > 1)) x132000 x132001 x132002 x132003)))
def shuttlelaw06_ConvSteps.j1 : Nat → Int → Int → Int → Int → Int → Bool → Int → Int → Int → Int → Option (Bool)
  | 0, _, _, _, _, _, _, _, _, _, _ => none
  | k + 1, x0, x1, x8, x9, x10, x58, x132000, x132001, x132002, x132003 => if x58 = true then (if x8 = 1 then (if x10 = 1 then (if (x132000 == 0 && (x132001 == 0 && (x132002 == 0 && (x132003 == 0)))) = true then (some (x9 == 0)) else (some false)) else (some false)) else (some false)) else ((shuttleref06_List.f k x0 x1).bind fun t137 => (shuttlelaw06_ConvSteps.l0 k x0 x1 x8 x9 x10 t137 0 x132000 x132001 x132002 x132003))
def shuttlelaw06_ConvSteps.l0 : Nat → Int → Int → Int → Int → Int → List Int → Int → Int → Int → Int → Int → Option (Bool)
  | 0, _, _, _, _, _, _, _, _, _, _, _ => none
  | k + 1, x0, x1, x8, x9, x10, x11, x12, x132000, x132001, x132002, x132003 => if x12 < 4 then (if x12 = 0 then ((shuttleref06_Bit.f x11 6 0).bind fun t143 => (if x132000 = t143 then (shuttlelaw06_ConvSteps.l0 k x0 x1 x8 x9 x10 x11 (0 + 1) x132000 x132001 x132002 x132003) else (some false))) else (if x12 = 1 then ((shuttleref06_Bit.f x11 6 1).bind fun t142 => (if x132001 = t142 then (shuttlelaw06_ConvSteps.l0 k x0 x1 x8 x9 x10 x11 (1 + 1) x132000 x132001 x132002 x132003) else (some false))) else (if x12 = 2 then ((shuttleref06_Bit.f x11 6 2).bind fun t141 => (if x132002 = t141 then (shuttlelaw06_ConvSteps.l0 k x0 x1 x8 x9 x10 x11 (2 + 1) x132000 x132001 x132002 x132003) else (some false))) else (if x12 = 3 then ((shuttleref06_Bit.f x11 6 3).bind fun t140 => (if x132003 = t140 then (shuttlelaw06_ConvSteps.l0 k x0 x1 x8 x9 x10 x11 (3 + 1) x132000 x132001 x132002 x132003) else (some false))) else (none))))) else (if x8 = 0 then (if x10 = 0 then (some (x9 == (wrap64 ((wrap64 (Int.tdiv x0 2)) + (wrap64 (32 * (wrap64 (x1)))))))) else (some false)) else (some false))
end
def shuttlelaw06_ConvSteps.f (k : Nat) (a0 : Int) (a1 : Int) (a2 : Int) : Option (Bool) := (conv_Out.f a0 a1).bind fun bt126 => ((conv_Next.f a0 a1).bind fun bt132 => ((shuttlelaw06_codes.f).bind fun t134 => (if t134 = true then (if (Int.tmod a2 1099511627776) ≥ 0 then ((conv_Steps.f (Int.tmod a2 1099511627776)).bind fun t135 => (if t135 = (wrap64 ((Int.tmod a2 1099511627776) + 6)) then (if (Int.tmod a2 1099511627776) < 0 then (shuttlelaw06_ConvSteps.j0 k a0 a1 bt126.2.2.2.2 bt132.1 bt132.2 (t135 != 0) bt126.1 bt126.2.1 bt126.2.2.1 bt126.2.2.2.1) else (shuttlelaw06_ConvSteps.j0 k a0 a1 bt126.2.2.2.2 bt132.1 bt132.2 false bt126.1 bt126.2.1 bt126.2.2.1 bt126.2.2.2.1)) else (shuttlelaw06_ConvSteps.j0 k a0 a1 bt126.2.2.2.2 bt132.1 bt132.2 true bt126.1 bt126.2.1 bt126.2.2.1 bt126.2.2.2.1))) else (if (Int.tmod a2 1099511627776) < 0 then ((conv_Steps.f (Int.tmod a2 1099511627776)).bind fun t136 => (shuttlelaw06_ConvSteps.j0 k a0 a1 bt126.2.2.2.2 bt132.1 bt132.2 (t136 != 0) bt126.1 bt126.2.1 bt126.2.2.1 bt126.2.2.2.1)) else (shuttlelaw06_ConvSteps.j0 k a0 a1 bt126.2.2.2.2 bt132.1 bt132.2 false bt126.1 bt126.2.1 bt126.2.2.1 bt126.2.2.2.1))) else (shuttlelaw06_ConvSteps.j0 k a0 a1 bt126.2.2.2.2 bt132.1 bt132.2 true bt126.1 bt126.2.1 bt126.2.2.1 bt126.2.2.2.1))))
theorem shuttlelaw06_ConvSteps.mono_l : ∀ k, (∀ y0 y1 y2 y3 y4 y5 y6 y7 y8 y9, LeO (shuttlelaw06_ConvSteps.j0 k y0 y1 y2 y3 y4 y5 y6 y7 y8 y9) (shuttlelaw06_ConvSteps.j0 (k + 1) y0 y1 y2 y3 y4 y5 y6 y7 y8 y9)) ∧ (∀ y0 y1 y2 y3 y4 y5 y6 y7 y8 y9, LeO (shuttlelaw06_ConvSteps.j1 k y0 y1 y2 y3 y4 y5 y6 y7 y8 y9) (shuttlelaw06_ConvSteps.j1 (k + 1) y0 y1 y2 y3 y4 y5 y6 y7 y8 y9)) ∧ (∀ y0 y1 y2 y3 y4 y5 y6 y7 y8 y9 y10, LeO (shuttlelaw06_ConvSteps.l0 k y0 y1 y2 y3 y4 y5 y6 y7 y8 y9 y10) (shuttlelaw06_ConvSteps.l0 (k + 1) y0 y1 y2 y3 y4 y5 y6 y7 y8 y9 y10))
  | 0 => ⟨fun _ _ _ _ _ _ _ _ _ _ r h => by simp [shuttlelaw06_ConvSteps.j0] at h, fun _ _ _ _ _ _ _ _ _ _ r h => by simp [shuttlelaw06_ConvSteps.j1] at h, fun _ _ _ _ _ _ _ _ _ _ _ r h => by simp [shuttlelaw06_ConvSteps.l0] at h⟩
  | k + 1 => by
    obtain ⟨ih0, ih1, ih2⟩ := shuttlelaw06_ConvSteps.mono_l k
    refine ⟨?_, ?_, ?_⟩
    · intro y0 y1 y2 y3 y4 y5 y6 y7 y8 y9
      unfold shuttlelaw06_ConvSteps.j0
      repeat' first
      | (with_reducible exact ih0 _ _ _ _ _ _ _ _ _ _)
      | (with_reducible exact ih1 _ _ _ _ _ _ _ _ _ _)
      | (with_reducible exact ih2 _ _ _ _ _ _ _ _ _ _ _)
      | (with_reducible exact shuttleref06_List.mono _ _ _)
      | (with_reducible exact LeO.refl _)
      | (with_reducible exact LeO.none _)
      | (with_reducible refine LeO.ite ?_ ?_)
      | (with_reducible refine LeO.bind ?_ (fun _ => ?_))
      | exact ih0 _ _ _ _ _ _ _ _ _ _
      | exact ih1 _ _ _ _ _ _ _ _ _ _
      | exact ih2 _ _ _ _ _ _ _ _ _ _ _
      | exact shuttleref06_List.mono _ _ _
      | exact LeO.none _
      | refine LeO.ite ?_ ?_
      | refine LeO.bind ?_ (fun _ => ?_)
    · intro y0 y1 y2 y3 y4 y5 y6 y7 y8 y9
      unfold shuttlelaw06_ConvSteps.j1
      repeat' first
      | (with_reducible exact ih0 _ _ _ _ _ _ _ _ _ _)
      | (with_reducible exact ih1 _ _ _ _ _ _ _ _ _ _)
      | (with_reducible exact ih2 _ _ _ _ _ _ _ _ _ _ _)
      | (with_reducible exact shuttleref06_List.mono _ _ _)
      | (with_reducible exact LeO.refl _)
      | (with_reducible exact LeO.none _)
      | (with_reducible refine LeO.ite ?_ ?_)
      | (with_reducible refine LeO.bind ?_ (fun _ => ?_))
      | exact ih0 _ _ _ _ _ _ _ _ _ _
      | exact ih1 _ _ _ _ _ _ _ _ _ _
      | exact ih2 _ _ _ _ _ _ _ _ _ _ _
      | exact shuttleref06_List.mono _ _ _
      | exact LeO.none _
      | refine LeO.ite ?_ ?_
      | refine LeO.bind ?_ (fun _ => ?_)
    · intro y0 y1 y2 y3 y4 y5 y6 y7 y8 y9 y10
      unfold shuttlelaw06_ConvSteps.l0
      repeat' first
      | (with_reducible exact ih0 _ _ _ _ _ _ _ _ _ _)
      | (with_reducible exact ih1 _ _ _ _ _ _ _ _ _ _)
      | (with_reducible exact ih2 _ _ _ _ _ _ _ _ _ _ _)
      | (with_reducible exact shuttleref06_List.mono _ _ _)
      | (with_reducible exact LeO.refl _)
      | (with_reducible exact LeO.none _)
      | (with_reducible refine LeO.ite ?_ ?_)
      | (with_reducible refine LeO.bind ?_ (fun _ => ?_))
      | exact ih0 _ _ _ _ _ _ _ _ _ _
      | exact ih1 _ _ _ _ _ _ _ _ _ _
      | exact ih2 _ _ _ _ _ _ _ _ _ _ _
      | exact shuttleref06_List.mono _ _ _
      | exact LeO.none _
      | refine LeO.ite ?_ ?_
      | refine LeO.bind ?_ (fun _ => ?_)
theorem shuttlelaw06_ConvSteps.mono : ∀ a0 a1 a2 k, LeO (shuttlelaw06_ConvSteps.f k a0 a1 a2) (shuttlelaw06_ConvSteps.f (k + 1) a0 a1 a2) := by
  intro a0 a1 a2 k
  obtain ⟨ih0, ih1, ih2⟩ := shuttlelaw06_ConvSteps.mono_l k
  unfold shuttlelaw06_ConvSteps.f
  repeat' first
      | (with_reducible exact ih0 _ _ _ _ _ _ _ _ _ _)
      | (with_reducible exact ih1 _ _ _ _ _ _ _ _ _ _)
      | (with_reducible exact ih2 _ _ _ _ _ _ _ _ _ _ _)
      | (with_reducible exact shuttleref06_List.mono _ _ _)
      | (with_reducible exact LeO.refl _)
      | (with_reducible exact LeO.none _)
      | (with_reducible refine LeO.ite ?_ ?_)
      | (with_reducible refine LeO.bind ?_ (fun _ => ?_))
      | exact ih0 _ _ _ _ _ _ _ _ _ _
      | exact ih1 _ _ _ _ _ _ _ _ _ _
      | exact ih2 _ _ _ _ _ _ _ _ _ _ _
      | exact shuttleref06_List.mono _ _ _
      | exact LeO.none _
      | refine LeO.ite ?_ ?_
      | refine LeO.bind ?_ (fun _ => ?_)
set_option maxHeartbeats 8000000 in
set_option maxRecDepth 100000 in
theorem shuttlelaw06_ConvSteps.calls (k : Nat) (a0 : Int) (a1 : Int) (a2 : Int) (r : Bool) (w : World) (h : shuttlelaw06_ConvSteps.f k a0 a1 a2 = some r) (hT_ : TP w := by first | assumption | exact TP_of (by assumption : TP _) (by repeat (first | (with_reducible first | apply below_alloc | apply pw_below_drewN | apply below_drew1 | refine below_set ?_ (Aside0.out (by assumption))) | exact Aside0.out (by assumption) | exact Below.refl _ _))) :
    Calls Tryd.prog 3 #[.int .i64 a0, .int .u8 a1, .int .i64 a2] w fun e w' => e = .returned (.bool r) ∧ Below w.heap.size w w' := by
  have hu22 := Tryd.underlying22
  have HB := Aside0.mk (Below.refl w.heap.size w)
  have H : ((conv_Out.f a0 a1).bind fun bt126 => ((conv_Next.f a0 a1).bind fun bt132 => ((shuttlelaw06_codes.f).bind fun t134 => (if t134 = true then (if (Int.tmod a2 1099511627776) ≥ 0 then ((conv_Steps.f (Int.tmod a2 1099511627776)).bind fun t135 => (if t135 = (wrap64 ((Int.tmod a2 1099511627776) + 6)) then (if (Int.tmod a2 1099511627776) < 0 then (shuttlelaw06_ConvSteps.j0 k a0 a1 bt126.2.2.2.2 bt132.1 bt132.2 (t135 != 0) bt126.1 bt126.2.1 bt126.2.2.1 bt126.2.2.2.1) else (shuttlelaw06_ConvSteps.j0 k a0 a1 bt126.2.2.2.2 bt132.1 bt132.2 false bt126.1 bt126.2.1 bt126.2.2.1 bt126.2.2.2.1)) else (shuttlelaw06_ConvSteps.j0 k a0 a1 bt126.2.2.2.2 bt132.1 bt132.2 true bt126.1 bt126.2.1 bt126.2.2.1 bt126.2.2.2.1))) else (if (Int.tmod a2 1099511627776) < 0 then ((conv_Steps.f (Int.tmod a2 1099511627776)).bind fun t136 => (shuttlelaw06_ConvSteps.j0 k a0 a1 bt126.2.2.2.2 bt132.1 bt132.2 (t136 != 0) bt126.1 bt126.2.1 bt126.2.2.1 bt126.2.2.2.1)) else (shuttlelaw06_ConvSteps.j0 k a0 a1 bt126.2.2.2.2 bt132.1 bt132.2 false bt126.1 bt126.2.1 bt126.2.2.1 bt126.2.2.2.1))) else (shuttlelaw06_ConvSteps.j0 k a0 a1 bt126.2.2.2.2 bt132.1 bt132.2 true bt126.1 bt126.2.1 bt126.2.2.1 bt126.2.2.2.1))))) = some r := h
  clear h
  replace H := Option.bind_eq_some_iff.mp H
  obtain ⟨⟨t126, t127, t128, t129, t130⟩, A40, H⟩ := H
  replace H : ((conv_Next.f a0 a1).bind fun bt132 => ((shuttlelaw06_codes.f).bind fun t134 => (if t134 = true then (if (Int.tmod a2 1099511627776) ≥ 0 then ((conv_Steps.f (Int.tmod a2 1099511627776)).bind fun t135 => (if t135 = (wrap64 ((Int.tmod a2 1099511627776) + 6)) then (if (Int.tmod a2 1099511627776) < 0 then (shuttlelaw06_ConvSteps.j0 k a0 a1 t130 bt132.1 bt132.2 (t135 != 0) t126 t127 t128 t129) else (shuttlelaw06_ConvSteps.j0 k a0 a1 t130 bt132.1 bt132.2 false t126 t127 t128 t129)) else (shuttlelaw06_ConvSteps.j0 k a0 a1 t130 bt132.1 bt132.2 true t126 t127 t128 t129))) else (if (Int.tmod a2 1099511627776) < 0 then ((conv_Steps.f (Int.tmod a2 1099511627776)).bind fun t136 => (shuttlelaw06_ConvSteps.j0 k a0 a1 t130 bt132.1 bt132.2 (t136 != 0) t126 t127 t128 t129)) else (shuttlelaw06_ConvSteps.j0 k a0 a1 t130 bt132.1 bt132.2 false t126 t127 t128 t129))) else (shuttlelaw06_ConvSteps.j0 k a0 a1 t130 bt132.1 bt132.2 true t126 t127 t128 t129)))) = some r := H
  have A4 := Aside0.mk A40
  clear A40
  replace H := Option.bind_eq_some_iff.mp H
  obtain ⟨⟨t132, t133⟩, A50, H⟩ := H
  replace H : ((shuttlelaw06_codes.f).bind fun t134 => (if t134 = true then (if (Int.tmod a2 1099511627776) ≥ 0 then ((conv_Steps.f (Int.tmod a2 1099511627776)).bind fun t135 => (if t135 = (wrap64 ((Int.tmod a2 1099511627776) + 6)) then (if (Int.tmod a2 1099511627776) < 0 then (shuttlelaw06_ConvSteps.j0 k a0 a1 t130 t132 t133 (t135 != 0) t126 t127 t128 t129) else (shuttlelaw06_ConvSteps.j0 k a0 a1 t130 t132 t133 false t126 t127 t128 t129)) else (shuttlelaw06_ConvSteps.j0 k a0 a1 t130 t132 t133 true t126 t127 t128 t129))) else (if (Int.tmod a2 1099511627776) < 0 then ((conv_Steps.f (Int.tmod a2 1099511627776)).bind fun t136 => (shuttlelaw06_ConvSteps.j0 k a0 a1 t130 t132 t133 (t136 != 0) t126 t127 t128 t129)) else (shuttlelaw06_ConvSteps.j0 k a0 a1 t130 t132 t133 false t126 t127 t128 t129))) else (shuttlelaw06_ConvSteps.j0 k a0 a1 t130 t132 t133 true t126 t127 t128 t129))) = some r := H
  have A5 := Aside0.mk A50
  clear A50
  have HC6 := Aside0.mk H
  clear H
  go_enter Tryd.func3, Tryd.ntmps3
  go_upto_region 4 with (first | ((with_reducible refine gate_callee (f := 8) rfl ?_); refine goesL_ (some 16) rfl rfl Tryd.func8 (by kernel_rfl) rfl #[.int .i64 a0, .int .u8 a1] rfl (by (try simp only [List.map_toArray, List.map_cons, List.map_nil]); first | done | rfl | (simp only [List.length_drop, List.length_take]; rfl)) ?_; (with_reducible refine (conv_Out.calls a0 a1 t126 t127 t128 t129 t130 _ A4.out).mono ?_); rintro e w7 ⟨rfl, hb⟩; refine ⟨_, rfl, ?_⟩; have n0_ := Aside0.mk (below_step (by repeat (first | (with_reducible first | exact HB.out | apply below_alloc | apply pw_below_drewN | apply below_drew1) | exact HB.out)) hb); clear HB; have HB := n0_; clear n0_; (try clear hb); (try clear hb2); (try clear hk); (try clear hi)) | ((with_reducible refine gate_dst (N := 7) rfl ?_); refine box_event ?hg (N := 7) ?hd (cs := #[.int .u8 0, .int .u8 0, .int .u8 0, .int .u8 0]) (t := 22) ?hr ?_; (case hd => rfl); (case hg => rfl); (case hr => first | (go_simp; done) | (go_simp; rfl)); intro gb131 hg w8 hbox hb; have n0_ := Aside0.mk (below_step (by repeat (first | (with_reducible first | exact HB.out | apply below_alloc | apply pw_below_drewN | apply below_drew1) | exact HB.out)) hb); have n1_ := Aside0.mk (hbox); have n2_ := Aside0.mk ((by rw [hg]; exact (below_size (by repeat (first | (with_reducible first | exact HB.out | apply below_alloc | apply pw_below_drewN | apply below_drew1) | exact HB.out))) : w.heap.size ≤ gb131)); have n3_ := Aside0.mk ((by rw [hg]; exact (below_size (by repeat (first | (with_reducible first | exact HB.out | apply below_alloc | apply pw_below_drewN | apply below_drew1) | exact HB.out))) : w.heap.size ≤ gb131)); clear HB; have HB := n0_; have BK131 := n1_; have GW131 := n2_; have GE131 := n3_; clear n0_ n1_ n2_ n3_; clear hb hbox hg; have hcz9_0 : w8.cell? ⟨gb131, 0, none⟩ = some (.int .u8 0) := (blk_cell BK131.out 0).trans rfl; have hcz9_1 : w8.cell? ⟨gb131, 1, none⟩ = some (.int .u8 0) := (blk_cell BK131.out 1).trans rfl; have hcz9_2 : w8.cell? ⟨gb131, 2, none⟩ = some (.int .u8 0) := (blk_cell BK131.out 2).trans rfl; have hcz9_3 : w8.cell? ⟨gb131, 3, none⟩ = some (.int .u8 0) := (blk_cell BK131.out 3).trans rfl; have hfz9_0 := blk_frozen BK131.out 0; have hfz9_1 := blk_frozen BK131.out 1; have hfz9_2 := blk_frozen BK131.out 2; have hfz9_3 := blk_frozen BK131.out 3) | ((with_reducible refine gate_callee (f := 9) rfl ?_); refine goesL_ (some 22) rfl rfl Tryd.func9 (by kernel_rfl) rfl #[.int .i64 a0, .int .u8 a1] rfl (by (try simp only [List.map_toArray, List.map_cons, List.map_nil]); first | done | rfl | (simp only [List.length_drop, List.length_take]; rfl)) ?_; (with_reducible refine (conv_Next.calls a0 a1 t132 t133 _ A5.out).mono ?_); rintro e w' ⟨rfl, ⟨nd, rfl⟩⟩; refine ⟨_, rfl, ?_⟩))
  (try simp only [Act.put, List.setIfInBounds_toArray, List.set_cons_zero, List.set_cons_succ])
  go_cut [48] (fun v48 wc => ∃ (kq : Nat) (x48_5 : Bool), v48 = .bool x48_5 ∧ Aside0 (shuttlelaw06_ConvSteps.j0 kq a0 a1 t130 t132 t133 x48_5 t126 t127 t128 t129 = some r) ∧ Aside0 (kq ≤ k) ∧ Aside0 (wc.heap[gb131]? = some (.cells #[.int .u8 t126, .int .u8 t127, .int .u8 t128, .int .u8 t129] 22 (0, 0))) ∧ Aside0 (Below w.heap.size w wc))
  case first =>
    have H := HC6.out
    clear HC6
    replace H := Option.bind_eq_some_iff.mp H
    obtain ⟨t134, A100, H⟩ := H
    replace H : (if t134 = true then (if (Int.tmod a2 1099511627776) ≥ 0 then ((conv_Steps.f (Int.tmod a2 1099511627776)).bind fun t135 => (if t135 = (wrap64 ((Int.tmod a2 1099511627776) + 6)) then (if (Int.tmod a2 1099511627776) < 0 then (shuttlelaw06_ConvSteps.j0 k a0 a1 t130 t132 t133 (t135 != 0) t126 t127 t128 t129) else (shuttlelaw06_ConvSteps.j0 k a0 a1 t130 t132 t133 false t126 t127 t128 t129)) else (shuttlelaw06_ConvSteps.j0 k a0 a1 t130 t132 t133 true t126 t127 t128 t129))) else (if (Int.tmod a2 1099511627776) < 0 then ((conv_Steps.f (Int.tmod a2 1099511627776)).bind fun t136 => (shuttlelaw06_ConvSteps.j0 k a0 a1 t130 t132 t133 (t136 != 0) t126 t127 t128 t129)) else (shuttlelaw06_ConvSteps.j0 k a0 a1 t130 t132 t133 false t126 t127 t128 t129))) else (shuttlelaw06_ConvSteps.j0 k a0 a1 t130 t132 t133 true t126 t127 t128 t129)) = some r := H
    have A10 := Aside0.mk A100
    clear A100
    by_cases c11 : t134 = true
    · subst c11
      have H1 : (if (Int.tmod a2 1099511627776) ≥ 0 then ((conv_Steps.f (Int.tmod a2 1099511627776)).bind fun t135 => (if t135 = (wrap64 ((Int.tmod a2 1099511627776) + 6)) then (if (Int.tmod a2 1099511627776) < 0 then (shuttlelaw06_ConvSteps.j0 k a0 a1 t130 t132 t133 (t135 != 0) t126 t127 t128 t129) else (shuttlelaw06_ConvSteps.j0 k a0 a1 t130 t132 t133 false t126 t127 t128 t129)) else (shuttlelaw06_ConvSteps.j0 k a0 a1 t130 t132 t133 true t126 t127 t128 t129))) else (if (Int.tmod a2 1099511627776) < 0 then ((conv_Steps.f (Int.tmod a2 1099511627776)).bind fun t136 => (shuttlelaw06_ConvSteps.j0 k a0 a1 t130 t132 t133 (t136 != 0) t126 t127 t128 t129)) else (shuttlelaw06_ConvSteps.j0 k a0 a1 t130 t132 t133 false t126 t127 t128 t129))) = some r := by rw [if_pos rfl] at H; exact H
      clear H
      have H := H1
      clear H1
      by_cases c12 : (Int.tmod a2 1099511627776) ≥ 0
      · rw [if_pos c12] at H
        have c12b0 : decide (0 ≤ (Int.tmod a2 1099511627776)) = true := decide_eq_true c12
        clear c12
        (first | rw [c12b0] | (simp only [i64_w, i32_w]; rw [c12b0]) | skip)
        replace H := Option.bind_eq_some_iff.mp H
        obtain ⟨t135, A130, H⟩ := H
        replace H : (if t135 = (wrap64 ((Int.tmod a2 1099511627776) + 6)) then (if (Int.tmod a2 1099511627776) < 0 then (shuttlelaw06_ConvSteps.j0 k a0 a1 t130 t132 t133 (t135 != 0) t126 t127 t128 t129) else (shuttlelaw06_ConvSteps.j0 k a0 a1 t130 t132 t133 false t126 t127 t128 t129)) else (shuttlelaw06_ConvSteps.j0 k a0 a1 t130 t132 t133 true t126 t127 t128 t129)) = some r := H
        have A13 := Aside0.mk A130
        clear A130
        by_cases c14 : t135 = (wrap64 ((Int.tmod a2 1099511627776) + 6))
        · rw [if_pos c14] at H
          have c14b0 : (t135 == (wrap64 ((Int.tmod a2 1099511627776) + 6))) = true := beq_iff_eq.mpr c14
          have c14b1 : (t135 != (wrap64 ((Int.tmod a2 1099511627776) + 6))) = false := bne_eq_false_iff_eq.mpr c14
          clear c14
          by_cases c15 : (Int.tmod a2 1099511627776) < 0
          · rw [if_pos c15] at H
            have c15b0 : decide ((Int.tmod a2 1099511627776) < 0) = true := decide_eq_true c15
            clear c15
            have H' := Aside0.mk H
            clear H
            go_wp2_with (first | ((with_reducible refine gate_callee (f := 10) rfl ?_); refine goesL_ (some 27) rfl rfl Tryd.func10 (by kernel_rfl) rfl #[] rfl (by (try simp only [List.map_toArray, List.map_cons, List.map_nil]); first | done | rfl | (simp only [List.length_drop, List.length_take]; rfl)) ?_; (with_reducible refine (shuttlelaw06_codes.calls  true _ A10.out).mono ?_); rintro e w16 ⟨rfl, hb⟩; refine ⟨_, rfl, ?_⟩; have n0_ := Aside0.mk (blk_below (g := gb131) (o := .cells #[.int .u8 t126, .int .u8 t127, .int .u8 t128, .int .u8 t129] 22 (0, 0)) (by (with_reducible repeat (first | refine blk_drewN ?_ _ | refine blk_drew ?_ | refine blk_alloc ?_ _)); refine blk_put (cs := #[.int .u8 t126, .int .u8 t127, .int .u8 t128, .int .u8 0]) ?_ 3 _ rfl; (with_reducible repeat (first | refine blk_drewN ?_ _ | refine blk_drew ?_ | refine blk_alloc ?_ _)); refine blk_put (cs := #[.int .u8 t126, .int .u8 t127, .int .u8 0, .int .u8 0]) ?_ 2 _ rfl; (with_reducible repeat (first | refine blk_drewN ?_ _ | refine blk_drew ?_ | refine blk_alloc ?_ _)); refine blk_put (cs := #[.int .u8 t126, .int .u8 0, .int .u8 0, .int .u8 0]) ?_ 1 _ rfl; (with_reducible repeat (first | refine blk_drewN ?_ _ | refine blk_drew ?_ | refine blk_alloc ?_ _)); refine blk_put (cs := #[.int .u8 0, .int .u8 0, .int .u8 0, .int .u8 0]) ?_ 0 _ rfl; (with_reducible repeat (first | refine blk_drewN ?_ _ | refine blk_drew ?_ | refine blk_alloc ?_ _)); exact BK131.out) hb); have n1_ := Aside0.mk (below_step (by repeat (first | (with_reducible first | exact HB.out | apply below_alloc | apply pw_below_drewN | apply below_drew1 | refine below_set ?_ GE131.out) | exact HB.out)) hb); clear BK131; clear HB; have BK131 := n0_; have HB := n1_; clear n0_ n1_; (try clear hb); (try clear hb2); (try clear hk); (try clear hi)) | (go_at_call 11; (with_reducible refine (conv_Steps.calls (Int.tmod a2 1099511627776) t135 _ A13.out).mono ?_); rintro e w' ⟨rfl, ⟨nd, rfl⟩⟩))
            go_meet
            case rel => exact ⟨_, ((t135 != 0)), (by first | rfl | (simp; done) | (simp [*]; done)), H', ⟨by first | omega | exact Nat.le_refl _⟩, ⟨by (with_reducible repeat (first | refine blk_drewN ?_ _ | refine blk_drew ?_ | refine blk_alloc ?_ _)); exact BK131.out⟩, ⟨by repeat (first | (with_reducible first | exact HB.out | apply below_alloc | apply pw_below_drewN | apply below_drew1 | refine below_set ?_ GE131.out) | exact HB.out)⟩⟩
          · rw [if_neg c15] at H
            have c15b0 : decide ((Int.tmod a2 1099511627776) < 0) = false := decide_eq_false c15
            clear c15
            have H' := Aside0.mk H
            clear H
            go_wp2_with (first | ((with_reducible refine gate_callee (f := 10) rfl ?_); refine goesL_ (some 27) rfl rfl Tryd.func10 (by kernel_rfl) rfl #[] rfl (by (try simp only [List.map_toArray, List.map_cons, List.map_nil]); first | done | rfl | (simp only [List.length_drop, List.length_take]; rfl)) ?_; (with_reducible refine (shuttlelaw06_codes.calls  true _ A10.out).mono ?_); rintro e w17 ⟨rfl, hb⟩; refine ⟨_, rfl, ?_⟩; have n0_ := Aside0.mk (blk_below (g := gb131) (o := .cells #[.int .u8 t126, .int .u8 t127, .int .u8 t128, .int .u8 t129] 22 (0, 0)) (by (with_reducible repeat (first | refine blk_drewN ?_ _ | refine blk_drew ?_ | refine blk_alloc ?_ _)); refine blk_put (cs := #[.int .u8 t126, .int .u8 t127, .int .u8 t128, .int .u8 0]) ?_ 3 _ rfl; (with_reducible repeat (first | refine blk_drewN ?_ _ | refine blk_drew ?_ | refine blk_alloc ?_ _)); refine blk_put (cs := #[.int .u8 t126, .int .u8 t127, .int .u8 0, .int .u8 0]) ?_ 2 _ rfl; (with_reducible repeat (first | refine blk_drewN ?_ _ | refine blk_drew ?_ | refine blk_alloc ?_ _)); refine blk_put (cs := #[.int .u8 t126, .int .u8 0, .int .u8 0, .int .u8 0]) ?_ 1 _ rfl; (with_reducible repeat (first | refine blk_drewN ?_ _ | refine blk_drew ?_ | refine blk_alloc ?_ _)); refine blk_put (cs := #[.int .u8 0, .int .u8 0, .int .u8 0, .int .u8 0]) ?_ 0 _ rfl; (with_reducible repeat (first | refine blk_drewN ?_ _ | refine blk_drew ?_ | refine blk_alloc ?_ _)); exact BK131.out) hb); have n1_ := Aside0.mk (below_step (by repeat (first | (with_reducible first | exact HB.out | apply below_alloc | apply pw_below_drewN | apply below_drew1 | refine below_set ?_ GE131.out) | exact HB.out)) hb); clear BK131; clear HB; have BK131 := n0_; have HB := n1_; clear n0_ n1_; (try clear hb); (try clear hb2); (try clear hk); (try clear hi)) | (go_at_call 11; (with_reducible refine (conv_Steps.calls (Int.tmod a2 1099511627776) t135 _ A13.out).mono ?_); rintro e w' ⟨rfl, ⟨nd, rfl⟩⟩))
            go_meet
            case rel => exact ⟨_, (false), (by first | rfl | (simp; done) | (simp [*]; done)), H', ⟨by first | omega | exact Nat.le_refl _⟩, ⟨by (with_reducible repeat (first | refine blk_drewN ?_ _ | refine blk_drew ?_ | refine blk_alloc ?_ _)); exact BK131.out⟩, ⟨by repeat (first | (with_reducible first | exact HB.out | apply below_alloc | apply pw_below_drewN | apply below_drew1 | refine below_set ?_ GE131.out) | exact HB.out)⟩⟩
        · rw [if_neg c14] at H
          have c14b0 : (t135 == (wrap64 ((Int.tmod a2 1099511627776) + 6))) = false := beq_eq_false_iff_ne.mpr c14
          have c14b1 : (t135 != (wrap64 ((Int.tmod a2 1099511627776) + 6))) = true := bne_iff_ne.mpr c14
          have H' := Aside0.mk H
          clear H
          go_wp2_with (first | ((with_reducible refine gate_callee (f := 10) rfl ?_); refine goesL_ (some 27) rfl rfl Tryd.func10 (by kernel_rfl) rfl #[] rfl (by (try simp only [List.map_toArray, List.map_cons, List.map_nil]); first | done | rfl | (simp only [List.length_drop, List.length_take]; rfl)) ?_; (with_reducible refine (shuttlelaw06_codes.calls  true _ A10.out).mono ?_); rintro e w18 ⟨rfl, hb⟩; refine ⟨_, rfl, ?_⟩; have n0_ := Aside0.mk (blk_below (g := gb131) (o := .cells #[.int .u8 t126, .int .u8 t127, .int .u8 t128, .int .u8 t129] 22 (0, 0)) (by (with_reducible repeat (first | refine blk_drewN ?_ _ | refine blk_drew ?_ | refine blk_alloc ?_ _)); refine blk_put (cs := #[.int .u8 t126, .int .u8 t127, .int .u8 t128, .int .u8 0]) ?_ 3 _ rfl; (with_reducible repeat (first | refine blk_drewN ?_ _ | refine blk_drew ?_ | refine blk_alloc ?_ _)); refine blk_put (cs := #[.int .u8 t126, .int .u8 t127, .int .u8 0, .int .u8 0]) ?_ 2 _ rfl; (with_reducible repeat (first | refine blk_drewN ?_ _ | refine blk_drew ?_ | refine blk_alloc ?_ _)); refine blk_put (cs := #[.int .u8 t126, .int .u8 0, .int .u8 0, .int .u8 0]) ?_ 1 _ rfl; (with_reducible repeat (first | refine blk_drewN ?_ _ | refine blk_drew ?_ | refine blk_alloc ?_ _)); refine blk_put (cs := #[.int .u8 0, .int .u8 0, .int .u8 0, .int .u8 0]) ?_ 0 _ rfl; (with_reducible repeat (first | refine blk_drewN ?_ _ | refine blk_drew ?_ | refine blk_alloc ?_ _)); exact BK131.out) hb); have n1_ := Aside0.mk (below_step (by repeat (first | (with_reducible first | exact HB.out | apply below_alloc | apply pw_below_drewN | apply below_drew1 | refine below_set ?_ GE131.out) | exact HB.out)) hb); clear BK131; clear HB; have BK131 := n0_; have HB := n1_; clear n0_ n1_; (try clear hb); (try clear hb2); (try clear hk); (try clear hi)) | (go_at_call 11; (with_reducible refine (conv_Steps.calls (Int.tmod a2 1099511627776) t135 _ A13.out).mono ?_); rintro e w' ⟨rfl, ⟨nd, rfl⟩⟩))
          go_meet
          case rel => exact ⟨_, (true), (by first | rfl | (simp; done) | (simp [*]; done)), H', ⟨by first | omega | exact Nat.le_refl _⟩, ⟨by (with_reducible repeat (first | refine blk_drewN ?_ _ | refine blk_drew ?_ | refine blk_alloc ?_ _)); exact BK131.out⟩, ⟨by repeat (first | (with_reducible first | exact HB.out | apply below_alloc | apply pw_below_drewN | apply below_drew1 | refine below_set ?_ GE131.out) | exact HB.out)⟩⟩
      · rw [if_neg c12] at H
        have c12b0 : decide (0 ≤ (Int.tmod a2 1099511627776)) = false := decide_eq_false c12
        clear c12
        (first | rw [c12b0] | (simp only [i64_w, i32_w]; rw [c12b0]) | skip)
        by_cases c19 : (Int.tmod a2 1099511627776) < 0
        · rw [if_pos c19] at H
          have c19b0 : decide ((Int.tmod a2 1099511627776) < 0) = true := decide_eq_true c19
          clear c19
          replace H := Option.bind_eq_some_iff.mp H
          obtain ⟨t136, A200, H⟩ := H
          replace H : (shuttlelaw06_ConvSteps.j0 k a0 a1 t130 t132 t133 (t136 != 0) t126 t127 t128 t129) = some r := H
          have A20 := Aside0.mk A200
          clear A200
          have H' := Aside0.mk H
          clear H
          go_wp2_with (first | ((with_reducible refine gate_callee (f := 10) rfl ?_); refine goesL_ (some 27) rfl rfl Tryd.func10 (by kernel_rfl) rfl #[] rfl (by (try simp only [List.map_toArray, List.map_cons, List.map_nil]); first | done | rfl | (simp only [List.length_drop, List.length_take]; rfl)) ?_; (with_reducible refine (shuttlelaw06_codes.calls  true _ A10.out).mono ?_); rintro e w21 ⟨rfl, hb⟩; refine ⟨_, rfl, ?_⟩; have n0_ := Aside0.mk (blk_below (g := gb131) (o := .cells #[.int .u8 t126, .int .u8 t127, .int .u8 t128, .int .u8 t129] 22 (0, 0)) (by (with_reducible repeat (first | refine blk_drewN ?_ _ | refine blk_drew ?_ | refine blk_alloc ?_ _)); refine blk_put (cs := #[.int .u8 t126, .int .u8 t127, .int .u8 t128, .int .u8 0]) ?_ 3 _ rfl; (with_reducible repeat (first | refine blk_drewN ?_ _ | refine blk_drew ?_ | refine blk_alloc ?_ _)); refine blk_put (cs := #[.int .u8 t126, .int .u8 t127, .int .u8 0, .int .u8 0]) ?_ 2 _ rfl; (with_reducible repeat (first | refine blk_drewN ?_ _ | refine blk_drew ?_ | refine blk_alloc ?_ _)); refine blk_put (cs := #[.int .u8 t126, .int .u8 0, .int .u8 0, .int .u8 0]) ?_ 1 _ rfl; (with_reducible repeat (first | refine blk_drewN ?_ _ | refine blk_drew ?_ | refine blk_alloc ?_ _)); refine blk_put (cs := #[.int .u8 0, .int .u8 0, .int .u8 0, .int .u8 0]) ?_ 0 _ rfl; (with_reducible repeat (first | refine blk_drewN ?_ _ | refine blk_drew ?_ | refine blk_alloc ?_ _)); exact BK131.out) hb); have n1_ := Aside0.mk (below_step (by repeat (first | (with_reducible first | exact HB.out | apply below_alloc | apply pw_below_drewN | apply below_drew1 | refine below_set ?_ GE131.out) | exact HB.out)) hb); clear BK131; clear HB; have BK131 := n0_; have HB := n1_; clear n0_ n1_; (try clear hb); (try clear hb2); (try clear hk); (try clear hi)) | (go_at_call 11; (with_reducible refine (conv_Steps.calls (Int.tmod a2 1099511627776) t136 _ A20.out).mono ?_); rintro e w' ⟨rfl, ⟨nd, rfl⟩⟩))
          go_meet
          case rel => exact ⟨_, ((t136 != 0)), (by first | rfl | (simp; done) | (simp [*]; done)), H', ⟨by first | omega | exact Nat.le_refl _⟩, ⟨by (with_reducible repeat (first | refine blk_drewN ?_ _ | refine blk_drew ?_ | refine blk_alloc ?_ _)); exact BK131.out⟩, ⟨by repeat (first | (with_reducible first | exact HB.out | apply below_alloc | apply pw_below_drewN | apply below_drew1 | refine below_set ?_ GE131.out) | exact HB.out)⟩⟩
        · rw [if_neg c19] at H
          have c19b0 : decide ((Int.tmod a2 1099511627776) < 0) = false := decide_eq_false c19
          clear c19
          have H' := Aside0.mk H
          clear H
          go_wp2_with (first | ((with_reducible refine gate_callee (f := 10) rfl ?_); refine goesL_ (some 27) rfl rfl Tryd.func10 (by kernel_rfl) rfl #[] rfl (by (try simp only [List.map_toArray, List.map_cons, List.map_nil]); first | done | rfl | (simp only [List.length_drop, List.length_take]; rfl)) ?_; (with_reducible refine (shuttlelaw06_codes.calls  true _ A10.out).mono ?_); rintro e w22 ⟨rfl, hb⟩; refine ⟨_, rfl, ?_⟩; have n0_ := Aside0.mk (blk_below (g := gb131) (o := .cells #[.int .u8 t126, .int .u8 t127, .int .u8 t128, .int .u8 t129] 22 (0, 0)) (by (with_reducible repeat (first | refine blk_drewN ?_ _ | refine blk_drew ?_ | refine blk_alloc ?_ _)); refine blk_put (cs := #[.int .u8 t126, .int .u8 t127, .int .u8 t128, .int .u8 0]) ?_ 3 _ rfl; (with_reducible repeat (first | refine blk_drewN ?_ _ | refine blk_drew ?_ | refine blk_alloc ?_ _)); refine blk_put (cs := #[.int .u8 t126, .int .u8 t127, .int .u8 0, .int .u8 0]) ?_ 2 _ rfl; (with_reducible repeat (first | refine blk_drewN ?_ _ | refine blk_drew ?_ | refine blk_alloc ?_ _)); refine blk_put (cs := #[.int .u8 t126, .int .u8 0, .int .u8 0, .int .u8 0]) ?_ 1 _ rfl; (with_reducible repeat (first | refine blk_drewN ?_ _ | refine blk_drew ?_ | refine blk_alloc ?_ _)); refine blk_put (cs := #[.int .u8 0, .int .u8 0, .int .u8 0, .int .u8 0]) ?_ 0 _ rfl; (with_reducible repeat (first | refine blk_drewN ?_ _ | refine blk_drew ?_ | refine blk_alloc ?_ _)); exact BK131.out) hb); have n1_ := Aside0.mk (below_step (by repeat (first | (with_reducible first | exact HB.out | apply below_alloc | apply pw_below_drewN | apply below_drew1 | refine below_set ?_ GE131.out) | exact HB.out)) hb); clear BK131; clear HB; have BK131 := n0_; have HB := n1_; clear n0_ n1_; (try clear hb); (try clear hb2); (try clear hk); (try clear hi)))
          go_meet
          case rel => exact ⟨_, (false), (by first | rfl | (simp; done) | (simp [*]; done)), H', ⟨by first | omega | exact Nat.le_refl _⟩, ⟨by (with_reducible repeat (first | refine blk_drewN ?_ _ | refine blk_drew ?_ | refine blk_alloc ?_ _)); exact BK131.out⟩, ⟨by repeat (first | (with_reducible first | exact HB.out | apply below_alloc | apply pw_below_drewN | apply below_drew1 | refine below_set ?_ GE131.out) | exact HB.out)⟩⟩
    · replace c11 := Bool.eq_false_iff.mpr c11
      subst c11
      have H1 : (shuttlelaw06_ConvSteps.j0 k a0 a1 t130 t132 t133 true t126 t127 t128 t129) = some r := by rw [if_neg (show ¬ (false = true) by decide)] at H; exact H
      clear H
      have H := H1
      clear H1
      have H' := Aside0.mk H
      clear H
      go_wp2_with (first | ((with_reducible refine gate_callee (f := 10) rfl ?_); refine goesL_ (some 27) rfl rfl Tryd.func10 (by kernel_rfl) rfl #[] rfl (by (try simp only [List.map_toArray, List.map_cons, List.map_nil]); first | done | rfl | (simp only [List.length_drop, List.length_take]; rfl)) ?_; (with_reducible refine (shuttlelaw06_codes.calls  false _ A10.out).mono ?_); rintro e w23 ⟨rfl, hb⟩; refine ⟨_, rfl, ?_⟩; have n0_ := Aside0.mk (blk_below (g := gb131) (o := .cells #[.int .u8 t126, .int .u8 t127, .int .u8 t128, .int .u8 t129] 22 (0, 0)) (by (with_reducible repeat (first | refine blk_drewN ?_ _ | refine blk_drew ?_ | refine blk_alloc ?_ _)); refine blk_put (cs := #[.int .u8 t126, .int .u8 t127, .int .u8 t128, .int .u8 0]) ?_ 3 _ rfl; (with_reducible repeat (first | refine blk_drewN ?_ _ | refine blk_drew ?_ | refine blk_alloc ?_ _)); refine blk_put (cs := #[.int .u8 t126, .int .u8 t127, .int .u8 0, .int .u8 0]) ?_ 2 _ rfl; (with_reducible repeat (first | refine blk_drewN ?_ _ | refine blk_drew ?_ | refine blk_alloc ?_ _)); refine blk_put (cs := #[.int .u8 t126, .int .u8 0, .int .u8 0, .int .u8 0]) ?_ 1 _ rfl; (with_reducible repeat (first | refine blk_drewN ?_ _ | refine blk_drew ?_ | refine blk_alloc ?_ _)); refine blk_put (cs := #[.int .u8 0, .int .u8 0, .int .u8 0, .int .u8 0]) ?_ 0 _ rfl; (with_reducible repeat (first | refine blk_drewN ?_ _ | refine blk_drew ?_ | refine blk_alloc ?_ _)); exact BK131.out) hb); have n1_ := Aside0.mk (below_step (by repeat (first | (with_reducible first | exact HB.out | apply below_alloc | apply pw_below_drewN | apply below_drew1 | refine below_set ?_ GE131.out) | exact HB.out)) hb); clear BK131; clear HB; have BK131 := n0_; have HB := n1_; clear n0_ n1_; (try clear hb); (try clear hb2); (try clear hk); (try clear hi)))
      go_meet
      case rel => exact ⟨_, (true), (by first | rfl | (simp; done) | (simp [*]; done)), H', ⟨by first | omega | exact Nat.le_refl _⟩, ⟨by (with_reducible repeat (first | refine blk_drewN ?_ _ | refine blk_drew ?_ | refine blk_alloc ?_ _)); exact BK131.out⟩, ⟨by repeat (first | (with_reducible first | exact HB.out | apply below_alloc | apply pw_below_drewN | apply below_drew1 | refine below_set ?_ GE131.out) | exact HB.out)⟩⟩
  case rest =>
    clear HC6
    try clear c1
    try clear p2
    try clear c3
    try clear p6
    try clear c8
    try clear c9
    try clear c10
    try clear c11
    try clear c12
    try clear c12b0
    try clear c14
    try clear c14b0
    try clear c14b1
    try clear c15
    try clear c15b0
    try clear c19
    try clear c19b0
    try clear hcz9_0
    try clear hcz9_1
    try clear hcz9_2
    try clear hcz9_3
    try clear hfz9_0
    try clear hfz9_1
    try clear hfz9_2
    try clear hfz9_3
    obtain ⟨kq, x48_5, rfl, HA, HJ5, BK131, HB⟩ := hcut
    cases kq with
    | zero => exact absurd HA.out (by simp [shuttlelaw06_ConvSteps.j0])
    | succ kj5 =>
      have H := HA.out
      clear HA
      simp only [shuttlelaw06_ConvSteps.j0] at H
      by_cases c24 : x48_5 = true
      · subst c24
        have H1 : (some false) = some r := by rw [if_pos rfl] at H; exact H
        clear H
        have H := H1
        clear H1
        obtain rfl := Option.some.inj H
        go_wp2
        go_ret
        exact ⟨by first | rfl | (simp [errW_none, errW_some] <;> rfl) | (simp [*, errW_none, errW_some] <;> rfl), by repeat (first | (with_reducible first | exact HB.out | apply below_alloc | apply pw_below_drewN | apply below_drew1 | refine below_set ?_ GE131.out) | exact HB.out)⟩
      · replace c24 := Bool.eq_false_iff.mpr c24
        subst c24
        have H1 : (if a0 < 0 then (shuttlelaw06_ConvSteps.j1 kj5 a0 a1 t130 t132 t133 true t126 t127 t128 t129) else (if a0 > 63 then (shuttlelaw06_ConvSteps.j1 kj5 a0 a1 t130 t132 t133 true t126 t127 t128 t129) else (shuttlelaw06_ConvSteps.j1 kj5 a0 a1 t130 t132 t133 (decide (a1 > 1)) t126 t127 t128 t129))) = some r := by rw [if_neg (show ¬ (false = true) by decide)] at H; exact H
        clear H
        have H := H1
        clear H1
        have HC25 := Aside0.mk H
        clear H
        go_upto_region 6 with (fail)
        go_cut [58] (fun v58 wc => ∃ (kq : Nat) (x58_24 : Bool), v58 = .bool x58_24 ∧ Aside0 (shuttlelaw06_ConvSteps.j1 kq a0 a1 t130 t132 t133 x58_24 t126 t127 t128 t129 = some r) ∧ Aside0 (kq ≤ kj5) ∧ Aside0 (wc.heap[gb131]? = some (.cells #[.int .u8 t126, .int .u8 t127, .int .u8 t128, .int .u8 t129] 22 (0, 0))) ∧ Aside0 (Below w.heap.size w wc))
        case first =>
          have H := HC25.out
          clear HC25
          by_cases c26 : a0 < 0
          · rw [if_pos c26] at H
            have c26b0 : decide (a0 < 0) = true := decide_eq_true c26
            clear c26
            (first | rw [c26b0] | (simp only [i64_w, i32_w]; rw [c26b0]) | skip)
            have H' := Aside0.mk H
            clear H
            go_wp2
            go_meet
            case rel => exact ⟨_, (true), (by first | rfl | (simp; done) | (simp [*]; done)), H', ⟨by have := HJ5.out; first | omega | exact Nat.le_refl _⟩, ⟨by (with_reducible repeat (first | refine blk_drewN ?_ _ | refine blk_drew ?_ | refine blk_alloc ?_ _)); exact BK131.out⟩, ⟨by repeat (first | (with_reducible first | exact HB.out | apply below_alloc | apply pw_below_drewN | apply below_drew1 | refine below_set ?_ GE131.out) | exact HB.out)⟩⟩
          · rw [if_neg c26] at H
            have c26b0 : decide (a0 < 0) = false := decide_eq_false c26
            clear c26
            (first | rw [c26b0] | (simp only [i64_w, i32_w]; rw [c26b0]) | skip)
            by_cases c27 : a0 > 63
            · rw [if_pos c27] at H
              have c27b0 : decide (63 < a0) = true := decide_eq_true c27
              clear c27
              have H' := Aside0.mk H
              clear H
              go_wp2
              go_meet
              case rel => exact ⟨_, (true), (by first | rfl | (simp; done) | (simp [*]; done)), H', ⟨by have := HJ5.out; first | omega | exact Nat.le_refl _⟩, ⟨by (with_reducible repeat (first | refine blk_drewN ?_ _ | refine blk_drew ?_ | refine blk_alloc ?_ _)); exact BK131.out⟩, ⟨by repeat (first | (with_reducible first | exact HB.out | apply below_alloc | apply pw_below_drewN | apply below_drew1 | refine below_set ?_ GE131.out) | exact HB.out)⟩⟩
            · rw [if_neg c27] at H
              have c27b0 : decide (63 < a0) = false := decide_eq_false c27
              clear c27
              have H' := Aside0.mk H
              clear H
              go_wp2
              go_meet
              case rel => exact ⟨_, (decide (a1 > 1)), (by first | rfl | (simp; done) | (simp [*]; done)), H', ⟨by have := HJ5.out; first | omega | exact Nat.le_refl _⟩, ⟨by (with_reducible repeat (first | refine blk_drewN ?_ _ | refine blk_drew ?_ | refine blk_alloc ?_ _)); exact BK131.out⟩, ⟨by repeat (first | (with_reducible first | exact HB.out | apply below_alloc | apply pw_below_drewN | apply below_drew1 | refine below_set ?_ GE131.out) | exact HB.out)⟩⟩
        case rest =>
          clear HC25
          try clear c1
          try clear c2
          try clear p2
          try clear c3
          try clear p6
          try clear c8
          try clear c9
          try clear c10
          try clear c11
          try clear c12
          try clear c12b0
          try clear c14
          try clear c14b0
          try clear c14b1
          try clear c15
          try clear c15b0
          try clear c19
          try clear c19b0
          try clear c24
          try clear c26
          try clear c26b0
          try clear c27
          try clear c27b0
          try clear hcz9_0
          try clear hcz9_1
          try clear hcz9_2
          try clear hcz9_3
          try clear hfz9_0
          try clear hfz9_1
          try clear hfz9_2
          try clear hfz9_3
          try clear p2
          try clear p6
          obtain ⟨kq, x58_24, rfl, HA, HJ24, BK131, HB⟩ := hcut
          cases kq with
          | zero => exact absurd HA.out (by simp [shuttlelaw06_ConvSteps.j1])
          | succ kj24 =>
            have H := HA.out
            clear HA
            simp only [shuttlelaw06_ConvSteps.j1] at H
            by_cases c28 : x58_24 = true
            · subst c28
              have H1 : (if t130 = 1 then (if t133 = 1 then (if (t126 == 0 && (t127 == 0 && (t128 == 0 && (t129 == 0)))) = true then (some (t132 == 0)) else (some false)) else (some false)) else (some false)) = some r := by rw [if_pos rfl] at H; exact H
              clear H
              have H := H1
              clear H1
              by_cases c29 : t130 = 1
              · rw [if_pos c29] at H
                have c29b0 : (t130 == 1) = true := beq_iff_eq.mpr c29
                have c29b1 : (t130 != 1) = false := bne_eq_false_iff_eq.mpr c29
                clear c29
                by_cases c30 : t133 = 1
                · rw [if_pos c30] at H
                  have c30b0 : (t133 == 1) = true := beq_iff_eq.mpr c30
                  have c30b1 : (t133 != 1) = false := bne_eq_false_iff_eq.mpr c30
                  clear c30
                  by_cases c31 : (t126 == 0 && (t127 == 0 && (t128 == 0 && (t129 == 0)))) = true
                  · rw [if_pos c31] at H
                    have c31b0 : (t126 == 0 && (t127 == 0 && (t128 == 0 && (t129 == 0)))) = true := c31
                    (try (have c31b1 : decide (t126 = 0 && (t127 == 0 && (t128 == 0 && (t129 == 0)))) = true := by simpa using c31))
                    (try (have c31b2 : (t126 == 0 && (t127 == 0 && (t128 == 0 && (t129 == 0)))) = true := by simpa using c31))
                    clear c31
                    obtain rfl := Option.some.inj H
                    have hcz32_0 : wc.cell? ⟨gb131, 0, none⟩ = some (.int .u8 t126) := (blk_cell BK131.out 0).trans rfl
                    have hcz32_1 : wc.cell? ⟨gb131, 1, none⟩ = some (.int .u8 t127) := (blk_cell BK131.out 1).trans rfl
                    have hcz32_2 : wc.cell? ⟨gb131, 2, none⟩ = some (.int .u8 t128) := (blk_cell BK131.out 2).trans rfl
                    have hcz32_3 : wc.cell? ⟨gb131, 3, none⟩ = some (.int .u8 t129) := (blk_cell BK131.out 3).trans rfl
                    have hfz32_0 := blk_frozen BK131.out 0
                    have hfz32_1 := blk_frozen BK131.out 1
                    have hfz32_2 := blk_frozen BK131.out 2
                    have hfz32_3 := blk_frozen BK131.out 3
                    go_wp2
                    go_ret
                    exact ⟨by first | rfl | (simp [errW_none, errW_some] <;> rfl) | (simp [*, errW_none, errW_some] <;> rfl), by repeat (first | (with_reducible first | exact HB.out | apply below_alloc | apply pw_below_drewN | apply below_drew1 | refine below_set ?_ GE131.out) | exact HB.out)⟩
                  · rw [if_neg c31] at H
                    have c31b0 : (t126 == 0 && (t127 == 0 && (t128 == 0 && (t129 == 0)))) = false := by simpa using c31
                    (try (have c31b1 : decide (t126 = 0 && (t127 == 0 && (t128 == 0 && (t129 == 0)))) = false := by simpa using c31))
                    (try (have c31b2 : (t126 == 0 && (t127 == 0 && (t128 == 0 && (t129 == 0)))) = false := by simpa using c31))
                    (try (have c31b3 : ¬ (t126 = 0 && (t127 == 0 && (t128 == 0 && (t129 == 0)))) := by simpa using c31))
                    clear c31
                    obtain rfl := Option.some.inj H
                    have hcz33_0 : wc.cell? ⟨gb131, 0, none⟩ = some (.int .u8 t126) := (blk_cell BK131.out 0).trans rfl
                    have hcz33_1 : wc.cell? ⟨gb131, 1, none⟩ = some (.int .u8 t127) := (blk_cell BK131.out 1).trans rfl
                    have hcz33_2 : wc.cell? ⟨gb131, 2, none⟩ = some (.int .u8 t128) := (blk_cell BK131.out 2).trans rfl
                    have hcz33_3 : wc.cell? ⟨gb131, 3, none⟩ = some (.int .u8 t129) := (blk_cell BK131.out 3).trans rfl
                    have hfz33_0 := blk_frozen BK131.out 0
                    have hfz33_1 := blk_frozen BK131.out 1
                    have hfz33_2 := blk_frozen BK131.out 2
                    have hfz33_3 := blk_frozen BK131.out 3
                    go_wp2
                    go_ret
                    exact ⟨by first | rfl | (simp [errW_none, errW_some] <;> rfl) | (simp [*, errW_none, errW_some] <;> rfl), by repeat (first | (with_reducible first | exact HB.out | apply below_alloc | apply pw_below_drewN | apply below_drew1 | refine below_set ?_ GE131.out) | exact HB.out)⟩
                · rw [if_neg c30] at H
                  have c30b0 : (t133 == 1) = false := beq_eq_false_iff_ne.mpr c30
                  have c30b1 : (t133 != 1) = true := bne_iff_ne.mpr c30
                  obtain rfl := Option.some.inj H
                  go_wp2
                  go_ret
                  exact ⟨by first | rfl | (simp [errW_none, errW_some] <;> rfl) | (simp [*, errW_none, errW_some] <;> rfl), by repeat (first | (with_reducible first | exact HB.out | apply below_alloc | apply pw_below_drewN | apply below_drew1 | refine below_set ?_ GE131.out) | exact HB.out)⟩
              · rw [if_neg c29] at H
                have c29b0 : (t130 == 1) = false := beq_eq_false_iff_ne.mpr c29
                have c29b1 : (t130 != 1) = true := bne_iff_ne.mpr c29
                obtain rfl := Option.some.inj H
                go_wp2
                go_ret
                exact ⟨by first | rfl | (simp [errW_none, errW_some] <;> rfl) | (simp [*, errW_none, errW_some] <;> rfl), by repeat (first | (with_reducible first | exact HB.out | apply below_alloc | apply pw_below_drewN | apply below_drew1 | refine below_set ?_ GE131.out) | exact HB.out)⟩
            · replace c28 := Bool.eq_false_iff.mpr c28
              subst c28
              have H1 : ((shuttleref06_List.f kj24 a0 a1).bind fun t137 => (shuttlelaw06_ConvSteps.l0 kj24 a0 a1 t130 t132 t133 t137 0 t126 t127 t128 t129)) = some r := by rw [if_neg (show ¬ (false = true) by decide)] at H; exact H
              clear H
              have H := H1
              clear H1
              replace H := Option.bind_eq_some_iff.mp H
              obtain ⟨t137, A340, H⟩ := H
              replace H : (shuttlelaw06_ConvSteps.l0 kj24 a0 a1 t130 t132 t133 t137 0 t126 t127 t128 t129) = some r := H
              have A34 := Aside0.mk A340
              clear A340
              have H' := Aside0.mk H
              clear H
              go_wp2_with (first | ((with_reducible refine gate_callee (f := 12) rfl ?_); refine goesL_ (some 76) rfl rfl Tryd.func12 (by kernel_rfl) rfl #[.int .i64 a0, .int .u8 a1] rfl (by (try simp only [List.map_toArray, List.map_cons, List.map_nil]); first | done | rfl | (simp only [List.length_drop, List.length_take]; rfl)) ?_; (with_reducible refine (shuttleref06_List.calls kj24 a0 a1 t137 _ A34.out).mono ?_); rintro e w35 ⟨v138, rfl, ho0, hb⟩; refine ⟨_, rfl, ?_⟩; have n0_ := Aside0.mk (Kd.R_lower ho0 (below_size (by repeat (first | (with_reducible first | exact HB.out | apply below_alloc | apply pw_below_drewN | apply below_drew1 | refine below_set ?_ GE131.out) | exact HB.out)))); have n1_ := Aside0.mk (blk_below (g := gb131) (o := .cells #[.int .u8 t126, .int .u8 t127, .int .u8 t128, .int .u8 t129] 22 (0, 0)) (by (with_reducible repeat (first | refine blk_drewN ?_ _ | refine blk_drew ?_ | refine blk_alloc ?_ _)); exact BK131.out) hb); have n2_ := Aside0.mk (below_step (by repeat (first | (with_reducible first | exact HB.out | apply below_alloc | apply pw_below_drewN | apply below_drew1 | refine below_set ?_ GE131.out) | exact HB.out)) hb); clear BK131; clear HB; have HO139 := n0_; have BK131 := n1_; have HB := n2_; clear n0_ n1_ n2_; (try clear hb); (try clear hb2); (try clear hk); (try clear hi); (try clear ho0)))
              go_loopg [12] kj24 (fun kq v12 w' => ∃ (x12_3 : Int), v12 = .int .i64 x12_3 ∧ Aside0 (shuttlelaw06_ConvSteps.l0 kq a0 a1 t130 t132 t133 t137 x12_3 t126 t127 t128 t129 = some r) ∧ Aside0 (kq ≤ kj24) ∧ Aside0 (Kd.R (Kd.int .u8) 5 w' w.heap.size (fun _ => True) v138 t137) ∧ Aside0 (w'.heap[gb131]? = some (.cells #[.int .u8 t126, .int .u8 t127, .int .u8 t128, .int .u8 t129] 22 (0, 0))) ∧ Aside0 (Below w.heap.size w w'))
              case atStart => exact ⟨(0), (by first | rfl | (simp; done) | (simp [*]; done)), H', ⟨Nat.le_refl _⟩, ⟨by (with_reducible repeat (first | apply Kd.R_alloc | apply Kd.R_drewN | apply Kd.R_drew)); exact HO139.out⟩, ⟨by (with_reducible repeat (first | refine blk_drewN ?_ _ | refine blk_drew ?_ | refine blk_alloc ?_ _)); exact BK131.out⟩, ⟨by repeat (first | (with_reducible first | exact HB.out | apply below_alloc | apply pw_below_drewN | apply below_drew1 | refine below_set ?_ GE131.out) | exact HB.out)⟩⟩
              case round =>
                clear H'
                try clear c1
                try clear c2
                try clear p2
                try clear c3
                try clear p6
                try clear c8
                try clear c9
                try clear c10
                try clear c11
                try clear c12
                try clear c12b0
                try clear c14
                try clear c14b0
                try clear c14b1
                try clear c15
                try clear c15b0
                try clear c19
                try clear c19b0
                try clear c24
                try clear c26
                try clear c26b0
                try clear c27
                try clear c27b0
                try clear c28
                try clear c29
                try clear c29b0
                try clear c29b1
                try clear c30
                try clear c30b0
                try clear c30b1
                try clear c31
                try clear c31b0
                try clear c31b1
                try clear c31b2
                try clear hcz32_0
                try clear hcz32_1
                try clear hcz32_2
                try clear hcz32_3
                try clear hcz33_0
                try clear hcz33_1
                try clear hcz33_2
                try clear hcz33_3
                try clear hcz9_0
                try clear hcz9_1
                try clear hcz9_2
                try clear hcz9_3
                try clear hfz32_0
                try clear hfz32_1
                try clear hfz32_2
                try clear hfz32_3
                try clear hfz33_0
                try clear hfz33_1
                try clear hfz33_2
                try clear hfz33_3
                try clear hfz9_0
                try clear hfz9_1
                try clear hfz9_2
                try clear hfz9_3
                try clear p2
                try clear p6
                obtain ⟨x12_3, rfl, HA, HK3, HO_11, BK131, HB⟩ := hrel
                cases gk with
                | zero => exact absurd HA.out (by simp [shuttlelaw06_ConvSteps.l0])
                | succ k3 =>
                  have H := HA.out
                  clear HA
                  simp only [shuttlelaw06_ConvSteps.l0] at H
                  by_cases c36 : x12_3 < 4
                  · rw [if_pos c36] at H
                    have c36b0 : decide (x12_3 < 4) = true := decide_eq_true c36
                    clear c36
                    by_cases c37 : x12_3 = 0
                    · rw [if_pos c37] at H
                      subst c37
                      replace H := Option.bind_eq_some_iff.mp H
                      obtain ⟨t143, A380, H⟩ := H
                      replace H : (if t126 = t143 then (shuttlelaw06_ConvSteps.l0 k3 a0 a1 t130 t132 t133 t137 (0 + 1) t126 t127 t128 t129) else (some false)) = some r := H
                      have A38 := Aside0.mk A380
                      clear A380
                      by_cases c39 : t126 = t143
                      · rw [if_pos c39] at H
                        have c39b0 : (t126 == t143) = true := beq_iff_eq.mpr c39
                        have c39b1 : (t126 != t143) = false := bne_eq_false_iff_eq.mpr c39
                        clear c39
                        have H' := Aside0.mk H
                        clear H
                        try go_wp2
                        have n0_ := Aside0.mk (Kd.R_drew HO_11.out)
                        have n1_ := Aside0.mk (blk_drew BK131.out)
                        have n2_ := Aside0.mk (below_drew1 HB.out)
                        clear HO_11
                        clear BK131
                        clear HB
                        have HO_11 := n0_
                        have BK131 := n1_
                        have HB := n2_
                        clear n0_ n1_ n2_
                        obtain ⟨Ao41, co41, eo41⟩ := Kd.R_slice HO_11.out
                        (first | subst eo41 | (injection eo41 with f1_ f2_ f3_; have f4_ := f1_.symm; have f5_ := f3_.symm; clear f1_ f2_ f3_; subst f4_; subst f5_))
                        refine start_ (n := 7) (S := fun w' => w'.cell? ⟨gb131, 0, none⟩ = some (.int .u8 t126) ∧ w'.cell? ⟨gb131, 1, none⟩ = some (.int .u8 t127) ∧ w'.cell? ⟨gb131, 2, none⟩ = some (.int .u8 t128) ∧ w'.cell? ⟨gb131, 3, none⟩ = some (.int .u8 t129)) (ds := []) #[false, false, false, false, false, false, false] (by kernel_rfl) rfl rfl ⟨(blk_cell BK131.out 0).trans rfl, (blk_cell BK131.out 1).trans rfl, (blk_cell BK131.out 2).trans rfl, (blk_cell BK131.out 3).trans rfl⟩ (fun hHeld => ?_)
                        generalize wr.drew = w40 at HO_11 BK131 HB hHeld ⊢
                        refine pure_ (i := 0) (N := some 81) (v := ?_) (a' := ?_) #[true, false, false, false, false, false, false] rfl rfl (by kernel_rfl) (fun _ _ _ h => h) (Or.inl ⟨by rfl, ?_⟩) ?_ ?_
                        rotate_left
                        · intro w'
                          go_simp
                          with_reducible rfl
                        rotate_left
                        · simp only [Act.put, List.setIfInBounds_toArray, List.set_cons_zero, List.set_cons_succ, i64_w, i32_w]
                          rfl
                        refine pure_ (i := 1) (N := some 82) (v := ?_) (a' := ?_) #[true, true, false, false, false, false, false] rfl rfl (by kernel_rfl) (fun _ _ _ h => h) (Or.inl ⟨by rfl, ?_⟩) ?_ ?_
                        rotate_left
                        · intro w'
                          go_simp
                          with_reducible rfl
                        rotate_left
                        · simp only [Act.put, List.setIfInBounds_toArray, List.set_cons_zero, List.set_cons_succ, i64_w, i32_w]
                          rfl
                        refine pure_ (i := 3) (N := some 84) (v := ?_) (a' := ?_) #[true, true, false, true, false, false, false] rfl rfl (by kernel_rfl) (fun _ _ _ h => h) (Or.inl ⟨by rfl, ?_⟩) ?_ ?_
                        rotate_left
                        · intro w'
                          go_simp
                          with_reducible rfl
                        rotate_left
                        · simp only [Act.put, List.setIfInBounds_toArray, List.set_cons_zero, List.set_cons_succ, i64_w, i32_w]
                          rfl
                        refine pure_ (i := 4) (N := some 85) (v := ?_) (a' := ?_) #[true, true, false, true, true, false, false] rfl rfl (by kernel_rfl) (fun _ _ _ h => h) (Or.inl ⟨by rfl, ?_⟩) ?_ ?_
                        rotate_left
                        · intro w'
                          go_simp
                          with_reducible rfl
                        rotate_left
                        · simp only [Act.put, List.setIfInBounds_toArray, List.set_cons_zero, List.set_cons_succ, i64_w, i32_w]
                          rfl
                        refine take_ (i := 2) (N := some 83) (v := ?_) (a' := ?_) #[true, true, true, true, true, false, false] rfl rfl (by kernel_rfl) (fun _ _ _ h => h) (Or.inl ⟨by rfl, ?_⟩) hHeld ?_ ?_
                        rotate_left
                        · rintro w' ⟨s0, s1, s2, s3⟩
                          go_simp
                          with_reducible rfl
                        rotate_left
                        · simp only [Act.put, List.setIfInBounds_toArray, List.set_cons_zero, List.set_cons_succ, i64_w, i32_w]
                          rfl
                        refine one_ (i := 5) (N := some 86) #[true, true, true, true, true, true, false] rfl rfl (by kernel_rfl) (by decide) (fun K hK => ?_)
                        refine goes_ Tryd.func13 (by kernel_rfl) rfl #[.slice Ao41 t137.length co41, .int .i64 6, .int .i64 0] (by rfl) rfl rfl (by (try simp only [List.map_toArray, List.map_cons, List.map_nil]); first | done | rfl | (simp only [List.length_drop, List.length_take]; rfl)) ?_
                        with_reducible refine (shuttleref06_Bit.calls _ _ t137 6 0 t143 _ ?side1 ?side2 A38.out).mono ?_
                        (case side1 => repeat (first | exact (Kd.R_reads' HO_11.out).2.2 | (with_reducible refine Kd.C_alloc ?_ _) | (with_reducible refine Kd.C_drewN ?_ _) | (with_reducible refine Kd.C_drew ?_)))
                        (case side2 => exact (Kd.R_reads' HO_11.out).2.1)
                        rintro e w42 ⟨rfl, hb⟩
                        refine ⟨_, rfl, ?_⟩
                        have n0_ := Aside0.mk (Kd.R_below (by (with_reducible repeat (first | apply Kd.R_alloc | apply Kd.R_drewN | apply Kd.R_drew)); exact HO_11.out) hb)
                        have n1_ := Aside0.mk (blk_below (g := gb131) (o := .cells #[.int .u8 t126, .int .u8 t127, .int .u8 t128, .int .u8 t129] 22 (0, 0)) (by (with_reducible repeat (first | refine blk_drewN ?_ _ | refine blk_drew ?_ | refine blk_alloc ?_ _)); exact BK131.out) hb)
                        have n2_ := Aside0.mk (below_step (by repeat (first | (with_reducible first | exact HB.out | apply below_alloc | apply pw_below_drewN | apply below_drew1 | refine below_set ?_ GE131.out) | exact HB.out)) hb)
                        clear HO_11
                        clear BK131
                        clear HB
                        have HO_11 := n0_
                        have BK131 := n1_
                        have HB := n2_
                        clear n0_ n1_ n2_
                        (try clear hb)
                        (try clear hb2)
                        (try clear hk)
                        (try clear hi)
                        refine hK.out _ _ ⟨(blk_cell BK131.out 0).trans rfl, (blk_cell BK131.out 1).trans rfl, (blk_cell BK131.out 2).trans rfl, (blk_cell BK131.out 3).trans rfl⟩ (fun hHeld => ?_)
                        clear hK K
                        refine norm_ (a' := ?_) ?_ ?_
                        rotate_left
                        · show Act.put _ (some 86) _ = _
                          simp only [Act.put, List.setIfInBounds_toArray, List.set_cons_zero, List.set_cons_succ, i64_w, i32_w]
                          rfl
                        refine pure_ (i := 6) (N := some 87) (v := ?_) (a' := ?_) #[true, true, true, true, true, true, true] rfl rfl (by kernel_rfl) (fun _ _ _ h => h) (Or.inl ⟨by rfl, ?_⟩) ?_ ?_
                        rotate_left
                        · intro w'
                          go_simp
                          with_reducible rfl
                        rotate_left
                        · simp only [Act.put, List.setIfInBounds_toArray, List.set_cons_zero, List.set_cons_succ, i64_w, i32_w]
                          rfl
                        refine done_ (by kernel_rfl) ?_
                        try go_wp2
                        go_roundg k3
                        case measure => have := HJ5.out; have := HJ24.out; have := HK3.out; omega
                        case rel => exact ⟨(0 + 1), (by first | rfl | (simp; done) | (simp [*]; done)), H', ⟨by have := HJ5.out; have := HJ24.out; have := HK3.out; omega⟩, ⟨by (with_reducible repeat (first | apply Kd.R_alloc | apply Kd.R_drewN | apply Kd.R_drew)); exact HO_11.out⟩, ⟨by (with_reducible repeat (first | refine blk_drewN ?_ _ | refine blk_drew ?_ | refine blk_alloc ?_ _)); exact BK131.out⟩, ⟨by repeat (first | (with_reducible first | exact HB.out | apply below_alloc | apply pw_below_drewN | apply below_drew1 | refine below_set ?_ GE131.out) | exact HB.out)⟩⟩
                      · rw [if_neg c39] at H
                        have c39b0 : (t126 == t143) = false := beq_eq_false_iff_ne.mpr c39
                        have c39b1 : (t126 != t143) = true := bne_iff_ne.mpr c39
                        obtain rfl := Option.some.inj H
                        try go_wp2
                        have n0_ := Aside0.mk (Kd.R_drew HO_11.out)
                        have n1_ := Aside0.mk (blk_drew BK131.out)
                        have n2_ := Aside0.mk (below_drew1 HB.out)
                        clear HO_11
                        clear BK131
                        clear HB
                        have HO_11 := n0_
                        have BK131 := n1_
                        have HB := n2_
                        clear n0_ n1_ n2_
                        obtain ⟨Ao44, co44, eo44⟩ := Kd.R_slice HO_11.out
                        (first | subst eo44 | (injection eo44 with f1_ f2_ f3_; have f4_ := f1_.symm; have f5_ := f3_.symm; clear f1_ f2_ f3_; subst f4_; subst f5_))
                        refine start_ (n := 7) (S := fun w' => w'.cell? ⟨gb131, 0, none⟩ = some (.int .u8 t126) ∧ w'.cell? ⟨gb131, 1, none⟩ = some (.int .u8 t127) ∧ w'.cell? ⟨gb131, 2, none⟩ = some (.int .u8 t128) ∧ w'.cell? ⟨gb131, 3, none⟩ = some (.int .u8 t129)) (ds := []) #[false, false, false, false, false, false, false] (by kernel_rfl) rfl rfl ⟨(blk_cell BK131.out 0).trans rfl, (blk_cell BK131.out 1).trans rfl, (blk_cell BK131.out 2).trans rfl, (blk_cell BK131.out 3).trans rfl⟩ (fun hHeld => ?_)
                        generalize wr.drew = w43 at HO_11 BK131 HB hHeld ⊢
                        refine pure_ (i := 0) (N := some 81) (v := ?_) (a' := ?_) #[true, false, false, false, false, false, false] rfl rfl (by kernel_rfl) (fun _ _ _ h => h) (Or.inl ⟨by rfl, ?_⟩) ?_ ?_
                        rotate_left
                        · intro w'
                          go_simp
                          with_reducible rfl
                        rotate_left
                        · simp only [Act.put, List.setIfInBounds_toArray, List.set_cons_zero, List.set_cons_succ, i64_w, i32_w]
                          rfl
                        refine pure_ (i := 1) (N := some 82) (v := ?_) (a' := ?_) #[true, true, false, false, false, false, false] rfl rfl (by kernel_rfl) (fun _ _ _ h => h) (Or.inl ⟨by rfl, ?_⟩) ?_ ?_
                        rotate_left
                        · intro w'
                          go_simp
                          with_reducible rfl
                        rotate_left
                        · simp only [Act.put, List.setIfInBounds_toArray, List.set_cons_zero, List.set_cons_succ, i64_w, i32_w]
                          rfl
                        refine pure_ (i := 3) (N := some 84) (v := ?_) (a' := ?_) #[true, true, false, true, false, false, false] rfl rfl (by kernel_rfl) (fun _ _ _ h => h) (Or.inl ⟨by rfl, ?_⟩) ?_ ?_
                        rotate_left
                        · intro w'
                          go_simp
                          with_reducible rfl
                        rotate_left
                        · simp only [Act.put, List.setIfInBounds_toArray, List.set_cons_zero, List.set_cons_succ, i64_w, i32_w]
                          rfl
                        refine pure_ (i := 4) (N := some 85) (v := ?_) (a' := ?_) #[true, true, false, true, true, false, false] rfl rfl (by kernel_rfl) (fun _ _ _ h => h) (Or.inl ⟨by rfl, ?_⟩) ?_ ?_
                        rotate_left
                        · intro w'
                          go_simp
                          with_reducible rfl
                        rotate_left
                        · simp only [Act.put, List.setIfInBounds_toArray, List.set_cons_zero, List.set_cons_succ, i64_w, i32_w]
                          rfl
                        refine take_ (i := 2) (N := some 83) (v := ?_) (a' := ?_) #[true, true, true, true, true, false, false] rfl rfl (by kernel_rfl) (fun _ _ _ h => h) (Or.inl ⟨by rfl, ?_⟩) hHeld ?_ ?_
                        rotate_left
                        · rintro w' ⟨s0, s1, s2, s3⟩
                          go_simp
                          with_reducible rfl
                        rotate_left
                        · simp only [Act.put, List.setIfInBounds_toArray, List.set_cons_zero, List.set_cons_succ, i64_w, i32_w]
                          rfl
                        refine one_ (i := 5) (N := some 86) #[true, true, true, true, true, true, false] rfl rfl (by kernel_rfl) (by decide) (fun K hK => ?_)
                        refine goes_ Tryd.func13 (by kernel_rfl) rfl #[.slice Ao44 t137.length co44, .int .i64 6, .int .i64 0] (by rfl) rfl rfl (by (try simp only [List.map_toArray, List.map_cons, List.map_nil]); first | done | rfl | (simp only [List.length_drop, List.length_take]; rfl)) ?_
                        with_reducible refine (shuttleref06_Bit.calls _ _ t137 6 0 t143 _ ?side1 ?side2 A38.out).mono ?_
                        (case side1 => repeat (first | exact (Kd.R_reads' HO_11.out).2.2 | (with_reducible refine Kd.C_alloc ?_ _) | (with_reducible refine Kd.C_drewN ?_ _) | (with_reducible refine Kd.C_drew ?_)))
                        (case side2 => exact (Kd.R_reads' HO_11.out).2.1)
                        rintro e w45 ⟨rfl, hb⟩
                        refine ⟨_, rfl, ?_⟩
                        have n0_ := Aside0.mk (Kd.R_below (by (with_reducible repeat (first | apply Kd.R_alloc | apply Kd.R_drewN | apply Kd.R_drew)); exact HO_11.out) hb)
                        have n1_ := Aside0.mk (blk_below (g := gb131) (o := .cells #[.int .u8 t126, .int .u8 t127, .int .u8 t128, .int .u8 t129] 22 (0, 0)) (by (with_reducible repeat (first | refine blk_drewN ?_ _ | refine blk_drew ?_ | refine blk_alloc ?_ _)); exact BK131.out) hb)
                        have n2_ := Aside0.mk (below_step (by repeat (first | (with_reducible first | exact HB.out | apply below_alloc | apply pw_below_drewN | apply below_drew1 | refine below_set ?_ GE131.out) | exact HB.out)) hb)
                        clear HO_11
                        clear BK131
                        clear HB
                        have HO_11 := n0_
                        have BK131 := n1_
                        have HB := n2_
                        clear n0_ n1_ n2_
                        (try clear hb)
                        (try clear hb2)
                        (try clear hk)
                        (try clear hi)
                        refine hK.out _ _ ⟨(blk_cell BK131.out 0).trans rfl, (blk_cell BK131.out 1).trans rfl, (blk_cell BK131.out 2).trans rfl, (blk_cell BK131.out 3).trans rfl⟩ (fun hHeld => ?_)
                        clear hK K
                        refine norm_ (a' := ?_) ?_ ?_
                        rotate_left
                        · show Act.put _ (some 86) _ = _
                          simp only [Act.put, List.setIfInBounds_toArray, List.set_cons_zero, List.set_cons_succ, i64_w, i32_w]
                          rfl
                        refine pure_ (i := 6) (N := some 87) (v := ?_) (a' := ?_) #[true, true, true, true, true, true, true] rfl rfl (by kernel_rfl) (fun _ _ _ h => h) (Or.inl ⟨by rfl, ?_⟩) ?_ ?_
                        rotate_left
                        · intro w'
                          go_simp
                          with_reducible rfl
                        rotate_left
                        · simp only [Act.put, List.setIfInBounds_toArray, List.set_cons_zero, List.set_cons_succ, i64_w, i32_w]
                          rfl
                        refine done_ (by kernel_rfl) ?_
                        try go_wp2
                        go_ret
                        exact ⟨by first | rfl | (simp [errW_none, errW_some] <;> rfl) | (simp [*, errW_none, errW_some] <;> rfl), by repeat (first | (with_reducible first | exact HB.out | apply below_alloc | apply pw_below_drewN | apply below_drew1 | refine below_set ?_ GE131.out) | exact HB.out)⟩
                    · rw [if_neg c37] at H
                      clear c37
                      by_cases c46 : x12_3 = 1
                      · rw [if_pos c46] at H
                        subst c46
                        replace H := Option.bind_eq_some_iff.mp H
                        obtain ⟨t142, A470, H⟩ := H
                        replace H : (if t127 = t142 then (shuttlelaw06_ConvSteps.l0 k3 a0 a1 t130 t132 t133 t137 (1 + 1) t126 t127 t128 t129) else (some false)) = some r := H
                        have A47 := Aside0.mk A470
                        clear A470
                        by_cases c48 : t127 = t142
                        · rw [if_pos c48] at H
                          have c48b0 : (t127 == t142) = true := beq_iff_eq.mpr c48
                          have c48b1 : (t127 != t142) = false := bne_eq_false_iff_eq.mpr c48
                          clear c48
                          have H' := Aside0.mk H
                          clear H
                          try go_wp2
                          have n0_ := Aside0.mk (Kd.R_drew HO_11.out)
                          have n1_ := Aside0.mk (blk_drew BK131.out)
                          have n2_ := Aside0.mk (below_drew1 HB.out)
                          clear HO_11
                          clear BK131
                          clear HB
                          have HO_11 := n0_
                          have BK131 := n1_
                          have HB := n2_
                          clear n0_ n1_ n2_
                          obtain ⟨Ao50, co50, eo50⟩ := Kd.R_slice HO_11.out
                          (first | subst eo50 | (injection eo50 with f1_ f2_ f3_; have f4_ := f1_.symm; have f5_ := f3_.symm; clear f1_ f2_ f3_; subst f4_; subst f5_))
                          refine start_ (n := 7) (S := fun w' => w'.cell? ⟨gb131, 0, none⟩ = some (.int .u8 t126) ∧ w'.cell? ⟨gb131, 1, none⟩ = some (.int .u8 t127) ∧ w'.cell? ⟨gb131, 2, none⟩ = some (.int .u8 t128) ∧ w'.cell? ⟨gb131, 3, none⟩ = some (.int .u8 t129)) (ds := []) #[false, false, false, false, false, false, false] (by kernel_rfl) rfl rfl ⟨(blk_cell BK131.out 0).trans rfl, (blk_cell BK131.out 1).trans rfl, (blk_cell BK131.out 2).trans rfl, (blk_cell BK131.out 3).trans rfl⟩ (fun hHeld => ?_)
                          generalize wr.drew = w49 at HO_11 BK131 HB hHeld ⊢
                          refine pure_ (i := 0) (N := some 81) (v := ?_) (a' := ?_) #[true, false, false, false, false, false, false] rfl rfl (by kernel_rfl) (fun _ _ _ h => h) (Or.inl ⟨by rfl, ?_⟩) ?_ ?_
                          rotate_left
                          · intro w'
                            go_simp
                            with_reducible rfl
                          rotate_left
                          · simp only [Act.put, List.setIfInBounds_toArray, List.set_cons_zero, List.set_cons_succ, i64_w, i32_w]
                            rfl
                          refine pure_ (i := 1) (N := some 82) (v := ?_) (a' := ?_) #[true, true, false, false, false, false, false] rfl rfl (by kernel_rfl) (fun _ _ _ h => h) (Or.inl ⟨by rfl, ?_⟩) ?_ ?_
                          rotate_left
                          · intro w'
                            go_simp
                            with_reducible rfl
                          rotate_left
                          · simp only [Act.put, List.setIfInBounds_toArray, List.set_cons_zero, List.set_cons_succ, i64_w, i32_w]
                            rfl
                          refine pure_ (i := 3) (N := some 84) (v := ?_) (a' := ?_) #[true, true, false, true, false, false, false] rfl rfl (by kernel_rfl) (fun _ _ _ h => h) (Or.inl ⟨by rfl, ?_⟩) ?_ ?_
                          rotate_left
                          · intro w'
                            go_simp
                            with_reducible rfl
                          rotate_left
                          · simp only [Act.put, List.setIfInBounds_toArray, List.set_cons_zero, List.set_cons_succ, i64_w, i32_w]
                            rfl
                          refine pure_ (i := 4) (N := some 85) (v := ?_) (a' := ?_) #[true, true, false, true, true, false, false] rfl rfl (by kernel_rfl) (fun _ _ _ h => h) (Or.inl ⟨by rfl, ?_⟩) ?_ ?_
                          rotate_left
                          · intro w'
                            go_simp
                            with_reducible rfl
                          rotate_left
                          · simp only [Act.put, List.setIfInBounds_toArray, List.set_cons_zero, List.set_cons_succ, i64_w, i32_w]
                            rfl
                          refine take_ (i := 2) (N := some 83) (v := ?_) (a' := ?_) #[true, true, true, true, true, false, false] rfl rfl (by kernel_rfl) (fun _ _ _ h => h) (Or.inl ⟨by rfl, ?_⟩) hHeld ?_ ?_
                          rotate_left
                          · rintro w' ⟨s0, s1, s2, s3⟩
                            go_simp
                            with_reducible rfl
                          rotate_left
                          · simp only [Act.put, List.setIfInBounds_toArray, List.set_cons_zero, List.set_cons_succ, i64_w, i32_w]
                            rfl
                          refine one_ (i := 5) (N := some 86) #[true, true, true, true, true, true, false] rfl rfl (by kernel_rfl) (by decide) (fun K hK => ?_)
                          refine goes_ Tryd.func13 (by kernel_rfl) rfl #[.slice Ao50 t137.length co50, .int .i64 6, .int .i64 1] (by rfl) rfl rfl (by (try simp only [List.map_toArray, List.map_cons, List.map_nil]); first | done | rfl | (simp only [List.length_drop, List.length_take]; rfl)) ?_
                          with_reducible refine (shuttleref06_Bit.calls _ _ t137 6 1 t142 _ ?side1 ?side2 A47.out).mono ?_
                          (case side1 => repeat (first | exact (Kd.R_reads' HO_11.out).2.2 | (with_reducible refine Kd.C_alloc ?_ _) | (with_reducible refine Kd.C_drewN ?_ _) | (with_reducible refine Kd.C_drew ?_)))
                          (case side2 => exact (Kd.R_reads' HO_11.out).2.1)
                          rintro e w51 ⟨rfl, hb⟩
                          refine ⟨_, rfl, ?_⟩
                          have n0_ := Aside0.mk (Kd.R_below (by (with_reducible repeat (first | apply Kd.R_alloc | apply Kd.R_drewN | apply Kd.R_drew)); exact HO_11.out) hb)
                          have n1_ := Aside0.mk (blk_below (g := gb131) (o := .cells #[.int .u8 t126, .int .u8 t127, .int .u8 t128, .int .u8 t129] 22 (0, 0)) (by (with_reducible repeat (first | refine blk_drewN ?_ _ | refine blk_drew ?_ | refine blk_alloc ?_ _)); exact BK131.out) hb)
                          have n2_ := Aside0.mk (below_step (by repeat (first | (with_reducible first | exact HB.out | apply below_alloc | apply pw_below_drewN | apply below_drew1 | refine below_set ?_ GE131.out) | exact HB.out)) hb)
                          clear HO_11
                          clear BK131
                          clear HB
                          have HO_11 := n0_
                          have BK131 := n1_
                          have HB := n2_
                          clear n0_ n1_ n2_
                          (try clear hb)
                          (try clear hb2)
                          (try clear hk)
                          (try clear hi)
                          refine hK.out _ _ ⟨(blk_cell BK131.out 0).trans rfl, (blk_cell BK131.out 1).trans rfl, (blk_cell BK131.out 2).trans rfl, (blk_cell BK131.out 3).trans rfl⟩ (fun hHeld => ?_)
                          clear hK K
                          refine norm_ (a' := ?_) ?_ ?_
                          rotate_left
                          · show Act.put _ (some 86) _ = _
                            simp only [Act.put, List.setIfInBounds_toArray, List.set_cons_zero, List.set_cons_succ, i64_w, i32_w]
                            rfl
                          refine pure_ (i := 6) (N := some 87) (v := ?_) (a' := ?_) #[true, true, true, true, true, true, true] rfl rfl (by kernel_rfl) (fun _ _ _ h => h) (Or.inl ⟨by rfl, ?_⟩) ?_ ?_
                          rotate_left
                          · intro w'
                            go_simp
                            with_reducible rfl
                          rotate_left
                          · simp only [Act.put, List.setIfInBounds_toArray, List.set_cons_zero, List.set_cons_succ, i64_w, i32_w]
                            rfl
                          refine done_ (by kernel_rfl) ?_
                          try go_wp2
                          go_roundg k3
                          case measure => have := HJ5.out; have := HJ24.out; have := HK3.out; omega
                          case rel => exact ⟨(1 + 1), (by first | rfl | (simp; done) | (simp [*]; done)), H', ⟨by have := HJ5.out; have := HJ24.out; have := HK3.out; omega⟩, ⟨by (with_reducible repeat (first | apply Kd.R_alloc | apply Kd.R_drewN | apply Kd.R_drew)); exact HO_11.out⟩, ⟨by (with_reducible repeat (first | refine blk_drewN ?_ _ | refine blk_drew ?_ | refine blk_alloc ?_ _)); exact BK131.out⟩, ⟨by repeat (first | (with_reducible first | exact HB.out | apply below_alloc | apply pw_below_drewN | apply below_drew1 | refine below_set ?_ GE131.out) | exact HB.out)⟩⟩
                        · rw [if_neg c48] at H
                          have c48b0 : (t127 == t142) = false := beq_eq_false_iff_ne.mpr c48
                          have c48b1 : (t127 != t142) = true := bne_iff_ne.mpr c48
                          obtain rfl := Option.some.inj H
                          try go_wp2
                          have n0_ := Aside0.mk (Kd.R_drew HO_11.out)
                          have n1_ := Aside0.mk (blk_drew BK131.out)
                          have n2_ := Aside0.mk (below_drew1 HB.out)
                          clear HO_11
                          clear BK131
                          clear HB
                          have HO_11 := n0_
                          have BK131 := n1_
                          have HB := n2_
                          clear n0_ n1_ n2_
                          obtain ⟨Ao53, co53, eo53⟩ := Kd.R_slice HO_11.out
                          (first | subst eo53 | (injection eo53 with f1_ f2_ f3_; have f4_ := f1_.symm; have f5_ := f3_.symm; clear f1_ f2_ f3_; subst f4_; subst f5_))
                          refine start_ (n := 7) (S := fun w' => w'.cell? ⟨gb131, 0, none⟩ = some (.int .u8 t126) ∧ w'.cell? ⟨gb131, 1, none⟩ = some (.int .u8 t127) ∧ w'.cell? ⟨gb131, 2, none⟩ = some (.int .u8 t128) ∧ w'.cell? ⟨gb131, 3, none⟩ = some (.int .u8 t129)) (ds := []) #[false, false, false, false, false, false, false] (by kernel_rfl) rfl rfl ⟨(blk_cell BK131.out 0).trans rfl, (blk_cell BK131.out 1).trans rfl, (blk_cell BK131.out 2).trans rfl, (blk_cell BK131.out 3).trans rfl⟩ (fun hHeld => ?_)
                          generalize wr.drew = w52 at HO_11 BK131 HB hHeld ⊢
                          refine pure_ (i := 0) (N := some 81) (v := ?_) (a' := ?_) #[true, false, false, false, false, false, false] rfl rfl (by kernel_rfl) (fun _ _ _ h => h) (Or.inl ⟨by rfl, ?_⟩) ?_ ?_
                          rotate_left
                          · intro w'
                            go_simp
                            with_reducible rfl
                          rotate_left
                          · simp only [Act.put, List.setIfInBounds_toArray, List.set_cons_zero, List.set_cons_succ, i64_w, i32_w]
                            rfl
                          refine pure_ (i := 1) (N := some 82) (v := ?_) (a' := ?_) #[true, true, false, false, false, false, false] rfl rfl (by kernel_rfl) (fun _ _ _ h => h) (Or.inl ⟨by rfl, ?_⟩) ?_ ?_
                          rotate_left
                          · intro w'
                            go_simp
                            with_reducible rfl
                          rotate_left
                          · simp only [Act.put, List.setIfInBounds_toArray, List.set_cons_zero, List.set_cons_succ, i64_w, i32_w]
                            rfl
                          refine pure_ (i := 3) (N := some 84) (v := ?_) (a' := ?_) #[true, true, false, true, false, false, false] rfl rfl (by kernel_rfl) (fun _ _ _ h => h) (Or.inl ⟨by rfl, ?_⟩) ?_ ?_
                          rotate_left
                          · intro w'
                            go_simp
                            with_reducible rfl
                          rotate_left
                          · simp only [Act.put, List.setIfInBounds_toArray, List.set_cons_zero, List.set_cons_succ, i64_w, i32_w]
                            rfl
                          refine pure_ (i := 4) (N := some 85) (v := ?_) (a' := ?_) #[true, true, false, true, true, false, false] rfl rfl (by kernel_rfl) (fun _ _ _ h => h) (Or.inl ⟨by rfl, ?_⟩) ?_ ?_
                          rotate_left
                          · intro w'
                            go_simp
                            with_reducible rfl
                          rotate_left
                          · simp only [Act.put, List.setIfInBounds_toArray, List.set_cons_zero, List.set_cons_succ, i64_w, i32_w]
                            rfl
                          refine take_ (i := 2) (N := some 83) (v := ?_) (a' := ?_) #[true, true, true, true, true, false, false] rfl rfl (by kernel_rfl) (fun _ _ _ h => h) (Or.inl ⟨by rfl, ?_⟩) hHeld ?_ ?_
                          rotate_left
                          · rintro w' ⟨s0, s1, s2, s3⟩
                            go_simp
                            with_reducible rfl
                          rotate_left
                          · simp only [Act.put, List.setIfInBounds_toArray, List.set_cons_zero, List.set_cons_succ, i64_w, i32_w]
                            rfl
                          refine one_ (i := 5) (N := some 86) #[true, true, true, true, true, true, false] rfl rfl (by kernel_rfl) (by decide) (fun K hK => ?_)
                          refine goes_ Tryd.func13 (by kernel_rfl) rfl #[.slice Ao53 t137.length co53, .int .i64 6, .int .i64 1] (by rfl) rfl rfl (by (try simp only [List.map_toArray, List.map_cons, List.map_nil]); first | done | rfl | (simp only [List.length_drop, List.length_take]; rfl)) ?_
                          with_reducible refine (shuttleref06_Bit.calls _ _ t137 6 1 t142 _ ?side1 ?side2 A47.out).mono ?_
                          (case side1 => repeat (first | exact (Kd.R_reads' HO_11.out).2.2 | (with_reducible refine Kd.C_alloc ?_ _) | (with_reducible refine Kd.C_drewN ?_ _) | (with_reducible refine Kd.C_drew ?_)))
                          (case side2 => exact (Kd.R_reads' HO_11.out).2.1)
                          rintro e w54 ⟨rfl, hb⟩
                          refine ⟨_, rfl, ?_⟩
                          have n0_ := Aside0.mk (Kd.R_below (by (with_reducible repeat (first | apply Kd.R_alloc | apply Kd.R_drewN | apply Kd.R_drew)); exact HO_11.out) hb)
                          have n1_ := Aside0.mk (blk_below (g := gb131) (o := .cells #[.int .u8 t126, .int .u8 t127, .int .u8 t128, .int .u8 t129] 22 (0, 0)) (by (with_reducible repeat (first | refine blk_drewN ?_ _ | refine blk_drew ?_ | refine blk_alloc ?_ _)); exact BK131.out) hb)
                          have n2_ := Aside0.mk (below_step (by repeat (first | (with_reducible first | exact HB.out | apply below_alloc | apply pw_below_drewN | apply below_drew1 | refine below_set ?_ GE131.out) | exact HB.out)) hb)
                          clear HO_11
                          clear BK131
                          clear HB
                          have HO_11 := n0_
                          have BK131 := n1_
                          have HB := n2_
                          clear n0_ n1_ n2_
                          (try clear hb)
                          (try clear hb2)
                          (try clear hk)
                          (try clear hi)
                          refine hK.out _ _ ⟨(blk_cell BK131.out 0).trans rfl, (blk_cell BK131.out 1).trans rfl, (blk_cell BK131.out 2).trans rfl, (blk_cell BK131.out 3).trans rfl⟩ (fun hHeld => ?_)
                          clear hK K
                          refine norm_ (a' := ?_) ?_ ?_
                          rotate_left
                          · show Act.put _ (some 86) _ = _
                            simp only [Act.put, List.setIfInBounds_toArray, List.set_cons_zero, List.set_cons_succ, i64_w, i32_w]
                            rfl
                          refine pure_ (i := 6) (N := some 87) (v := ?_) (a' := ?_) #[true, true, true, true, true, true, true] rfl rfl (by kernel_rfl) (fun _ _ _ h => h) (Or.inl ⟨by rfl, ?_⟩) ?_ ?_
                          rotate_left
                          · intro w'
                            go_simp
                            with_reducible rfl
                          rotate_left
                          · simp only [Act.put, List.setIfInBounds_toArray, List.set_cons_zero, List.set_cons_succ, i64_w, i32_w]
                            rfl
                          refine done_ (by kernel_rfl) ?_
                          try go_wp2
                          go_ret
                          exact ⟨by first | rfl | (simp [errW_none, errW_some] <;> rfl) | (simp [*, errW_none, errW_some] <;> rfl), by repeat (first | (with_reducible first | exact HB.out | apply below_alloc | apply pw_below_drewN | apply below_drew1 | refine below_set ?_ GE131.out) | exact HB.out)⟩
                      · rw [if_neg c46] at H
                        clear c46
                        by_cases c55 : x12_3 = 2
                        · rw [if_pos c55] at H
                          subst c55
                          replace H := Option.bind_eq_some_iff.mp H
                          obtain ⟨t141, A560, H⟩ := H
                          replace H : (if t128 = t141 then (shuttlelaw06_ConvSteps.l0 k3 a0 a1 t130 t132 t133 t137 (2 + 1) t126 t127 t128 t129) else (some false)) = some r := H
                          have A56 := Aside0.mk A560
                          clear A560
                          by_cases c57 : t128 = t141
                          · rw [if_pos c57] at H
                            have c57b0 : (t128 == t141) = true := beq_iff_eq.mpr c57
                            have c57b1 : (t128 != t141) = false := bne_eq_false_iff_eq.mpr c57
                            clear c57
                            have H' := Aside0.mk H
                            clear H
                            try go_wp2
                            have n0_ := Aside0.mk (Kd.R_drew HO_11.out)
                            have n1_ := Aside0.mk (blk_drew BK131.out)
                            have n2_ := Aside0.mk (below_drew1 HB.out)
                            clear HO_11
                            clear BK131
                            clear HB
                            have HO_11 := n0_
                            have BK131 := n1_
                            have HB := n2_
                            clear n0_ n1_ n2_
                            obtain ⟨Ao59, co59, eo59⟩ := Kd.R_slice HO_11.out
                            (first | subst eo59 | (injection eo59 with f1_ f2_ f3_; have f4_ := f1_.symm; have f5_ := f3_.symm; clear f1_ f2_ f3_; subst f4_; subst f5_))
                            refine start_ (n := 7) (S := fun w' => w'.cell? ⟨gb131, 0, none⟩ = some (.int .u8 t126) ∧ w'.cell? ⟨gb131, 1, none⟩ = some (.int .u8 t127) ∧ w'.cell? ⟨gb131, 2, none⟩ = some (.int .u8 t128) ∧ w'.cell? ⟨gb131, 3, none⟩ = some (.int .u8 t129)) (ds := []) #[false, false, false, false, false, false, false] (by kernel_rfl) rfl rfl ⟨(blk_cell BK131.out 0).trans rfl, (blk_cell BK131.out 1).trans rfl, (blk_cell BK131.out 2).trans rfl, (blk_cell BK131.out 3).trans rfl⟩ (fun hHeld => ?_)
                            generalize wr.drew = w58 at HO_11 BK131 HB hHeld ⊢
                            refine pure_ (i := 0) (N := some 81) (v := ?_) (a' := ?_) #[true, false, false, false, false, false, false] rfl rfl (by kernel_rfl) (fun _ _ _ h => h) (Or.inl ⟨by rfl, ?_⟩) ?_ ?_
                            rotate_left
                            · intro w'
                              go_simp
                              with_reducible rfl
                            rotate_left
                            · simp only [Act.put, List.setIfInBounds_toArray, List.set_cons_zero, List.set_cons_succ, i64_w, i32_w]
                              rfl
                            refine pure_ (i := 1) (N := some 82) (v := ?_) (a' := ?_) #[true, true, false, false, false, false, false] rfl rfl (by kernel_rfl) (fun _ _ _ h => h) (Or.inl ⟨by rfl, ?_⟩) ?_ ?_
                            rotate_left
                            · intro w'
                              go_simp
                              with_reducible rfl
                            rotate_left
                            · simp only [Act.put, List.setIfInBounds_toArray, List.set_cons_zero, List.set_cons_succ, i64_w, i32_w]
                              rfl
                            refine pure_ (i := 3) (N := some 84) (v := ?_) (a' := ?_) #[true, true, false, true, false, false, false] rfl rfl (by kernel_rfl) (fun _ _ _ h => h) (Or.inl ⟨by rfl, ?_⟩) ?_ ?_
                            rotate_left
                            · intro w'
                              go_simp
                              with_reducible rfl
                            rotate_left
                            · simp only [Act.put, List.setIfInBounds_toArray, List.set_cons_zero, List.set_cons_succ, i64_w, i32_w]
                              rfl
                            refine pure_ (i := 4) (N := some 85) (v := ?_) (a' := ?_) #[true, true, false, true, true, false, false] rfl rfl (by kernel_rfl) (fun _ _ _ h => h) (Or.inl ⟨by rfl, ?_⟩) ?_ ?_
                            rotate_left
                            · intro w'
                              go_simp
                              with_reducible rfl
                            rotate_left
                            · simp only [Act.put, List.setIfInBounds_toArray, List.set_cons_zero, List.set_cons_succ, i64_w, i32_w]
                              rfl
                            refine take_ (i := 2) (N := some 83) (v := ?_) (a' := ?_) #[true, true, true, true, true, false, false] rfl rfl (by kernel_rfl) (fun _ _ _ h => h) (Or.inl ⟨by rfl, ?_⟩) hHeld ?_ ?_
                            rotate_left
                            · rintro w' ⟨s0, s1, s2, s3⟩
                              go_simp
                              with_reducible rfl
                            rotate_left
                            · simp only [Act.put, List.setIfInBounds_toArray, List.set_cons_zero, List.set_cons_succ, i64_w, i32_w]
                              rfl
                            refine one_ (i := 5) (N := some 86) #[true, true, true, true, true, true, false] rfl rfl (by kernel_rfl) (by decide) (fun K hK => ?_)
                            refine goes_ Tryd.func13 (by kernel_rfl) rfl #[.slice Ao59 t137.length co59, .int .i64 6, .int .i64 2] (by rfl) rfl rfl (by (try simp only [List.map_toArray, List.map_cons, List.map_nil]); first | done | rfl | (simp only [List.length_drop, List.length_take]; rfl)) ?_
                            with_reducible refine (shuttleref06_Bit.calls _ _ t137 6 2 t141 _ ?side1 ?side2 A56.out).mono ?_
                            (case side1 => repeat (first | exact (Kd.R_reads' HO_11.out).2.2 | (with_reducible refine Kd.C_alloc ?_ _) | (with_reducible refine Kd.C_drewN ?_ _) | (with_reducible refine Kd.C_drew ?_)))
                            (case side2 => exact (Kd.R_reads' HO_11.out).2.1)
                            rintro e w60 ⟨rfl, hb⟩
                            refine ⟨_, rfl, ?_⟩
                            have n0_ := Aside0.mk (Kd.R_below (by (with_reducible repeat (first | apply Kd.R_alloc | apply Kd.R_drewN | apply Kd.R_drew)); exact HO_11.out) hb)
                            have n1_ := Aside0.mk (blk_below (g := gb131) (o := .cells #[.int .u8 t126, .int .u8 t127, .int .u8 t128, .int .u8 t129] 22 (0, 0)) (by (with_reducible repeat (first | refine blk_drewN ?_ _ | refine blk_drew ?_ | refine blk_alloc ?_ _)); exact BK131.out) hb)
                            have n2_ := Aside0.mk (below_step (by repeat (first | (with_reducible first | exact HB.out | apply below_alloc | apply pw_below_drewN | apply below_drew1 | refine below_set ?_ GE131.out) | exact HB.out)) hb)
                            clear HO_11
                            clear BK131
                            clear HB
                            have HO_11 := n0_
                            have BK131 := n1_
                            have HB := n2_
                            clear n0_ n1_ n2_
                            (try clear hb)
                            (try clear hb2)
                            (try clear hk)
                            (try clear hi)
                            refine hK.out _ _ ⟨(blk_cell BK131.out 0).trans rfl, (blk_cell BK131.out 1).trans rfl, (blk_cell BK131.out 2).trans rfl, (blk_cell BK131.out 3).trans rfl⟩ (fun hHeld => ?_)
                            clear hK K
                            refine norm_ (a' := ?_) ?_ ?_
                            rotate_left
                            · show Act.put _ (some 86) _ = _
                              simp only [Act.put, List.setIfInBounds_toArray, List.set_cons_zero, List.set_cons_succ, i64_w, i32_w]
                              rfl
                            refine pure_ (i := 6) (N := some 87) (v := ?_) (a' := ?_) #[true, true, true, true, true, true, true] rfl rfl (by kernel_rfl) (fun _ _ _ h => h) (Or.inl ⟨by rfl, ?_⟩) ?_ ?_
                            rotate_left
                            · intro w'
                              go_simp
                              with_reducible rfl
                            rotate_left
                            · simp only [Act.put, List.setIfInBounds_toArray, List.set_cons_zero, List.set_cons_succ, i64_w, i32_w]
                              rfl
                            refine done_ (by kernel_rfl) ?_
                            try go_wp2
                            go_roundg k3
                            case measure => have := HJ5.out; have := HJ24.out; have := HK3.out; omega
                            case rel => exact ⟨(2 + 1), (by first | rfl | (simp; done) | (simp [*]; done)), H', ⟨by have := HJ5.out; have := HJ24.out; have := HK3.out; omega⟩, ⟨by (with_reducible repeat (first | apply Kd.R_alloc | apply Kd.R_drewN | apply Kd.R_drew)); exact HO_11.out⟩, ⟨by (with_reducible repeat (first | refine blk_drewN ?_ _ | refine blk_drew ?_ | refine blk_alloc ?_ _)); exact BK131.out⟩, ⟨by repeat (first | (with_reducible first | exact HB.out | apply below_alloc | apply pw_below_drewN | apply below_drew1 | refine below_set ?_ GE131.out) | exact HB.out)⟩⟩
                          · rw [if_neg c57] at H
                            have c57b0 : (t128 == t141) = false := beq_eq_false_iff_ne.mpr c57
                            have c57b1 : (t128 != t141) = true := bne_iff_ne.mpr c57
                            obtain rfl := Option.some.inj H
                            try go_wp2
                            have n0_ := Aside0.mk (Kd.R_drew HO_11.out)
                            have n1_ := Aside0.mk (blk_drew BK131.out)
                            have n2_ := Aside0.mk (below_drew1 HB.out)
                            clear HO_11
                            clear BK131
                            clear HB
                            have HO_11 := n0_
                            have BK131 := n1_
                            have HB := n2_
                            clear n0_ n1_ n2_
                            obtain ⟨Ao62, co62, eo62⟩ := Kd.R_slice HO_11.out
                            (first | subst eo62 | (injection eo62 with f1_ f2_ f3_; have f4_ := f1_.symm; have f5_ := f3_.symm; clear f1_ f2_ f3_; subst f4_; subst f5_))
                            refine start_ (n := 7) (S := fun w' => w'.cell? ⟨gb131, 0, none⟩ = some (.int .u8 t126) ∧ w'.cell? ⟨gb131, 1, none⟩ = some (.int .u8 t127) ∧ w'.cell? ⟨gb131, 2, none⟩ = some (.int .u8 t128) ∧ w'.cell? ⟨gb131, 3, none⟩ = some (.int .u8 t129)) (ds := []) #[false, false, false, false, false, false, false] (by kernel_rfl) rfl rfl ⟨(blk_cell BK131.out 0).trans rfl, (blk_cell BK131.out 1).trans rfl, (blk_cell BK131.out 2).trans rfl, (blk_cell BK131.out 3).trans rfl⟩ (fun hHeld => ?_)
                            generalize wr.drew = w61 at HO_11 BK131 HB hHeld ⊢
                            refine pure_ (i := 0) (N := some 81) (v := ?_) (a' := ?_) #[true, false, false, false, false, false, false] rfl rfl (by kernel_rfl) (fun _ _ _ h => h) (Or.inl ⟨by rfl, ?_⟩) ?_ ?_
                            rotate_left
                            · intro w'
                              go_simp
                              with_reducible rfl
                            rotate_left
                            · simp only [Act.put, List.setIfInBounds_toArray, List.set_cons_zero, List.set_cons_succ, i64_w, i32_w]
                              rfl
                            refine pure_ (i := 1) (N := some 82) (v := ?_) (a' := ?_) #[true, true, false, false, false, false, false] rfl rfl (by kernel_rfl) (fun _ _ _ h => h) (Or.inl ⟨by rfl, ?_⟩) ?_ ?_
                            rotate_left
                            · intro w'
                              go_simp
                              with_reducible rfl
                            rotate_left
                            · simp only [Act.put, List.setIfInBounds_toArray, List.set_cons_zero, List.set_cons_succ, i64_w, i32_w]
                              rfl
                            refine pure_ (i := 3) (N := some 84) (v := ?_) (a' := ?_) #[true, true, false, true, false, false, false] rfl rfl (by kernel_rfl) (fun _ _ _ h => h) (Or.inl ⟨by rfl, ?_⟩) ?_ ?_
                            rotate_left
                            · intro w'
                              go_simp
                              with_reducible rfl
                            rotate_left
                            · simp only [Act.put, List.setIfInBounds_toArray, List.set_cons_zero, List.set_cons_succ, i64_w, i32_w]
                              rfl
                            refine pure_ (i := 4) (N := some 85) (v := ?_) (a' := ?_) #[true, true, false, true, true, false, false] rfl rfl (by kernel_rfl) (fun _ _ _ h => h) (Or.inl ⟨by rfl, ?_⟩) ?_ ?_
                            rotate_left
                            · intro w'
                              go_simp
                              with_reducible rfl
                            rotate_left
                            · simp only [Act.put, List.setIfInBounds_toArray, List.set_cons_zero, List.set_cons_succ, i64_w, i32_w]
                              rfl
                            refine take_ (i := 2) (N := some 83) (v := ?_) (a' := ?_) #[true, true, true, true, true, false, false] rfl rfl (by kernel_rfl) (fun _ _ _ h => h) (Or.inl ⟨by rfl, ?_⟩) hHeld ?_ ?_
                            rotate_left
                            · rintro w' ⟨s0, s1, s2, s3⟩
                              go_simp
                              with_reducible rfl
                            rotate_left
                            · simp only [Act.put, List.setIfInBounds_toArray, List.set_cons_zero, List.set_cons_succ, i64_w, i32_w]
                              rfl
                            refine one_ (i := 5) (N := some 86) #[true, true, true, true, true, true, false] rfl rfl (by kernel_rfl) (by decide) (fun K hK => ?_)
                            refine goes_ Tryd.func13 (by kernel_rfl) rfl #[.slice Ao62 t137.length co62, .int .i64 6, .int .i64 2] (by rfl) rfl rfl (by (try simp only [List.map_toArray, List.map_cons, List.map_nil]); first | done | rfl | (simp only [List.length_drop, List.length_take]; rfl)) ?_
                            with_reducible refine (shuttleref06_Bit.calls _ _ t137 6 2 t141 _ ?side1 ?side2 A56.out).mono ?_
                            (case side1 => repeat (first | exact (Kd.R_reads' HO_11.out).2.2 | (with_reducible refine Kd.C_alloc ?_ _) | (with_reducible refine Kd.C_drewN ?_ _) | (with_reducible refine Kd.C_drew ?_)))
                            (case side2 => exact (Kd.R_reads' HO_11.out).2.1)
                            rintro e w63 ⟨rfl, hb⟩
                            refine ⟨_, rfl, ?_⟩
                            have n0_ := Aside0.mk (Kd.R_below (by (with_reducible repeat (first | apply Kd.R_alloc | apply Kd.R_drewN | apply Kd.R_drew)); exact HO_11.out) hb)
                            have n1_ := Aside0.mk (blk_below (g := gb131) (o := .cells #[.int .u8 t126, .int .u8 t127, .int .u8 t128, .int .u8 t129] 22 (0, 0)) (by (with_reducible repeat (first | refine blk_drewN ?_ _ | refine blk_drew ?_ | refine blk_alloc ?_ _)); exact BK131.out) hb)
                            have n2_ := Aside0.mk (below_step (by repeat (first | (with_reducible first | exact HB.out | apply below_alloc | apply pw_below_drewN | apply below_drew1 | refine below_set ?_ GE131.out) | exact HB.out)) hb)
                            clear HO_11
                            clear BK131
                            clear HB
                            have HO_11 := n0_
                            have BK131 := n1_
                            have HB := n2_
                            clear n0_ n1_ n2_
                            (try clear hb)
                            (try clear hb2)
                            (try clear hk)
                            (try clear hi)
                            refine hK.out _ _ ⟨(blk_cell BK131.out 0).trans rfl, (blk_cell BK131.out 1).trans rfl, (blk_cell BK131.out 2).trans rfl, (blk_cell BK131.out 3).trans rfl⟩ (fun hHeld => ?_)
                            clear hK K
                            refine norm_ (a' := ?_) ?_ ?_
                            rotate_left
                            · show Act.put _ (some 86) _ = _
                              simp only [Act.put, List.setIfInBounds_toArray, List.set_cons_zero, List.set_cons_succ, i64_w, i32_w]
                              rfl
                            refine pure_ (i := 6) (N := some 87) (v := ?_) (a' := ?_) #[true, true, true, true, true, true, true] rfl rfl (by kernel_rfl) (fun _ _ _ h => h) (Or.inl ⟨by rfl, ?_⟩) ?_ ?_
                            rotate_left
                            · intro w'
                              go_simp
                              with_reducible rfl
                            rotate_left
                            · simp only [Act.put, List.setIfInBounds_toArray, List.set_cons_zero, List.set_cons_succ, i64_w, i32_w]
                              rfl
                            refine done_ (by kernel_rfl) ?_
                            try go_wp2
                            go_ret
                            exact ⟨by first | rfl | (simp [errW_none, errW_some] <;> rfl) | (simp [*, errW_none, errW_some] <;> rfl), by repeat (first | (with_reducible first | exact HB.out | apply below_alloc | apply pw_below_drewN | apply below_drew1 | refine below_set ?_ GE131.out) | exact HB.out)⟩
                        · rw [if_neg c55] at H
                          clear c55
                          by_cases c64 : x12_3 = 3
                          · rw [if_pos c64] at H
                            subst c64
                            replace H := Option.bind_eq_some_iff.mp H
                            obtain ⟨t140, A650, H⟩ := H
                            replace H : (if t129 = t140 then (shuttlelaw06_ConvSteps.l0 k3 a0 a1 t130 t132 t133 t137 (3 + 1) t126 t127 t128 t129) else (some false)) = some r := H
                            have A65 := Aside0.mk A650
                            clear A650
                            by_cases c66 : t129 = t140
                            · rw [if_pos c66] at H
                              have c66b0 : (t129 == t140) = true := beq_iff_eq.mpr c66
                              have c66b1 : (t129 != t140) = false := bne_eq_false_iff_eq.mpr c66
                              clear c66
                              have H' := Aside0.mk H
                              clear H
                              try go_wp2
                              have n0_ := Aside0.mk (Kd.R_drew HO_11.out)
                              have n1_ := Aside0.mk (blk_drew BK131.out)
                              have n2_ := Aside0.mk (below_drew1 HB.out)
                              clear HO_11
                              clear BK131
                              clear HB
                              have HO_11 := n0_
                              have BK131 := n1_
                              have HB := n2_
                              clear n0_ n1_ n2_
                              obtain ⟨Ao68, co68, eo68⟩ := Kd.R_slice HO_11.out
                              (first | subst eo68 | (injection eo68 with f1_ f2_ f3_; have f4_ := f1_.symm; have f5_ := f3_.symm; clear f1_ f2_ f3_; subst f4_; subst f5_))
                              refine start_ (n := 7) (S := fun w' => w'.cell? ⟨gb131, 0, none⟩ = some (.int .u8 t126) ∧ w'.cell? ⟨gb131, 1, none⟩ = some (.int .u8 t127) ∧ w'.cell? ⟨gb131, 2, none⟩ = some (.int .u8 t128) ∧ w'.cell? ⟨gb131, 3, none⟩ = some (.int .u8 t129)) (ds := []) #[false, false, false, false, false, false, false] (by kernel_rfl) rfl rfl ⟨(blk_cell BK131.out 0).trans rfl, (blk_cell BK131.out 1).trans rfl, (blk_cell BK131.out 2).trans rfl, (blk_cell BK131.out 3).trans rfl⟩ (fun hHeld => ?_)
                              generalize wr.drew = w67 at HO_11 BK131 HB hHeld ⊢
                              refine pure_ (i := 0) (N := some 81) (v := ?_) (a' := ?_) #[true, false, false, false, false, false, false] rfl rfl (by kernel_rfl) (fun _ _ _ h => h) (Or.inl ⟨by rfl, ?_⟩) ?_ ?_
                              rotate_left
                              · intro w'
                                go_simp
                                with_reducible rfl
                              rotate_left
                              · simp only [Act.put, List.setIfInBounds_toArray, List.set_cons_zero, List.set_cons_succ, i64_w, i32_w]
                                rfl
                              refine pure_ (i := 1) (N := some 82) (v := ?_) (a' := ?_) #[true, true, false, false, false, false, false] rfl rfl (by kernel_rfl) (fun _ _ _ h => h) (Or.inl ⟨by rfl, ?_⟩) ?_ ?_
                              rotate_left
                              · intro w'
                                go_simp
                                with_reducible rfl
                              rotate_left
                              · simp only [Act.put, List.setIfInBounds_toArray, List.set_cons_zero, List.set_cons_succ, i64_w, i32_w]
                                rfl
                              refine pure_ (i := 3) (N := some 84) (v := ?_) (a' := ?_) #[true, true, false, true, false, false, false] rfl rfl (by kernel_rfl) (fun _ _ _ h => h) (Or.inl ⟨by rfl, ?_⟩) ?_ ?_
                              rotate_left
                              · intro w'
                                go_simp
                                with_reducible rfl
                              rotate_left
                              · simp only [Act.put, List.setIfInBounds_toArray, List.set_cons_zero, List.set_cons_succ, i64_w, i32_w]
                                rfl
                              refine pure_ (i := 4) (N := some 85) (v := ?_) (a' := ?_) #[true, true, false, true, true, false, false] rfl rfl (by kernel_rfl) (fun _ _ _ h => h) (Or.inl ⟨by rfl, ?_⟩) ?_ ?_
                              rotate_left
                              · intro w'
                                go_simp
                                with_reducible rfl
                              rotate_left
                              · simp only [Act.put, List.setIfInBounds_toArray, List.set_cons_zero, List.set_cons_succ, i64_w, i32_w]
                                rfl
                              refine take_ (i := 2) (N := some 83) (v := ?_) (a' := ?_) #[true, true, true, true, true, false, false] rfl rfl (by kernel_rfl) (fun _ _ _ h => h) (Or.inl ⟨by rfl, ?_⟩) hHeld ?_ ?_
                              rotate_left
                              · rintro w' ⟨s0, s1, s2, s3⟩
                                go_simp
                                with_reducible rfl
                              rotate_left
                              · simp only [Act.put, List.setIfInBounds_toArray, List.set_cons_zero, List.set_cons_succ, i64_w, i32_w]
                                rfl
                              refine one_ (i := 5) (N := some 86) #[true, true, true, true, true, true, false] rfl rfl (by kernel_rfl) (by decide) (fun K hK => ?_)
                              refine goes_ Tryd.func13 (by kernel_rfl) rfl #[.slice Ao68 t137.length co68, .int .i64 6, .int .i64 3] (by rfl) rfl rfl (by (try simp only [List.map_toArray, List.map_cons, List.map_nil]); first | done | rfl | (simp only [List.length_drop, List.length_take]; rfl)) ?_
                              with_reducible refine (shuttleref06_Bit.calls _ _ t137 6 3 t140 _ ?side1 ?side2 A65.out).mono ?_
                              (case side1 => repeat (first | exact (Kd.R_reads' HO_11.out).2.2 | (with_reducible refine Kd.C_alloc ?_ _) | (with_reducible refine Kd.C_drewN ?_ _) | (with_reducible refine Kd.C_drew ?_)))
                              (case side2 => exact (Kd.R_reads' HO_11.out).2.1)
                              rintro e w69 ⟨rfl, hb⟩
                              refine ⟨_, rfl, ?_⟩
                              have n0_ := Aside0.mk (Kd.R_below (by (with_reducible repeat (first | apply Kd.R_alloc | apply Kd.R_drewN | apply Kd.R_drew)); exact HO_11.out) hb)
                              have n1_ := Aside0.mk (blk_below (g := gb131) (o := .cells #[.int .u8 t126, .int .u8 t127, .int .u8 t128, .int .u8 t129] 22 (0, 0)) (by (with_reducible repeat (first | refine blk_drewN ?_ _ | refine blk_drew ?_ | refine blk_alloc ?_ _)); exact BK131.out) hb)
                              have n2_ := Aside0.mk (below_step (by repeat (first | (with_reducible first | exact HB.out | apply below_alloc | apply pw_below_drewN | apply below_drew1 | refine below_set ?_ GE131.out) | exact HB.out)) hb)
                              clear HO_11
                              clear BK131
                              clear HB
                              have HO_11 := n0_
                              have BK131 := n1_
                              have HB := n2_
                              clear n0_ n1_ n2_
                              (try clear hb)
                              (try clear hb2)
                              (try clear hk)
                              (try clear hi)
                              refine hK.out _ _ ⟨(blk_cell BK131.out 0).trans rfl, (blk_cell BK131.out 1).trans rfl, (blk_cell BK131.out 2).trans rfl, (blk_cell BK131.out 3).trans rfl⟩ (fun hHeld => ?_)
                              clear hK K
                              refine norm_ (a' := ?_) ?_ ?_
                              rotate_left
                              · show Act.put _ (some 86) _ = _
                                simp only [Act.put, List.setIfInBounds_toArray, List.set_cons_zero, List.set_cons_succ, i64_w, i32_w]
                                rfl
                              refine pure_ (i := 6) (N := some 87) (v := ?_) (a' := ?_) #[true, true, true, true, true, true, true] rfl rfl (by kernel_rfl) (fun _ _ _ h => h) (Or.inl ⟨by rfl, ?_⟩) ?_ ?_
                              rotate_left
                              · intro w'
                                go_simp
                                with_reducible rfl
                              rotate_left
                              · simp only [Act.put, List.setIfInBounds_toArray, List.set_cons_zero, List.set_cons_succ, i64_w, i32_w]
                                rfl
                              refine done_ (by kernel_rfl) ?_
                              try go_wp2
                              go_roundg k3
                              case measure => have := HJ5.out; have := HJ24.out; have := HK3.out; omega
                              case rel => exact ⟨(3 + 1), (by first | rfl | (simp; done) | (simp [*]; done)), H', ⟨by have := HJ5.out; have := HJ24.out; have := HK3.out; omega⟩, ⟨by (with_reducible repeat (first | apply Kd.R_alloc | apply Kd.R_drewN | apply Kd.R_drew)); exact HO_11.out⟩, ⟨by (with_reducible repeat (first | refine blk_drewN ?_ _ | refine blk_drew ?_ | refine blk_alloc ?_ _)); exact BK131.out⟩, ⟨by repeat (first | (with_reducible first | exact HB.out | apply below_alloc | apply pw_below_drewN | apply below_drew1 | refine below_set ?_ GE131.out) | exact HB.out)⟩⟩
                            · rw [if_neg c66] at H
                              have c66b0 : (t129 == t140) = false := beq_eq_false_iff_ne.mpr c66
                              have c66b1 : (t129 != t140) = true := bne_iff_ne.mpr c66
                              obtain rfl := Option.some.inj H
                              try go_wp2
                              have n0_ := Aside0.mk (Kd.R_drew HO_11.out)
                              have n1_ := Aside0.mk (blk_drew BK131.out)
                              have n2_ := Aside0.mk (below_drew1 HB.out)
                              clear HO_11
                              clear BK131
                              clear HB
                              have HO_11 := n0_
                              have BK131 := n1_
                              have HB := n2_
                              clear n0_ n1_ n2_
                              obtain ⟨Ao71, co71, eo71⟩ := Kd.R_slice HO_11.out
                              (first | subst eo71 | (injection eo71 with f1_ f2_ f3_; have f4_ := f1_.symm; have f5_ := f3_.symm; clear f1_ f2_ f3_; subst f4_; subst f5_))
                              refine start_ (n := 7) (S := fun w' => w'.cell? ⟨gb131, 0, none⟩ = some (.int .u8 t126) ∧ w'.cell? ⟨gb131, 1, none⟩ = some (.int .u8 t127) ∧ w'.cell? ⟨gb131, 2, none⟩ = some (.int .u8 t128) ∧ w'.cell? ⟨gb131, 3, none⟩ = some (.int .u8 t129)) (ds := []) #[false, false, false, false, false, false, false] (by kernel_rfl) rfl rfl ⟨(blk_cell BK131.out 0).trans rfl, (blk_cell BK131.out 1).trans rfl, (blk_cell BK131.out 2).trans rfl, (blk_cell BK131.out 3).trans rfl⟩ (fun hHeld => ?_)
                              generalize wr.drew = w70 at HO_11 BK131 HB hHeld ⊢
                              refine pure_ (i := 0) (N := some 81) (v := ?_) (a' := ?_) #[true, false, false, false, false, false, false] rfl rfl (by kernel_rfl) (fun _ _ _ h => h) (Or.inl ⟨by rfl, ?_⟩) ?_ ?_
                              rotate_left
                              · intro w'
                                go_simp
                                with_reducible rfl
                              rotate_left
                              · simp only [Act.put, List.setIfInBounds_toArray, List.set_cons_zero, List.set_cons_succ, i64_w, i32_w]
                                rfl
                              refine pure_ (i := 1) (N := some 82) (v := ?_) (a' := ?_) #[true, true, false, false, false, false, false] rfl rfl (by kernel_rfl) (fun _ _ _ h => h) (Or.inl ⟨by rfl, ?_⟩) ?_ ?_
                              rotate_left
                              · intro w'
                                go_simp
                                with_reducible rfl
                              rotate_left
                              · simp only [Act.put, List.setIfInBounds_toArray, List.set_cons_zero, List.set_cons_succ, i64_w, i32_w]
                                rfl
                              refine pure_ (i := 3) (N := some 84) (v := ?_) (a' := ?_) #[true, true, false, true, false, false, false] rfl rfl (by kernel_rfl) (fun _ _ _ h => h) (Or.inl ⟨by rfl, ?_⟩) ?_ ?_
                              rotate_left
                              · intro w'
                                go_simp
                                with_reducible rfl
                              rotate_left
                              · simp only [Act.put, List.setIfInBounds_toArray, List.set_cons_zero, List.set_cons_succ, i64_w, i32_w]
                                rfl
                              refine pure_ (i := 4) (N := some 85) (v := ?_) (a' := ?_) #[true, true, false, true, true, false, false] rfl rfl (by kernel_rfl) (fun _ _ _ h => h) (Or.inl ⟨by rfl, ?_⟩) ?_ ?_
                              rotate_left
                              · intro w'
                                go_simp
                                with_reducible rfl
                              rotate_left
                              · simp only [Act.put, List.setIfInBounds_toArray, List.set_cons_zero, List.set_cons_succ, i64_w, i32_w]
                                rfl
                              refine take_ (i := 2) (N := some 83) (v := ?_) (a' := ?_) #[true, true, true, true, true, false, false] rfl rfl (by kernel_rfl) (fun _ _ _ h => h) (Or.inl ⟨by rfl, ?_⟩) hHeld ?_ ?_
                              rotate_left
                              · rintro w' ⟨s0, s1, s2, s3⟩
                                go_simp
                                with_reducible rfl
                              rotate_left
                              · simp only [Act.put, List.setIfInBounds_toArray, List.set_cons_zero, List.set_cons_succ, i64_w, i32_w]
                                rfl
                              refine one_ (i := 5) (N := some 86) #[true, true, true, true, true, true, false] rfl rfl (by kernel_rfl) (by decide) (fun K hK => ?_)
                              refine goes_ Tryd.func13 (by kernel_rfl) rfl #[.slice Ao71 t137.length co71, .int .i64 6, .int .i64 3] (by rfl) rfl rfl (by (try simp only [List.map_toArray, List.map_cons, List.map_nil]); first | done | rfl | (simp only [List.length_drop, List.length_take]; rfl)) ?_
                              with_reducible refine (shuttleref06_Bit.calls _ _ t137 6 3 t140 _ ?side1 ?side2 A65.out).mono ?_
                              (case side1 => repeat (first | exact (Kd.R_reads' HO_11.out).2.2 | (with_reducible refine Kd.C_alloc ?_ _) | (with_reducible refine Kd.C_drewN ?_ _) | (with_reducible refine Kd.C_drew ?_)))
                              (case side2 => exact (Kd.R_reads' HO_11.out).2.1)
                              rintro e w72 ⟨rfl, hb⟩
                              refine ⟨_, rfl, ?_⟩
                              have n0_ := Aside0.mk (Kd.R_below (by (with_reducible repeat (first | apply Kd.R_alloc | apply Kd.R_drewN | apply Kd.R_drew)); exact HO_11.out) hb)
                              have n1_ := Aside0.mk (blk_below (g := gb131) (o := .cells #[.int .u8 t126, .int .u8 t127, .int .u8 t128, .int .u8 t129] 22 (0, 0)) (by (with_reducible repeat (first | refine blk_drewN ?_ _ | refine blk_drew ?_ | refine blk_alloc ?_ _)); exact BK131.out) hb)
                              have n2_ := Aside0.mk (below_step (by repeat (first | (with_reducible first | exact HB.out | apply below_alloc | apply pw_below_drewN | apply below_drew1 | refine below_set ?_ GE131.out) | exact HB.out)) hb)
                              clear HO_11
                              clear BK131
                              clear HB
                              have HO_11 := n0_
                              have BK131 := n1_
                              have HB := n2_
                              clear n0_ n1_ n2_
                              (try clear hb)
                              (try clear hb2)
                              (try clear hk)
                              (try clear hi)
                              refine hK.out _ _ ⟨(blk_cell BK131.out 0).trans rfl, (blk_cell BK131.out 1).trans rfl, (blk_cell BK131.out 2).trans rfl, (blk_cell BK131.out 3).trans rfl⟩ (fun hHeld => ?_)
                              clear hK K
                              refine norm_ (a' := ?_) ?_ ?_
                              rotate_left
                              · show Act.put _ (some 86) _ = _
                                simp only [Act.put, List.setIfInBounds_toArray, List.set_cons_zero, List.set_cons_succ, i64_w, i32_w]
                                rfl
                              refine pure_ (i := 6) (N := some 87) (v := ?_) (a' := ?_) #[true, true, true, true, true, true, true] rfl rfl (by kernel_rfl) (fun _ _ _ h => h) (Or.inl ⟨by rfl, ?_⟩) ?_ ?_
                              rotate_left
                              · intro w'
                                go_simp
                                with_reducible rfl
                              rotate_left
                              · simp only [Act.put, List.setIfInBounds_toArray, List.set_cons_zero, List.set_cons_succ, i64_w, i32_w]
                                rfl
                              refine done_ (by kernel_rfl) ?_
                              try go_wp2
                              go_ret
                              exact ⟨by first | rfl | (simp [errW_none, errW_some] <;> rfl) | (simp [*, errW_none, errW_some] <;> rfl), by repeat (first | (with_reducible first | exact HB.out | apply below_alloc | apply pw_below_drewN | apply below_drew1 | refine below_set ?_ GE131.out) | exact HB.out)⟩
                          · rw [if_neg c64] at H
                            clear c64
                            exact absurd H (by simp)
                  · rw [if_neg c36] at H
                    have c36b0 : decide (x12_3 < 4) = false := decide_eq_false c36
                    clear c36
                    by_cases c73 : t130 = 0
                    · rw [if_pos c73] at H
                      have c73b0 : (t130 == 0) = true := beq_iff_eq.mpr c73
                      have c73b1 : (t130 != 0) = false := bne_eq_false_iff_eq.mpr c73
                      clear c73
                      by_cases c74 : t133 = 0
                      · rw [if_pos c74] at H
                        have c74b0 : (t133 == 0) = true := beq_iff_eq.mpr c74
                        have c74b1 : (t133 != 0) = false := bne_eq_false_iff_eq.mpr c74
                        clear c74
                        obtain rfl := Option.some.inj H
                        go_wp2
                        go_ret
                        exact ⟨by first | rfl | (simp [errW_none, errW_some] <;> rfl) | (simp [*, errW_none, errW_some] <;> rfl), by repeat (first | (with_reducible first | exact HB.out | apply below_alloc | apply pw_below_drewN | apply below_drew1 | refine below_set ?_ GE131.out) | exact HB.out)⟩
                      · rw [if_neg c74] at H
                        have c74b0 : (t133 == 0) = false := beq_eq_false_iff_ne.mpr c74
                        have c74b1 : (t133 != 0) = true := bne_iff_ne.mpr c74
                        obtain rfl := Option.some.inj H
                        go_wp2
                        go_ret
                        exact ⟨by first | rfl | (simp [errW_none, errW_some] <;> rfl) | (simp [*, errW_none, errW_some] <;> rfl), by repeat (first | (with_reducible first | exact HB.out | apply below_alloc | apply pw_below_drewN | apply below_drew1 | refine below_set ?_ GE131.out) | exact HB.out)⟩
                    · rw [if_neg c73] at H
                      have c73b0 : (t130 == 0) = false := beq_eq_false_iff_ne.mpr c73
                      have c73b1 : (t130 != 0) = true := bne_iff_ne.mpr c73
                      obtain rfl := Option.some.inj H
                      go_wp2
                      go_ret
                      exact ⟨by first | rfl | (simp [errW_none, errW_some] <;> rfl) | (simp [*, errW_none, errW_some] <;> rfl), by repeat (first | (with_reducible first | exact HB.out | apply below_alloc | apply pw_below_drewN | apply below_drew1 | refine below_set ?_ GE131.out) | exact HB.out)⟩

/-- THE ONE PURE STATEMENT of shuttlelaw06_ConvSteps: yours. -/
def shuttlelaw06_ConvSteps.Pure : Prop := ∀ (a0 : Int) (a1 : Int) (a2 : Int), (Lit.int .i64 a0).wf = true → (Lit.int .u8 a1).wf = true → (Lit.int .i64 a2).wf = true → ∃ k, shuttlelaw06_ConvSteps.f k a0 a1 a2 = some true
theorem shuttlelaw06_ConvSteps.walk (P : shuttlelaw06_ConvSteps.Pure) (a0 : Int) (a1 : Int) (a2 : Int) (w : World) (w0 : (Lit.int .i64 a0).wf = true) (w1 : (Lit.int .u8 a1).wf = true) (w2 : (Lit.int .i64 a2).wf = true) (hT_ : TP w := by first | assumption | exact TP_of (by assumption : TP _) (by repeat (first | (with_reducible first | apply below_alloc | apply pw_below_drewN | apply below_drew1 | refine below_set ?_ (Aside0.out (by assumption))) | exact Aside0.out (by assumption) | exact Below.refl _ _))) :
    Calls Tryd.prog 3 #[.int .i64 a0, .int .u8 a1, .int .i64 a2] w fun e w' => e = .returned (.bool true) ∧ Below w.heap.size w w' := by
  obtain ⟨k, h⟩ := P a0 a1 a2 w0 w1 w2
  refine (shuttlelaw06_ConvSteps.calls k a0 a1 a2 true w h).mono ?_
  rintro e w' ⟨rfl, hd⟩
  exact ⟨rfl, hd⟩

end Go.Proofs.YtmjilfeadgancaaDoor.X
