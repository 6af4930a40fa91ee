/- Texts of this seat, one behind the other (merge.py): the walks of the functions that the law SpectrumLeast uses, and plain words on what they come to. No condition. -/
import Derived.Test.YtijpnlmejphfhaaDoorXMSpectrumLeast1
-- YtijpnlmejphfhaaDoorP34
namespace Go.Proofs.YtijpnlmejphfhaaDoor.P
open Go.RowKit Go.Proofs.YtijpnlmejphfhaaDoorW.PrintWords Go.Proofs.YtijpnlmejphfhaaDoorW.PrintLast Go.Proofs.YtijpnlmejphfhaaDoorW.PrintMore
attribute [local go_sem] max2_int min2_int max_two min_two max_three min_three max_four min_four   -- for this text's walks alone
set_option linter.unusedVariables false
set_option linter.unusedSimpArgs false

/-! ### shuttleref32_Count: function 14 -/
mutual
def shuttleref32_Count.l0 : Nat → Int → Int → Int → List Int → Int → Int → Int → Int → Int → Option (List Int)
  | 0, _, _, _, _, _, _, _, _, _ => none
  | k + 1, x1, x2, x3, x9, x10, x170000, x170001, x170002, x170003 => if (wrap64 (x10 + 6)) ≤ x2 then (shuttleref32_Count.l1 k x1 x2 x3 x9 x10 0 x170000 x170001 x170002 x170003) else (some x9)
def shuttleref32_Count.l1 : Nat → Int → Int → Int → List Int → Int → Int → Int → Int → Int → Int → Option (List Int)
  | 0, _, _, _, _, _, _, _, _, _, _ => none
  | k + 1, x1, x2, x3, x9, x10, x11, x170000, x170001, x170002, x170003 => if 0 ≤ x10 then (if x11 < (shl .i64 1 x10) then (shuttleref32_Count.l2 k x1 x2 x3 x9 x10 x11 ([] : List Int) 0 x170000 x170001 x170002 x170003) else (shuttleref32_Count.l0 k x1 x2 x3 x9 (wrap64 (x10 + 1)) x170000 x170001 x170002 x170003)) else (none)
def shuttleref32_Count.l2 : Nat → Int → Int → Int → List Int → Int → Int → List Int → Int → Int → Int → Int → Int → Option (List Int)
  | 0, _, _, _, _, _, _, _, _, _, _, _, _ => none
  | k + 1, x1, x2, x3, x9, x10, x11, x12, x13, x170000, x170001, x170002, x170003 => if x13 < x10 then (if 0 ≤ x13 then (if x12.length < 140737488355328 then (shuttleref32_Count.l2 k x1 x2 x3 x9 x10 x11 (x12 ++ [(Go.bits .and .i64 (shr .i64 x11 x13) 1) % 256]) (wrap64 (x13 + 1)) x170000 x170001 x170002 x170003) else (none)) else (none)) else (if 0 < (x12.length : Int) then (if (rd x12 0) = 1 then (if 0 ≤ (wrap64 (x10 - 1)) then (if (wrap64 (x10 - 1)) < (x12.length : Int) then (if (rd x12 (wrap64 (x10 - 1))) = 1 then ((shuttleref32_parted.f k x12).bind fun t178 => (shuttleref32_Count.j3 k x1 x2 x3 x9 x10 x11 x12 t178 x170000 x170001 x170002 x170003)) else (shuttleref32_Count.j3 k x1 x2 x3 x9 x10 x11 x12 true x170000 x170001 x170002 x170003)) else (none)) else (none)) else (shuttleref32_Count.j3 k x1 x2 x3 x9 x10 x11 x12 true x170000 x170001 x170002 x170003)) else (none))
def shuttleref32_Count.j3 : Nat → Int → Int → Int → List Int → Int → Int → List Int → Bool → Int → Int → Int → Int → Option (List Int)
  | 0, _, _, _, _, _, _, _, _, _, _, _, _ => none
  | k + 1, x1, x2, x3, x9, x10, x11, x12, x60, x170000, x170001, x170002, x170003 => if x60 = true then (shuttleref32_Count.l1 k x1 x2 x3 x9 x10 (wrap64 (x11 + 1)) x170000 x170001 x170002 x170003) else ((shuttleref06_Code.f k x12).bind fun t179 => (shuttleref32_Count.l3 k x1 x2 x3 x9 x10 x11 t179 0 0 x170000 x170001 x170002 x170003))
def shuttleref32_Count.l3 : Nat → Int → Int → Int → List Int → Int → Int → List Int → Int → Int → Int → Int → Int → Int → Option (List Int)
  | 0, _, _, _, _, _, _, _, _, _, _, _, _, _ => none
  | k + 1, x1, x2, x3, x9, x10, x11, x14, x15, x16, x170000, x170001, x170002, x170003 => if x16 < (x14.length : Int) then (if 0 ≤ x16 then ((shuttleref10_Version.f k (Int.tmod x16 4) (wrap64 ((wrap64 (Int.tdiv x16 4)) + x1))).bind fun t183 => (if t183 = 0 then (shuttleref32_Count.l3 k x1 x2 x3 x9 x10 x11 x14 (wrap64 (x15 + (wrap64 ((wrap64 (rd x14 x16)) * x170000)))) (wrap64 (x16 + 1)) x170000 x170001 x170002 x170003) else (if t183 = 1 then (shuttleref32_Count.l3 k x1 x2 x3 x9 x10 x11 x14 (wrap64 (x15 + (wrap64 ((wrap64 (rd x14 x16)) * x170001)))) (wrap64 (x16 + 1)) x170000 x170001 x170002 x170003) else (if t183 = 2 then (shuttleref32_Count.l3 k x1 x2 x3 x9 x10 x11 x14 (wrap64 (x15 + (wrap64 ((wrap64 (rd x14 x16)) * x170002)))) (wrap64 (x16 + 1)) x170000 x170001 x170002 x170003) else (if t183 = 3 then (shuttleref32_Count.l3 k x1 x2 x3 x9 x10 x11 x14 (wrap64 (x15 + (wrap64 ((wrap64 (rd x14 x16)) * x170003)))) (wrap64 (x16 + 1)) x170000 x170001 x170002 x170003) else (none)))))) else (none)) else (if x15 ≤ x3 then (if 0 ≤ x15 then (if x15 < (x9.length : Int) then (shuttleref32_Count.l1 k x1 x2 x3 (x9.set (x15 : Int).toNat (wrap64 ((rd x9 x15) + 1))) x10 (wrap64 (x11 + 1)) x170000 x170001 x170002 x170003) else (none)) else (none)) else (shuttleref32_Count.l1 k x1 x2 x3 x9 x10 (wrap64 (x11 + 1)) x170000 x170001 x170002 x170003))
end
def shuttleref32_Count.f (k : Nat) (a0_0 : Int) (a0_1 : Int) (a0_2 : Int) (a0_3 : Int) (a1 : Int) (a2 : Int) (a3 : Int) : Option (List Int) := if 0 ≤ (wrap64 (a3 + 1)) then (if (wrap64 (a3 + 1) : Int).toNat ≤ 35184372088832 then (shuttleref32_Count.l0 k a1 a2 a3 (List.replicate (wrap64 (a3 + 1) : Int).toNat 0) 1 a0_0 a0_1 a0_2 a0_3) else (none)) else (none)
theorem shuttleref32_Count.mono_l : ∀ k, (∀ y0 y1 y2 y3 y4 y5 y6 y7 y8, LeO (shuttleref32_Count.l0 k y0 y1 y2 y3 y4 y5 y6 y7 y8) (shuttleref32_Count.l0 (k + 1) y0 y1 y2 y3 y4 y5 y6 y7 y8)) ∧ (∀ y0 y1 y2 y3 y4 y5 y6 y7 y8 y9, LeO (shuttleref32_Count.l1 k y0 y1 y2 y3 y4 y5 y6 y7 y8 y9) (shuttleref32_Count.l1 (k + 1) y0 y1 y2 y3 y4 y5 y6 y7 y8 y9)) ∧ (∀ y0 y1 y2 y3 y4 y5 y6 y7 y8 y9 y10 y11, LeO (shuttleref32_Count.l2 k y0 y1 y2 y3 y4 y5 y6 y7 y8 y9 y10 y11) (shuttleref32_Count.l2 (k + 1) y0 y1 y2 y3 y4 y5 y6 y7 y8 y9 y10 y11)) ∧ (∀ y0 y1 y2 y3 y4 y5 y6 y7 y8 y9 y10 y11, LeO (shuttleref32_Count.j3 k y0 y1 y2 y3 y4 y5 y6 y7 y8 y9 y10 y11) (shuttleref32_Count.j3 (k + 1) y0 y1 y2 y3 y4 y5 y6 y7 y8 y9 y10 y11)) ∧ (∀ y0 y1 y2 y3 y4 y5 y6 y7 y8 y9 y10 y11 y12, LeO (shuttleref32_Count.l3 k y0 y1 y2 y3 y4 y5 y6 y7 y8 y9 y10 y11 y12) (shuttleref32_Count.l3 (k + 1) y0 y1 y2 y3 y4 y5 y6 y7 y8 y9 y10 y11 y12))
  | 0 => ⟨fun _ _ _ _ _ _ _ _ _ r h => by simp [shuttleref32_Count.l0] at h, fun _ _ _ _ _ _ _ _ _ _ r h => by simp [shuttleref32_Count.l1] at h, fun _ _ _ _ _ _ _ _ _ _ _ _ r h => by simp [shuttleref32_Count.l2] at h, fun _ _ _ _ _ _ _ _ _ _ _ _ r h => by simp [shuttleref32_Count.j3] at h, fun _ _ _ _ _ _ _ _ _ _ _ _ _ r h => by simp [shuttleref32_Count.l3] at h⟩
  | k + 1 => by
    obtain ⟨ih0, ih1, ih2, ih3, ih4⟩ := shuttleref32_Count.mono_l k
    refine ⟨?_, ?_, ?_, ?_, ?_⟩
    · intro y0 y1 y2 y3 y4 y5 y6 y7 y8
      unfold shuttleref32_Count.l0
      repeat' first
      | (with_reducible exact ih0 _ _ _ _ _ _ _ _ _)
      | (with_reducible exact ih1 _ _ _ _ _ _ _ _ _ _)
      | (with_reducible exact ih2 _ _ _ _ _ _ _ _ _ _ _ _)
      | (with_reducible exact ih3 _ _ _ _ _ _ _ _ _ _ _ _)
      | (with_reducible exact ih4 _ _ _ _ _ _ _ _ _ _ _ _ _)
      | (with_reducible exact shuttleref06_Code.mono _ _)
      | (with_reducible exact shuttleref10_Version.mono _ _ _)
      | (with_reducible exact shuttleref32_parted.mono _ _)
      | (with_reducible exact LeO.refl _)
      | (with_reducible exact LeO.none _)
      | (with_reducible refine LeO.ite ?_ ?_)
      | (with_reducible refine LeO.bind ?_ (fun _ => ?_))
      | exact ih0 _ _ _ _ _ _ _ _ _
      | exact ih1 _ _ _ _ _ _ _ _ _ _
      | exact ih2 _ _ _ _ _ _ _ _ _ _ _ _
      | exact ih3 _ _ _ _ _ _ _ _ _ _ _ _
      | exact ih4 _ _ _ _ _ _ _ _ _ _ _ _ _
      | exact shuttleref06_Code.mono _ _
      | exact shuttleref10_Version.mono _ _ _
      | exact shuttleref32_parted.mono _ _
      | exact LeO.none _
      | refine LeO.ite ?_ ?_
      | refine LeO.bind ?_ (fun _ => ?_)
    · intro y0 y1 y2 y3 y4 y5 y6 y7 y8 y9
      unfold shuttleref32_Count.l1
      repeat' first
      | (with_reducible exact ih0 _ _ _ _ _ _ _ _ _)
      | (with_reducible exact ih1 _ _ _ _ _ _ _ _ _ _)
      | (with_reducible exact ih2 _ _ _ _ _ _ _ _ _ _ _ _)
      | (with_reducible exact ih3 _ _ _ _ _ _ _ _ _ _ _ _)
      | (with_reducible exact ih4 _ _ _ _ _ _ _ _ _ _ _ _ _)
      | (with_reducible exact shuttleref06_Code.mono _ _)
      | (with_reducible exact shuttleref10_Version.mono _ _ _)
      | (with_reducible exact shuttleref32_parted.mono _ _)
      | (with_reducible exact LeO.refl _)
      | (with_reducible exact LeO.none _)
      | (with_reducible refine LeO.ite ?_ ?_)
      | (with_reducible refine LeO.bind ?_ (fun _ => ?_))
      | exact ih0 _ _ _ _ _ _ _ _ _
      | exact ih1 _ _ _ _ _ _ _ _ _ _
      | exact ih2 _ _ _ _ _ _ _ _ _ _ _ _
      | exact ih3 _ _ _ _ _ _ _ _ _ _ _ _
      | exact ih4 _ _ _ _ _ _ _ _ _ _ _ _ _
      | exact shuttleref06_Code.mono _ _
      | exact shuttleref10_Version.mono _ _ _
      | exact shuttleref32_parted.mono _ _
      | exact LeO.none _
      | refine LeO.ite ?_ ?_
      | refine LeO.bind ?_ (fun _ => ?_)
    · intro y0 y1 y2 y3 y4 y5 y6 y7 y8 y9 y10 y11
      unfold shuttleref32_Count.l2
      repeat' first
      | (with_reducible exact ih0 _ _ _ _ _ _ _ _ _)
      | (with_reducible exact ih1 _ _ _ _ _ _ _ _ _ _)
      | (with_reducible exact ih2 _ _ _ _ _ _ _ _ _ _ _ _)
      | (with_reducible exact ih3 _ _ _ _ _ _ _ _ _ _ _ _)
      | (with_reducible exact ih4 _ _ _ _ _ _ _ _ _ _ _ _ _)
      | (with_reducible exact shuttleref06_Code.mono _ _)
      | (with_reducible exact shuttleref10_Version.mono _ _ _)
      | (with_reducible exact shuttleref32_parted.mono _ _)
      | (with_reducible exact LeO.refl _)
      | (with_reducible exact LeO.none _)
      | (with_reducible refine LeO.ite ?_ ?_)
      | (with_reducible refine LeO.bind ?_ (fun _ => ?_))
      | exact ih0 _ _ _ _ _ _ _ _ _
      | exact ih1 _ _ _ _ _ _ _ _ _ _
      | exact ih2 _ _ _ _ _ _ _ _ _ _ _ _
      | exact ih3 _ _ _ _ _ _ _ _ _ _ _ _
      | exact ih4 _ _ _ _ _ _ _ _ _ _ _ _ _
      | exact shuttleref06_Code.mono _ _
      | exact shuttleref10_Version.mono _ _ _
      | exact shuttleref32_parted.mono _ _
      | exact LeO.none _
      | refine LeO.ite ?_ ?_
      | refine LeO.bind ?_ (fun _ => ?_)
    · intro y0 y1 y2 y3 y4 y5 y6 y7 y8 y9 y10 y11
      unfold shuttleref32_Count.j3
      repeat' first
      | (with_reducible exact ih0 _ _ _ _ _ _ _ _ _)
      | (with_reducible exact ih1 _ _ _ _ _ _ _ _ _ _)
      | (with_reducible exact ih2 _ _ _ _ _ _ _ _ _ _ _ _)
      | (with_reducible exact ih3 _ _ _ _ _ _ _ _ _ _ _ _)
      | (with_reducible exact ih4 _ _ _ _ _ _ _ _ _ _ _ _ _)
      | (with_reducible exact shuttleref06_Code.mono _ _)
      | (with_reducible exact shuttleref10_Version.mono _ _ _)
      | (with_reducible exact shuttleref32_parted.mono _ _)
      | (with_reducible exact LeO.refl _)
      | (with_reducible exact LeO.none _)
      | (with_reducible refine LeO.ite ?_ ?_)
      | (with_reducible refine LeO.bind ?_ (fun _ => ?_))
      | exact ih0 _ _ _ _ _ _ _ _ _
      | exact ih1 _ _ _ _ _ _ _ _ _ _
      | exact ih2 _ _ _ _ _ _ _ _ _ _ _ _
      | exact ih3 _ _ _ _ _ _ _ _ _ _ _ _
      | exact ih4 _ _ _ _ _ _ _ _ _ _ _ _ _
      | exact shuttleref06_Code.mono _ _
      | exact shuttleref10_Version.mono _ _ _
      | exact shuttleref32_parted.mono _ _
      | exact LeO.none _
      | refine LeO.ite ?_ ?_
      | refine LeO.bind ?_ (fun _ => ?_)
    · intro y0 y1 y2 y3 y4 y5 y6 y7 y8 y9 y10 y11 y12
      unfold shuttleref32_Count.l3
      repeat' first
      | (with_reducible exact ih0 _ _ _ _ _ _ _ _ _)
      | (with_reducible exact ih1 _ _ _ _ _ _ _ _ _ _)
      | (with_reducible exact ih2 _ _ _ _ _ _ _ _ _ _ _ _)
      | (with_reducible exact ih3 _ _ _ _ _ _ _ _ _ _ _ _)
      | (with_reducible exact ih4 _ _ _ _ _ _ _ _ _ _ _ _ _)
      | (with_reducible exact shuttleref06_Code.mono _ _)
      | (with_reducible exact shuttleref10_Version.mono _ _ _)
      | (with_reducible exact shuttleref32_parted.mono _ _)
      | (with_reducible exact LeO.refl _)
      | (with_reducible exact LeO.none _)
      | (with_reducible refine LeO.ite ?_ ?_)
      | (with_reducible refine LeO.bind ?_ (fun _ => ?_))
      | exact ih0 _ _ _ _ _ _ _ _ _
      | exact ih1 _ _ _ _ _ _ _ _ _ _
      | exact ih2 _ _ _ _ _ _ _ _ _ _ _ _
      | exact ih3 _ _ _ _ _ _ _ _ _ _ _ _
      | exact ih4 _ _ _ _ _ _ _ _ _ _ _ _ _
      | exact shuttleref06_Code.mono _ _
      | exact shuttleref10_Version.mono _ _ _
      | exact shuttleref32_parted.mono _ _
      | exact LeO.none _
      | refine LeO.ite ?_ ?_
      | refine LeO.bind ?_ (fun _ => ?_)
theorem shuttleref32_Count.mono : ∀ a0 a1 a2 a3 a4 a5 a6 k, LeO (shuttleref32_Count.f k a0 a1 a2 a3 a4 a5 a6) (shuttleref32_Count.f (k + 1) a0 a1 a2 a3 a4 a5 a6) := by
  intro a0 a1 a2 a3 a4 a5 a6 k
  obtain ⟨ih0, ih1, ih2, ih3, ih4⟩ := shuttleref32_Count.mono_l k
  unfold shuttleref32_Count.f
  repeat' first
      | (with_reducible exact ih0 _ _ _ _ _ _ _ _ _)
      | (with_reducible exact ih1 _ _ _ _ _ _ _ _ _ _)
      | (with_reducible exact ih2 _ _ _ _ _ _ _ _ _ _ _ _)
      | (with_reducible exact ih3 _ _ _ _ _ _ _ _ _ _ _ _)
      | (with_reducible exact ih4 _ _ _ _ _ _ _ _ _ _ _ _ _)
      | (with_reducible exact shuttleref06_Code.mono _ _)
      | (with_reducible exact shuttleref10_Version.mono _ _ _)
      | (with_reducible exact shuttleref32_parted.mono _ _)
      | (with_reducible exact LeO.refl _)
      | (with_reducible exact LeO.none _)
      | (with_reducible refine LeO.ite ?_ ?_)
      | (with_reducible refine LeO.bind ?_ (fun _ => ?_))
      | exact ih0 _ _ _ _ _ _ _ _ _
      | exact ih1 _ _ _ _ _ _ _ _ _ _
      | exact ih2 _ _ _ _ _ _ _ _ _ _ _ _
      | exact ih3 _ _ _ _ _ _ _ _ _ _ _ _
      | exact ih4 _ _ _ _ _ _ _ _ _ _ _ _ _
      | exact shuttleref06_Code.mono _ _
      | exact shuttleref10_Version.mono _ _ _
      | exact shuttleref32_parted.mono _ _
      | exact LeO.none _
      | refine LeO.ite ?_ ?_
      | refine LeO.bind ?_ (fun _ => ?_)
set_option maxHeartbeats 8000000 in
set_option maxRecDepth 100000 in
theorem shuttleref32_Count.calls (k : Nat) (a0_0 : Int) (a0_1 : Int) (a0_2 : Int) (a0_3 : Int) (a1 : Int) (a2 : Int) (a3 : Int) (r : List Int) (w : World) (h : shuttleref32_Count.f k a0_0 a0_1 a0_2 a0_3 a1 a2 a3 = some r) :
    Calls Tryd.prog 14 #[.agg #[.int .i64 a0_0, .int .i64 a0_1, .int .i64 a0_2, .int .i64 a0_3], .int .i64 a1, .int .i64 a2, .int .i64 a3] w fun e w' => ∃ v0_ : Value, e = .returned (v0_) ∧ Kd.R (Kd.int .i64) 3 w' w.heap.size (fun _ => True) v0_ r ∧ Below w.heap.size w w' := by
  have hu22 := Tryd.underlying22
  have HB := Aside0.mk (Below.refl w.heap.size w)
  have H : (if 0 ≤ (wrap64 (a3 + 1)) then (if (wrap64 (a3 + 1) : Int).toNat ≤ 35184372088832 then (shuttleref32_Count.l0 k a1 a2 a3 (List.replicate (wrap64 (a3 + 1) : Int).toNat 0) 1 a0_0 a0_1 a0_2 a0_3) else (none)) else (none)) = some r := h
  clear h
  obtain ⟨ji5, hji5⟩ : ∃ j_ : Int, (wrap64 (a3 + 1)) = j_ := ⟨_, rfl⟩
  replace H : (if 0 ≤ (ji5) then (if (ji5 : Int).toNat ≤ 35184372088832 then (shuttleref32_Count.l0 k a1 a2 a3 (List.replicate (ji5 : Int).toNat 0) 1 a0_0 a0_1 a0_2 a0_3) else (none)) else (none)) = some r := by first | (rw [hji5] at H; exact H) | (simp only [hji5] at H ⊢; exact H)
  have hji5w : (IntKind.i64.wrap (a3 + 1)) = ji5 := (i64_w _).trans hji5
  by_cases c6 : 0 ≤ (ji5)
  · rw [if_pos c6] at H
    have c6b0 := eq_true c6
    have c6b1 : decide (0 ≤ (ji5)) = true := decide_eq_true c6
    clear c6
    by_cases c7 : (ji5 : Int).toNat ≤ 35184372088832
    · rw [if_pos c7] at H
      have c7b0 := eq_true c7
      have c7b1 : decide ((ji5 : Int).toNat ≤ 35184372088832) = true := decide_eq_true c7
      clear c7
      obtain ⟨y170, hy170⟩ : ∃ y_ : List Int, y_ = (List.replicate (ji5 : Int).toNat 0) := ⟨_, rfl⟩
      replace H : (shuttleref32_Count.l0 k a1 a2 a3 y170 1 a0_0 a0_1 a0_2 a0_3) = some r := by first | (rw [hy170]; with_reducible exact H) | (have H2_ := (Option.bind_some _ _).symm.trans H; rw [hy170]; with_reducible exact H2_) | (have H2_ := (Option.bind_some _ _).symm.trans H; with_reducible exact H2_) | with_reducible exact H | (rw [hy170]; exact H) | exact H
      have Ny170 := Aside0.mk hy170
      clear hy170
      have H' := Aside0.mk H
      clear H
      go_enter Tryd.func14, Tryd.ntmps14
      go_wp2_with (first | ((with_reducible refine gate_dst (N := 4) rfl ?_); refine box_event ?hg (N := 4) ?hd (cs := #[.int .i64 a0_0, .int .i64 a0_1, .int .i64 a0_2, .int .i64 a0_3]) (t := 22) ?hr ?_; (case hd => rfl); (case hg => rfl); (case hr => first | (go_simp; done) | (go_simp; rfl)); intro gb169 hg w8 hbox hb; have n0_ := Aside0.mk (below_step (by repeat (first | (with_reducible first | exact HB.out | apply below_alloc | apply pw_below_drewN | apply below_drew1) | exact HB.out)) hb); have n1_ := Aside0.mk (hbox); have n2_ := Aside0.mk ((by rw [hg]; exact (below_size (by repeat (first | (with_reducible first | exact HB.out | apply below_alloc | apply pw_below_drewN | apply below_drew1) | exact HB.out))) : w.heap.size ≤ gb169)); have n3_ := Aside0.mk ((by rw [hg]; exact (below_size (by repeat (first | (with_reducible first | exact HB.out | apply below_alloc | apply pw_below_drewN | apply below_drew1) | exact HB.out))) : w.heap.size ≤ gb169)); clear HB; have HB := n0_; have BK169 := n1_; have GW169 := n2_; have GE169 := n3_; clear n0_ n1_ n2_ n3_; clear hb hbox hg) | ((with_reducible refine gate_dst (N := 19) rfl ?_); refine Kd.R_make (Kd.int .i64) _ 3 rfl (N := 19) rfl 24 _ _ rfl ji5 rfl rfl Tryd.underlying24 (.int .i64 0) 8 info3 rfl (by decide) (by omega) 0 (ok := fun _ => True) (okp := fun _ => True) rfl (fun _ hk => hk) trivial (of_decide_eq_true (by first | (with_reducible assumption) | assumption)) (Nat.le_trans (Nat.mul_le_mul_right _ (of_decide_eq_true (by first | (with_reducible assumption) | assumption) : ji5.toNat ≤ 35184372088832)) (by omega)) (Below.refl _ _) (Nat.le_refl _) ?_; intro v171 w9 ho10 hb hg_ hnew_; clear hg_ hnew_; (first | rw [← Ny170.out] at ho10 | (simp only [Int.reduceToNat] at ho10; rw [← Ny170.out] at ho10)); have n0_ := Aside0.mk (Kd.R_lower ho10 (below_size (by repeat (first | (with_reducible first | exact HB.out | apply below_alloc | apply pw_below_drewN | apply below_drew1 | refine below_set ?_ GE169.out) | exact HB.out)))); have n1_ := Aside0.mk (blk_below (g := gb169) (o := .cells #[.int .i64 a0_0, .int .i64 a0_1, .int .i64 a0_2, .int .i64 a0_3] 22 (0, 0)) (by (with_reducible repeat (first | refine blk_drewN ?_ _ | refine blk_drew ?_ | refine blk_alloc ?_ _)); exact BK169.out) hb); have n2_ := Aside0.mk (below_step (by repeat (first | (with_reducible first | exact HB.out | apply below_alloc | apply pw_below_drewN | apply below_drew1 | refine below_set ?_ GE169.out) | exact HB.out)) hb); clear BK169; clear HB; have HO172 := n0_; have BK169 := n1_; have HB := n2_; clear n0_ n1_ n2_; clear hb ho10))
      repeat ((with_reducible refine gate_quiet ?_); go_quiet (first | ((with_reducible refine gate_dst (N := 4) rfl ?_); refine box_event ?hg (N := 4) ?hd (cs := #[.int .i64 a0_0, .int .i64 a0_1, .int .i64 a0_2, .int .i64 a0_3]) (t := 22) ?hr ?_; (case hd => rfl); (case hg => rfl); (case hr => first | (go_simp; done) | (go_simp; rfl)); intro gb169 hg w8 hbox hb; have n0_ := Aside0.mk (below_step (by repeat (first | (with_reducible first | exact HB.out | apply below_alloc | apply pw_below_drewN | apply below_drew1) | exact HB.out)) hb); have n1_ := Aside0.mk (hbox); have n2_ := Aside0.mk ((by rw [hg]; exact (below_size (by repeat (first | (with_reducible first | exact HB.out | apply below_alloc | apply pw_below_drewN | apply below_drew1) | exact HB.out))) : w.heap.size ≤ gb169)); have n3_ := Aside0.mk ((by rw [hg]; exact (below_size (by repeat (first | (with_reducible first | exact HB.out | apply below_alloc | apply pw_below_drewN | apply below_drew1) | exact HB.out))) : w.heap.size ≤ gb169)); clear HB; have HB := n0_; have BK169 := n1_; have GW169 := n2_; have GE169 := n3_; clear n0_ n1_ n2_ n3_; clear hb hbox hg) | ((with_reducible refine gate_dst (N := 19) rfl ?_); refine Kd.R_make (Kd.int .i64) _ 3 rfl (N := 19) rfl 24 _ _ rfl ji5 rfl rfl Tryd.underlying24 (.int .i64 0) 8 info3 rfl (by decide) (by omega) 0 (ok := fun _ => True) (okp := fun _ => True) rfl (fun _ hk => hk) trivial (of_decide_eq_true (by first | (with_reducible assumption) | assumption)) (Nat.le_trans (Nat.mul_le_mul_right _ (of_decide_eq_true (by first | (with_reducible assumption) | assumption) : ji5.toNat ≤ 35184372088832)) (by omega)) (Below.refl _ _) (Nat.le_refl _) ?_; intro v171 w9 ho10 hb hg_ hnew_; clear hg_ hnew_; (first | rw [← Ny170.out] at ho10 | (simp only [Int.reduceToNat] at ho10; rw [← Ny170.out] at ho10)); have n0_ := Aside0.mk (Kd.R_lower ho10 (below_size (by repeat (first | (with_reducible first | exact HB.out | apply below_alloc | apply pw_below_drewN | apply below_drew1 | refine below_set ?_ GE169.out) | exact HB.out)))); have n1_ := Aside0.mk (blk_below (g := gb169) (o := .cells #[.int .i64 a0_0, .int .i64 a0_1, .int .i64 a0_2, .int .i64 a0_3] 22 (0, 0)) (by (with_reducible repeat (first | refine blk_drewN ?_ _ | refine blk_drew ?_ | refine blk_alloc ?_ _)); exact BK169.out) hb); have n2_ := Aside0.mk (below_step (by repeat (first | (with_reducible first | exact HB.out | apply below_alloc | apply pw_below_drewN | apply below_drew1 | refine below_set ?_ GE169.out) | exact HB.out)) hb); clear BK169; clear HB; have HO172 := n0_; have BK169 := n1_; have HB := n2_; clear n0_ n1_ n2_; clear hb ho10)); try go_wp2_with (first | ((with_reducible refine gate_dst (N := 4) rfl ?_); refine box_event ?hg (N := 4) ?hd (cs := #[.int .i64 a0_0, .int .i64 a0_1, .int .i64 a0_2, .int .i64 a0_3]) (t := 22) ?hr ?_; (case hd => rfl); (case hg => rfl); (case hr => first | (go_simp; done) | (go_simp; rfl)); intro gb169 hg w8 hbox hb; have n0_ := Aside0.mk (below_step (by repeat (first | (with_reducible first | exact HB.out | apply below_alloc | apply pw_below_drewN | apply below_drew1) | exact HB.out)) hb); have n1_ := Aside0.mk (hbox); have n2_ := Aside0.mk ((by rw [hg]; exact (below_size (by repeat (first | (with_reducible first | exact HB.out | apply below_alloc | apply pw_below_drewN | apply below_drew1) | exact HB.out))) : w.heap.size ≤ gb169)); have n3_ := Aside0.mk ((by rw [hg]; exact (below_size (by repeat (first | (with_reducible first | exact HB.out | apply below_alloc | apply pw_below_drewN | apply below_drew1) | exact HB.out))) : w.heap.size ≤ gb169)); clear HB; have HB := n0_; have BK169 := n1_; have GW169 := n2_; have GE169 := n3_; clear n0_ n1_ n2_ n3_; clear hb hbox hg) | ((with_reducible refine gate_dst (N := 19) rfl ?_); refine Kd.R_make (Kd.int .i64) _ 3 rfl (N := 19) rfl 24 _ _ rfl ji5 rfl rfl Tryd.underlying24 (.int .i64 0) 8 info3 rfl (by decide) (by omega) 0 (ok := fun _ => True) (okp := fun _ => True) rfl (fun _ hk => hk) trivial (of_decide_eq_true (by first | (with_reducible assumption) | assumption)) (Nat.le_trans (Nat.mul_le_mul_right _ (of_decide_eq_true (by first | (with_reducible assumption) | assumption) : ji5.toNat ≤ 35184372088832)) (by omega)) (Below.refl _ _) (Nat.le_refl _) ?_; intro v171 w9 ho10 hb hg_ hnew_; clear hg_ hnew_; (first | rw [← Ny170.out] at ho10 | (simp only [Int.reduceToNat] at ho10; rw [← Ny170.out] at ho10)); have n0_ := Aside0.mk (Kd.R_lower ho10 (below_size (by repeat (first | (with_reducible first | exact HB.out | apply below_alloc | apply pw_below_drewN | apply below_drew1 | refine below_set ?_ GE169.out) | exact HB.out)))); have n1_ := Aside0.mk (blk_below (g := gb169) (o := .cells #[.int .i64 a0_0, .int .i64 a0_1, .int .i64 a0_2, .int .i64 a0_3] 22 (0, 0)) (by (with_reducible repeat (first | refine blk_drewN ?_ _ | refine blk_drew ?_ | refine blk_alloc ?_ _)); exact BK169.out) hb); have n2_ := Aside0.mk (below_step (by repeat (first | (with_reducible first | exact HB.out | apply below_alloc | apply pw_below_drewN | apply below_drew1 | refine below_set ?_ GE169.out) | exact HB.out)) hb); clear BK169; clear HB; have HO172 := n0_; have BK169 := n1_; have HB := n2_; clear n0_ n1_ n2_; clear hb ho10)))
      go_loopg [10] k (fun kq v10 w' => ∃ (x9_1 : List Int) (x10_1 : Int), v10 = .int .i64 x10_1 ∧ Aside0 (shuttleref32_Count.l0 kq a1 a2 a3 x9_1 x10_1 a0_0 a0_1 a0_2 a0_3 = some r) ∧ Aside0 (kq ≤ k) ∧ Aside0 (Kd.R (Kd.int .i64) 3 w' w.heap.size (fun _ => True) v171 x9_1) ∧ Aside0 (w'.heap[gb169]? = some (.cells #[.int .i64 a0_0, .int .i64 a0_1, .int .i64 a0_2, .int .i64 a0_3] 22 (0, 0))) ∧ Aside0 (Below w.heap.size w w'))
      case atStart => exact ⟨(y170), (1), (by first | rfl | (simp; done) | (simp [*]; done)), H', ⟨Nat.le_refl _⟩, ⟨by (with_reducible repeat (first | apply Kd.R_alloc | apply Kd.R_drewN | apply Kd.R_drew)); exact HO172.out⟩, ⟨by (with_reducible repeat (first | refine blk_drewN ?_ _ | refine blk_drew ?_ | refine blk_alloc ?_ _)); exact BK169.out⟩, ⟨by repeat (first | (with_reducible first | exact HB.out | apply below_alloc | apply pw_below_drewN | apply below_drew1 | refine below_set ?_ GE169.out) | exact HB.out)⟩⟩
      case round =>
        clear H'
        try clear c1
        try clear p2
        try clear c6
        try clear c6b0
        try clear c6b1
        try clear p6
        try clear c7
        try clear c7b0
        try clear c7b1
        obtain ⟨x9_1, x10_1, rfl, HA, HK1, HO_9, BK169, HB⟩ := hrel
        cases gk with
        | zero => exact absurd HA.out (by simp [shuttleref32_Count.l0])
        | succ k1 =>
          have H := HA.out
          clear HA
          simp only [shuttleref32_Count.l0] at H
          by_cases c11 : (wrap64 (x10_1 + 6)) ≤ a2
          · rw [if_pos c11] at H
            have c11b0 : decide ((wrap64 (x10_1 + 6)) ≤ a2) = true := decide_eq_true c11
            clear c11
            have H' := Aside0.mk H
            clear H
            go_wp2
            repeat ((with_reducible refine gate_quiet ?_); go_quiet (fail); try go_wp2)
            go_loopg [11] k1 (fun kq v11 w' => ∃ (x9_2 : List Int) (x11_2 : Int), v11 = .int .i64 x11_2 ∧ Aside0 (shuttleref32_Count.l1 kq a1 a2 a3 x9_2 x10_1 x11_2 a0_0 a0_1 a0_2 a0_3 = some r) ∧ Aside0 (kq ≤ k1) ∧ Aside0 (Kd.R (Kd.int .i64) 3 w' w.heap.size (fun _ => True) v171 x9_2) ∧ Aside0 (w'.heap[gb169]? = some (.cells #[.int .i64 a0_0, .int .i64 a0_1, .int .i64 a0_2, .int .i64 a0_3] 22 (0, 0))) ∧ Aside0 (Below w.heap.size w w'))
            case atStart => exact ⟨(x9_1), (0), (by first | rfl | (simp; done) | (simp [*]; done)), H', ⟨Nat.le_refl _⟩, ⟨by (with_reducible repeat (first | apply Kd.R_alloc | apply Kd.R_drewN | apply Kd.R_drew)); exact HO_9.out⟩, ⟨by (with_reducible repeat (first | refine blk_drewN ?_ _ | refine blk_drew ?_ | refine blk_alloc ?_ _)); exact BK169.out⟩, ⟨by repeat (first | (with_reducible first | exact HB.out | apply below_alloc | apply pw_below_drewN | apply below_drew1 | refine below_set ?_ GE169.out) | exact HB.out)⟩⟩
            case round =>
              clear H'
              try clear c1
              try clear p2
              try clear c6
              try clear c6b0
              try clear c6b1
              try clear p6
              try clear c7
              try clear c7b0
              try clear c7b1
              try clear c11
              try clear c11b0
              try clear p2
              try clear p6
              obtain ⟨x9_2, x11_2, rfl, HA, HK2, HO_9, BK169, HB⟩ := hrel
              cases gk with
              | zero => exact absurd HA.out (by simp [shuttleref32_Count.l1])
              | succ k2 =>
                have H := HA.out
                clear HA
                simp only [shuttleref32_Count.l1] at H
                by_cases c12 : 0 ≤ x10_1
                · rw [if_pos c12] at H
                  have c12b0 := eq_true c12
                  have c12b1 : decide (0 ≤ x10_1) = true := decide_eq_true c12
                  clear c12
                  obtain ⟨ji13, hji13⟩ : ∃ j_ : Int, (shl .i64 1 x10_1) = j_ := ⟨_, rfl⟩
                  replace H : (if x11_2 < (ji13) then (shuttleref32_Count.l2 k2 a1 a2 a3 x9_2 x10_1 x11_2 ([] : List Int) 0 a0_0 a0_1 a0_2 a0_3) else (shuttleref32_Count.l0 k2 a1 a2 a3 x9_2 (wrap64 (x10_1 + 1)) a0_0 a0_1 a0_2 a0_3)) = some r := by first | (rw [hji13] at H; exact H) | (simp only [hji13] at H ⊢; exact H)
                  have hji13_ : (IntKind.i64.wrap (1 * 2 ^ min x10_1.toNat 64)) = ji13 := hji13
                  have hji13z : x10_1 ≤ 64 → (IntKind.i64.wrap (1 * 2 ^ x10_1.toNat)) = ji13 := shl_small hji13
                  have hji13u : (IntKind.i64.wrap (2 ^ min x10_1.toNat 64)) = ji13 := by have h_ := hji13_; rw [Int.one_mul] at h_; exact h_
                  have hji13v : x10_1 ≤ 64 → (IntKind.i64.wrap (2 ^ x10_1.toNat)) = ji13 := fun hle_ => by have h_ := hji13z hle_; rw [Int.one_mul] at h_; exact h_
                  have hji13y : (wrap64 (1 * 2 ^ min x10_1.toNat 64)) = ji13 := (i64_w _).symm.trans hji13_
                  have hji13x : x10_1 ≤ 64 → (wrap64 (1 * 2 ^ x10_1.toNat)) = ji13 := fun h_ => (i64_w _).symm.trans (hji13z h_)
                  by_cases c14 : x11_2 < (ji13)
                  · rw [if_pos c14] at H
                    have c14b0 : decide (x11_2 < (ji13)) = true := decide_eq_true c14
                    clear c14
                    have H' := Aside0.mk H
                    clear H
                    go_wp2
                    repeat ((with_reducible refine gate_quiet ?_); go_quiet (fail); try go_wp2)
                    go_loopg [12, 13] k2 (fun kq v12 v13 w' => ∃ (x12_3 : List Int) (x13_3 : Int), v13 = .int .i64 x13_3 ∧ Aside0 (shuttleref32_Count.l2 kq a1 a2 a3 x9_2 x10_1 x11_2 x12_3 x13_3 a0_0 a0_1 a0_2 a0_3 = some r) ∧ Aside0 (kq ≤ k2) ∧ Aside0 (Kd.R (Kd.int .i64) 3 w' w.heap.size (fun _ => True) v171 x9_2) ∧ Aside0 (Kd.R (Kd.int .u8) 5 w' w.heap.size (fun _ => True) v12 x12_3) ∧ Aside0 (w'.heap[gb169]? = some (.cells #[.int .i64 a0_0, .int .i64 a0_1, .int .i64 a0_2, .int .i64 a0_3] 22 (0, 0))) ∧ Aside0 (Below w.heap.size w w'))
                    case atStart => exact ⟨(([] : List Int)), (0), (by first | rfl | (simp; done) | (simp [*]; done)), H', ⟨Nat.le_refl _⟩, ⟨by (with_reducible repeat (first | apply Kd.R_alloc | apply Kd.R_drewN | apply Kd.R_drew)); exact HO_9.out⟩, ⟨by first | exact Kd.R_nil _ _ _ _ _ | exact Kd.N_nil _ _ _ _ _ | exact Kd.V_nil _ _ _ _ _ | exact Kd.Q_nil _ _ _ _ _ | exact Kd.S_nil _ _ _ _ _⟩, ⟨by (with_reducible repeat (first | refine blk_drewN ?_ _ | refine blk_drew ?_ | refine blk_alloc ?_ _)); exact BK169.out⟩, ⟨by repeat (first | (with_reducible first | exact HB.out | apply below_alloc | apply pw_below_drewN | apply below_drew1 | refine below_set ?_ GE169.out) | exact HB.out)⟩⟩
                    case round =>
                      clear H'
                      try clear c1
                      try clear p2
                      try clear c6
                      try clear c6b0
                      try clear c6b1
                      try clear p6
                      try clear c7
                      try clear c7b0
                      try clear c7b1
                      try clear c11
                      try clear c11b0
                      try clear c12
                      try clear c12b0
                      try clear c12b1
                      try clear c14
                      try clear c14b0
                      try clear p2
                      try clear p6
                      obtain ⟨x12_3, x13_3, rfl, HA, HK3, HO_9, HO_12, BK169, HB⟩ := hrel
                      cases gk with
                      | zero => exact absurd HA.out (by simp [shuttleref32_Count.l2])
                      | succ k3 =>
                        have H := HA.out
                        clear HA
                        simp only [shuttleref32_Count.l2] at H
                        by_cases c15 : x13_3 < x10_1
                        · rw [if_pos c15] at H
                          have c15b0 : decide (x13_3 < x10_1) = true := decide_eq_true c15
                          clear c15
                          by_cases c16 : 0 ≤ x13_3
                          · rw [if_pos c16] at H
                            have c16b0 := eq_true c16
                            have c16b1 : decide (0 ≤ x13_3) = true := decide_eq_true c16
                            clear c16
                            obtain ⟨ji17, hji17⟩ : ∃ j_ : Int, (shr .i64 x11_2 x13_3) = j_ := ⟨_, rfl⟩
                            replace H : (if x12_3.length < 140737488355328 then (shuttleref32_Count.l2 k3 a1 a2 a3 x9_2 x10_1 x11_2 (x12_3 ++ [(Go.bits .and .i64 (ji17) 1) % 256]) (wrap64 (x13_3 + 1)) a0_0 a0_1 a0_2 a0_3) else (none)) = some r := by first | (rw [hji17] at H; exact H) | (simp only [hji17] at H ⊢; exact H)
                            have hji17_ : (x11_2 / 2 ^ min x13_3.toNat 64) = ji17 := hji17
                            have hji17z : x13_3 ≤ 64 → (x11_2 / 2 ^ x13_3.toNat) = ji17 := shr_small hji17
                            by_cases c18 : x12_3.length < 140737488355328
                            · rw [if_pos c18] at H
                              have LMc18 := Aside0.mk c18
                              clear c18
                              obtain ⟨y173, hy173⟩ : ∃ y_ : List Int, y_ = (x12_3 ++ [(Go.bits .and .i64 (ji17) 1) % 256]) := ⟨_, rfl⟩
                              replace H : (shuttleref32_Count.l2 k3 a1 a2 a3 x9_2 x10_1 x11_2 y173 (wrap64 (x13_3 + 1)) a0_0 a0_1 a0_2 a0_3) = some r := by first | (rw [hy173]; with_reducible exact H) | (have H2_ := (Option.bind_some _ _).symm.trans H; rw [hy173]; with_reducible exact H2_) | (have H2_ := (Option.bind_some _ _).symm.trans H; with_reducible exact H2_) | with_reducible exact H | (rw [hy173]; exact H) | exact H
                              have Ny173 := Aside0.mk hy173
                              clear hy173
                              have H' := Aside0.mk H
                              clear H
                              go_wp2_with (first | ((with_reducible refine gate_builtin (b := .append) (xs := #[.tmp 37, .tmp 43]) rfl ?_); at_builtin; refine Kd.R_append (Kd.int .u8) (w0 := w) w.heap.size rfl (.tmp 37) (.tmp 43) 39 5 (.int .u8 0) 1 rfl Tryd.underlying39 info5 rfl (by decide) (by omega) u12 x12_3 ((Go.bits .and .i64 (ji17) 1) % 256) [.int .u8 ((Go.bits .and .i64 (ji17) 1) % 256)] (fun _ => True) (fun _ => False) rfl rfl ?aP (fun _ hk => hk.elim) ?aF ?aO ?aB ?aS ?aL ?_; (case aP => exact rfl); (case aB => exact (by repeat (first | (with_reducible first | exact HB.out | apply below_alloc | apply pw_below_drewN | apply below_drew1 | refine below_set ?_ GE169.out) | exact HB.out))); (case aF => exact (fun _ _ => trivial)); (case aO => exact (by (with_reducible repeat (first | apply Kd.R_alloc | apply Kd.R_drewN | apply Kd.R_drew)); exact HO_12.out)); (case aS => exact (below_size (by repeat (first | (with_reducible first | exact HB.out | apply below_alloc | apply pw_below_drewN | apply below_drew1 | refine below_set ?_ GE169.out) | exact HB.out)))); (case aL => have := LMc18.out; omega); intro v174 w19 ho hb hg hat; rw [← Ny173.out] at ho; have n0_ := Aside0.mk (Kd.R_over' (by (with_reducible repeat (first | apply Kd.R_alloc | apply Kd.R_drewN | apply Kd.R_drew)); exact HO_9.out) (Kd.R_typed (by (with_reducible repeat (first | apply Kd.R_alloc | apply Kd.R_drewN | apply Kd.R_drew)); exact HO_12.out)) (by decide) hg); have n1_ := Aside0.mk (blk_grown (g := gb169) (o := .cells #[.int .i64 a0_0, .int .i64 a0_1, .int .i64 a0_2, .int .i64 a0_3] 22 (0, 0)) (by (with_reducible repeat (first | refine blk_drewN ?_ _ | refine blk_drew ?_ | refine blk_alloc ?_ _)); exact BK169.out) hg (Kd.R_ne HO_12.out BK169.out (by decide))); have n2_ := Aside0.mk (hb); have n3_ := Aside0.mk (ho); clear HO_9; clear BK169; clear HB; clear HO_12; have HO_9 := n0_; have BK169 := n1_; have HB := n2_; have HO175 := n3_; clear n0_ n1_ n2_ n3_; clear ho hb hg hat))
                              repeat ((with_reducible refine gate_quiet ?_); go_quiet (first | ((with_reducible refine gate_builtin (b := .append) (xs := #[.tmp 37, .tmp 43]) rfl ?_); at_builtin; refine Kd.R_append (Kd.int .u8) (w0 := w) w.heap.size rfl (.tmp 37) (.tmp 43) 39 5 (.int .u8 0) 1 rfl Tryd.underlying39 info5 rfl (by decide) (by omega) u12 x12_3 ((Go.bits .and .i64 (ji17) 1) % 256) [.int .u8 ((Go.bits .and .i64 (ji17) 1) % 256)] (fun _ => True) (fun _ => False) rfl rfl ?aP (fun _ hk => hk.elim) ?aF ?aO ?aB ?aS ?aL ?_; (case aP => exact rfl); (case aB => exact (by repeat (first | (with_reducible first | exact HB.out | apply below_alloc | apply pw_below_drewN | apply below_drew1 | refine below_set ?_ GE169.out) | exact HB.out))); (case aF => exact (fun _ _ => trivial)); (case aO => exact (by (with_reducible repeat (first | apply Kd.R_alloc | apply Kd.R_drewN | apply Kd.R_drew)); exact HO_12.out)); (case aS => exact (below_size (by repeat (first | (with_reducible first | exact HB.out | apply below_alloc | apply pw_below_drewN | apply below_drew1 | refine below_set ?_ GE169.out) | exact HB.out)))); (case aL => have := LMc18.out; omega); intro v174 w19 ho hb hg hat; rw [← Ny173.out] at ho; have n0_ := Aside0.mk (Kd.R_over' (by (with_reducible repeat (first | apply Kd.R_alloc | apply Kd.R_drewN | apply Kd.R_drew)); exact HO_9.out) (Kd.R_typed (by (with_reducible repeat (first | apply Kd.R_alloc | apply Kd.R_drewN | apply Kd.R_drew)); exact HO_12.out)) (by decide) hg); have n1_ := Aside0.mk (blk_grown (g := gb169) (o := .cells #[.int .i64 a0_0, .int .i64 a0_1, .int .i64 a0_2, .int .i64 a0_3] 22 (0, 0)) (by (with_reducible repeat (first | refine blk_drewN ?_ _ | refine blk_drew ?_ | refine blk_alloc ?_ _)); exact BK169.out) hg (Kd.R_ne HO_12.out BK169.out (by decide))); have n2_ := Aside0.mk (hb); have n3_ := Aside0.mk (ho); clear HO_9; clear BK169; clear HB; clear HO_12; have HO_9 := n0_; have BK169 := n1_; have HB := n2_; have HO175 := n3_; clear n0_ n1_ n2_ n3_; clear ho hb hg hat)); try go_wp2_with (first | ((with_reducible refine gate_builtin (b := .append) (xs := #[.tmp 37, .tmp 43]) rfl ?_); at_builtin; refine Kd.R_append (Kd.int .u8) (w0 := w) w.heap.size rfl (.tmp 37) (.tmp 43) 39 5 (.int .u8 0) 1 rfl Tryd.underlying39 info5 rfl (by decide) (by omega) u12 x12_3 ((Go.bits .and .i64 (ji17) 1) % 256) [.int .u8 ((Go.bits .and .i64 (ji17) 1) % 256)] (fun _ => True) (fun _ => False) rfl rfl ?aP (fun _ hk => hk.elim) ?aF ?aO ?aB ?aS ?aL ?_; (case aP => exact rfl); (case aB => exact (by repeat (first | (with_reducible first | exact HB.out | apply below_alloc | apply pw_below_drewN | apply below_drew1 | refine below_set ?_ GE169.out) | exact HB.out))); (case aF => exact (fun _ _ => trivial)); (case aO => exact (by (with_reducible repeat (first | apply Kd.R_alloc | apply Kd.R_drewN | apply Kd.R_drew)); exact HO_12.out)); (case aS => exact (below_size (by repeat (first | (with_reducible first | exact HB.out | apply below_alloc | apply pw_below_drewN | apply below_drew1 | refine below_set ?_ GE169.out) | exact HB.out)))); (case aL => have := LMc18.out; omega); intro v174 w19 ho hb hg hat; rw [← Ny173.out] at ho; have n0_ := Aside0.mk (Kd.R_over' (by (with_reducible repeat (first | apply Kd.R_alloc | apply Kd.R_drewN | apply Kd.R_drew)); exact HO_9.out) (Kd.R_typed (by (with_reducible repeat (first | apply Kd.R_alloc | apply Kd.R_drewN | apply Kd.R_drew)); exact HO_12.out)) (by decide) hg); have n1_ := Aside0.mk (blk_grown (g := gb169) (o := .cells #[.int .i64 a0_0, .int .i64 a0_1, .int .i64 a0_2, .int .i64 a0_3] 22 (0, 0)) (by (with_reducible repeat (first | refine blk_drewN ?_ _ | refine blk_drew ?_ | refine blk_alloc ?_ _)); exact BK169.out) hg (Kd.R_ne HO_12.out BK169.out (by decide))); have n2_ := Aside0.mk (hb); have n3_ := Aside0.mk (ho); clear HO_9; clear BK169; clear HB; clear HO_12; have HO_9 := n0_; have BK169 := n1_; have HB := n2_; have HO175 := n3_; clear n0_ n1_ n2_ n3_; clear ho hb hg hat)))
                              go_roundg k3
                              case measure => have := HK1.out; have := HK2.out; have := HK3.out; omega
                              case rel => exact ⟨(y173), (wrap64 (x13_3 + 1)), (by first | rfl | (simp; done) | (simp [*]; done)), H', ⟨by have := HK1.out; have := HK2.out; have := HK3.out; omega⟩, ⟨by (with_reducible repeat (first | apply Kd.R_alloc | apply Kd.R_drewN | apply Kd.R_drew)); exact HO_9.out⟩, ⟨by (with_reducible repeat (first | apply Kd.R_alloc | apply Kd.R_drewN | apply Kd.R_drew)); exact HO175.out⟩, ⟨by (with_reducible repeat (first | refine blk_drewN ?_ _ | refine blk_drew ?_ | refine blk_alloc ?_ _)); exact BK169.out⟩, ⟨by repeat (first | (with_reducible first | exact HB.out | apply below_alloc | apply pw_below_drewN | apply below_drew1 | refine below_set ?_ GE169.out) | exact HB.out)⟩⟩
                            · rw [if_neg c18] at H
                              exact absurd H (by simp)
                          · rw [if_neg c16] at H
                            exact absurd H (by simp)
                        · rw [if_neg c15] at H
                          have c15b0 : decide (x13_3 < x10_1) = false := decide_eq_false c15
                          clear c15
                          have HC20 := Aside0.mk H
                          clear H
                          go_upto_region 13 with (fail)
                          repeat ((with_reducible refine gate_quiet ?_); go_quiet (fail); go_upto_region 13 with (fail))
                          go_cut [60] (fun v60 wc => ∃ (kq : Nat) (x60_19 : Bool), v60 = .bool x60_19 ∧ Aside0 (shuttleref32_Count.j3 kq a1 a2 a3 x9_2 x10_1 x11_2 x12_3 x60_19 a0_0 a0_1 a0_2 a0_3 = some r) ∧ Aside0 (kq ≤ k3) ∧ Aside0 (Kd.R (Kd.int .i64) 3 wc w.heap.size (fun _ => True) v171 x9_2) ∧ Aside0 (Kd.R (Kd.int .u8) 5 wc w.heap.size (fun _ => True) u12 x12_3) ∧ Aside0 (wc.heap[gb169]? = some (.cells #[.int .i64 a0_0, .int .i64 a0_1, .int .i64 a0_2, .int .i64 a0_3] 22 (0, 0))) ∧ Aside0 (Below w.heap.size w wc))
                          case first =>
                            have H := HC20.out
                            clear HC20
                            by_cases c21 : 0 < (x12_3.length : Int)
                            · rw [if_pos c21] at H
                              have c21b0 : decide (0 < (x12_3.length : Int)) = true := decide_eq_true c21
                              have c21b1 : decide (0 < x12_3.length) = true := decide_eq_true (by omega)
                              clear c21
                              (first | rw [c21b0] | (simp only [i64_w, i32_w]; rw [c21b0]) | skip)
                              by_cases c22 : (rd x12_3 0) = 1
                              · rw [if_pos c22] at H
                                have c22b0 : ((rd x12_3 0) == 1) = true := beq_iff_eq.mpr c22
                                have c22b1 : ((rd x12_3 0) != 1) = false := bne_eq_false_iff_eq.mpr c22
                                clear c22
                                obtain ⟨ji23, hji23⟩ : ∃ j_ : Int, (wrap64 (x10_1 - 1)) = j_ := ⟨_, rfl⟩
                                replace H : (if 0 ≤ (ji23) then (if (ji23) < (x12_3.length : Int) then (if (rd x12_3 (ji23)) = 1 then ((shuttleref32_parted.f k3 x12_3).bind fun t178 => (shuttleref32_Count.j3 k3 a1 a2 a3 x9_2 x10_1 x11_2 x12_3 t178 a0_0 a0_1 a0_2 a0_3)) else (shuttleref32_Count.j3 k3 a1 a2 a3 x9_2 x10_1 x11_2 x12_3 true a0_0 a0_1 a0_2 a0_3)) else (none)) else (none)) = some r := by first | (rw [hji23] at H; exact H) | (simp only [hji23] at H ⊢; exact H)
                                have hji23w : (IntKind.i64.wrap (x10_1 - 1)) = ji23 := (i64_w _).trans hji23
                                by_cases c24 : 0 ≤ (ji23)
                                · rw [if_pos c24] at H
                                  have c24b0 : decide (0 ≤ (ji23)) = true := decide_eq_true c24
                                  clear c24
                                  by_cases c25 : (ji23) < (x12_3.length : Int)
                                  · rw [if_pos c25] at H
                                    have c25b0 : decide ((ji23) < (x12_3.length : Int)) = true := decide_eq_true c25
                                    clear c25
                                    by_cases c26 : (rd x12_3 (ji23)) = 1
                                    · rw [if_pos c26] at H
                                      have c26b0 : ((rd x12_3 (ji23)) == 1) = true := beq_iff_eq.mpr c26
                                      have c26b1 : ((rd x12_3 (ji23)) != 1) = false := bne_eq_false_iff_eq.mpr c26
                                      clear c26
                                      replace H := Option.bind_eq_some_iff.mp H
                                      obtain ⟨t178, A270, H⟩ := H
                                      replace H : (shuttleref32_Count.j3 k3 a1 a2 a3 x9_2 x10_1 x11_2 x12_3 t178 a0_0 a0_1 a0_2 a0_3) = some r := H
                                      have A27 := Aside0.mk A270
                                      clear A270
                                      have H' := Aside0.mk H
                                      clear H
                                      obtain ⟨Ao28, co28, eo28⟩ := Kd.R_slice HO_12.out
                                      subst eo28
                                      have p176 : 0 ≤ (0 : Int) := (by omega)
                                      have q176 : 0 < (x12_3.length : Int) := of_decide_eq_true (by first | (with_reducible assumption) | assumption)
                                      obtain ⟨ad176, e176, hx176_0⟩ := Kd.at_int (Kd.R_reads' HO_12.out).2.2 0 p176 q176
                                      cases e176
                                      have qi176 : (0 < x12_3.length) = True := eq_true (by omega)
                                      (try rw [show ((0 : Int)).toNat = 0 from rfl] at hx176_0)
                                      (try rw [Addr.add_zero'] at hx176_0)
                                      replace p176 := eq_true p176
                                      replace q176 := eq_true q176
                                      have p177 : 0 ≤ ((ji23) : Int) := of_decide_eq_true (by first | (with_reducible assumption) | assumption)
                                      have q177 : (ji23) < (x12_3.length : Int) := of_decide_eq_true (by first | (with_reducible assumption) | assumption)
                                      obtain ⟨ad177, e177, hx177_0⟩ := Kd.at_int (Kd.R_reads' HO_12.out).2.2 (ji23) p177 q177
                                      obtain rfl : ad176 = ad177 := (by injection e177)
                                      replace p177 := eq_true p177
                                      replace q177 := eq_true q177
                                      go_wp2_with (first | (go_at_call 29; (with_reducible refine (shuttleref32_parted.calls k3 _ _ x12_3 t178 _ ?side1 ?side2 A27.out).mono ?_); (case side1 => repeat (first | exact (Kd.R_reads' HO_12.out).2.2 | (with_reducible refine Kd.C_alloc ?_ _) | (with_reducible refine Kd.C_drewN ?_ _) | (with_reducible refine Kd.C_drew ?_))); (case side2 => exact (Kd.R_reads' HO_12.out).2.1); rintro e w' ⟨rfl, ⟨nd, rfl⟩⟩; (try first | exact ⟨rfl, _, World.drewN_drewN _ _ _⟩ | exact ⟨rfl, _, Eq.trans (World.drewN_drewN _ _ _) (congrArg (World.drewN _) (Nat.add_assoc _ _ _))⟩)))
                                      repeat ((with_reducible refine gate_quiet ?_); go_quiet (first | (go_at_call 29; (with_reducible refine (shuttleref32_parted.calls k3 _ _ x12_3 t178 _ ?side1 ?side2 A27.out).mono ?_); (case side1 => repeat (first | exact (Kd.R_reads' HO_12.out).2.2 | (with_reducible refine Kd.C_alloc ?_ _) | (with_reducible refine Kd.C_drewN ?_ _) | (with_reducible refine Kd.C_drew ?_))); (case side2 => exact (Kd.R_reads' HO_12.out).2.1); rintro e w' ⟨rfl, ⟨nd, rfl⟩⟩; (try first | exact ⟨rfl, _, World.drewN_drewN _ _ _⟩ | exact ⟨rfl, _, Eq.trans (World.drewN_drewN _ _ _) (congrArg (World.drewN _) (Nat.add_assoc _ _ _))⟩))); try go_wp2_with (first | (go_at_call 29; (with_reducible refine (shuttleref32_parted.calls k3 _ _ x12_3 t178 _ ?side1 ?side2 A27.out).mono ?_); (case side1 => repeat (first | exact (Kd.R_reads' HO_12.out).2.2 | (with_reducible refine Kd.C_alloc ?_ _) | (with_reducible refine Kd.C_drewN ?_ _) | (with_reducible refine Kd.C_drew ?_))); (case side2 => exact (Kd.R_reads' HO_12.out).2.1); rintro e w' ⟨rfl, ⟨nd, rfl⟩⟩; (try first | exact ⟨rfl, _, World.drewN_drewN _ _ _⟩ | exact ⟨rfl, _, Eq.trans (World.drewN_drewN _ _ _) (congrArg (World.drewN _) (Nat.add_assoc _ _ _))⟩))))
                                      go_meet
                                      case rel => exact ⟨_, (t178), (by first | rfl | (simp; done) | (simp [*]; done)), H', ⟨by have := HK1.out; have := HK2.out; have := HK3.out; first | omega | exact Nat.le_refl _⟩, ⟨by (with_reducible repeat (first | apply Kd.R_alloc | apply Kd.R_drewN | apply Kd.R_drew)); exact HO_9.out⟩, ⟨by (with_reducible repeat (first | apply Kd.R_alloc | apply Kd.R_drewN | apply Kd.R_drew)); exact HO_12.out⟩, ⟨by (with_reducible repeat (first | refine blk_drewN ?_ _ | refine blk_drew ?_ | refine blk_alloc ?_ _)); exact BK169.out⟩, ⟨by repeat (first | (with_reducible first | exact HB.out | apply below_alloc | apply pw_below_drewN | apply below_drew1 | refine below_set ?_ GE169.out) | exact HB.out)⟩⟩
                                    · rw [if_neg c26] at H
                                      have c26b0 : ((rd x12_3 (ji23)) == 1) = false := beq_eq_false_iff_ne.mpr c26
                                      have c26b1 : ((rd x12_3 (ji23)) != 1) = true := bne_iff_ne.mpr c26
                                      have H' := Aside0.mk H
                                      clear H
                                      obtain ⟨Ao29, co29, eo29⟩ := Kd.R_slice HO_12.out
                                      subst eo29
                                      have p176 : 0 ≤ (0 : Int) := (by omega)
                                      have q176 : 0 < (x12_3.length : Int) := of_decide_eq_true (by first | (with_reducible assumption) | assumption)
                                      obtain ⟨ad176, e176, hx176_0⟩ := Kd.at_int (Kd.R_reads' HO_12.out).2.2 0 p176 q176
                                      cases e176
                                      have qi176 : (0 < x12_3.length) = True := eq_true (by omega)
                                      (try rw [show ((0 : Int)).toNat = 0 from rfl] at hx176_0)
                                      (try rw [Addr.add_zero'] at hx176_0)
                                      replace p176 := eq_true p176
                                      replace q176 := eq_true q176
                                      have p177 : 0 ≤ ((ji23) : Int) := of_decide_eq_true (by first | (with_reducible assumption) | assumption)
                                      have q177 : (ji23) < (x12_3.length : Int) := of_decide_eq_true (by first | (with_reducible assumption) | assumption)
                                      obtain ⟨ad177, e177, hx177_0⟩ := Kd.at_int (Kd.R_reads' HO_12.out).2.2 (ji23) p177 q177
                                      obtain rfl : ad176 = ad177 := (by injection e177)
                                      replace p177 := eq_true p177
                                      replace q177 := eq_true q177
                                      go_wp2
                                      repeat ((with_reducible refine gate_quiet ?_); go_quiet (fail); try go_wp2)
                                      go_meet
                                      case rel => exact ⟨_, (true), (by first | rfl | (simp; done) | (simp [*]; done)), H', ⟨by have := HK1.out; have := HK2.out; have := HK3.out; first | omega | exact Nat.le_refl _⟩, ⟨by (with_reducible repeat (first | apply Kd.R_alloc | apply Kd.R_drewN | apply Kd.R_drew)); exact HO_9.out⟩, ⟨by (with_reducible repeat (first | apply Kd.R_alloc | apply Kd.R_drewN | apply Kd.R_drew)); exact HO_12.out⟩, ⟨by (with_reducible repeat (first | refine blk_drewN ?_ _ | refine blk_drew ?_ | refine blk_alloc ?_ _)); exact BK169.out⟩, ⟨by repeat (first | (with_reducible first | exact HB.out | apply below_alloc | apply pw_below_drewN | apply below_drew1 | refine below_set ?_ GE169.out) | exact HB.out)⟩⟩
                                  · rw [if_neg c25] at H
                                    exact absurd H (by simp)
                                · rw [if_neg c24] at H
                                  exact absurd H (by simp)
                              · rw [if_neg c22] at H
                                have c22b0 : ((rd x12_3 0) == 1) = false := beq_eq_false_iff_ne.mpr c22
                                have c22b1 : ((rd x12_3 0) != 1) = true := bne_iff_ne.mpr c22
                                have H' := Aside0.mk H
                                clear H
                                obtain ⟨Ao30, co30, eo30⟩ := Kd.R_slice HO_12.out
                                subst eo30
                                have p176 : 0 ≤ (0 : Int) := (by omega)
                                have q176 : 0 < (x12_3.length : Int) := of_decide_eq_true (by first | (with_reducible assumption) | assumption)
                                obtain ⟨ad176, e176, hx176_0⟩ := Kd.at_int (Kd.R_reads' HO_12.out).2.2 0 p176 q176
                                cases e176
                                have qi176 : (0 < x12_3.length) = True := eq_true (by omega)
                                (try rw [show ((0 : Int)).toNat = 0 from rfl] at hx176_0)
                                (try rw [Addr.add_zero'] at hx176_0)
                                replace p176 := eq_true p176
                                replace q176 := eq_true q176
                                go_wp2
                                repeat ((with_reducible refine gate_quiet ?_); go_quiet (fail); try go_wp2)
                                go_meet
                                case rel => exact ⟨_, (true), (by first | rfl | (simp; done) | (simp [*]; done)), H', ⟨by have := HK1.out; have := HK2.out; have := HK3.out; first | omega | exact Nat.le_refl _⟩, ⟨by (with_reducible repeat (first | apply Kd.R_alloc | apply Kd.R_drewN | apply Kd.R_drew)); exact HO_9.out⟩, ⟨by (with_reducible repeat (first | apply Kd.R_alloc | apply Kd.R_drewN | apply Kd.R_drew)); exact HO_12.out⟩, ⟨by (with_reducible repeat (first | refine blk_drewN ?_ _ | refine blk_drew ?_ | refine blk_alloc ?_ _)); exact BK169.out⟩, ⟨by repeat (first | (with_reducible first | exact HB.out | apply below_alloc | apply pw_below_drewN | apply below_drew1 | refine below_set ?_ GE169.out) | exact HB.out)⟩⟩
                            · rw [if_neg c21] at H
                              exact absurd H (by simp)
                          case rest =>
                            clear HC20
                            try clear c1
                            try clear p1
                            try clear q1
                            try clear hx1
                            try clear qi1
                            try clear c2
                            try clear p2
                            try clear c6
                            try clear c6b0
                            try clear c6b1
                            try clear p6
                            try clear c7
                            try clear c7b0
                            try clear c7b1
                            try clear c11
                            try clear c11b0
                            try clear c12
                            try clear c12b0
                            try clear c12b1
                            try clear c14
                            try clear c14b0
                            try clear c15
                            try clear c15b0
                            try clear c16
                            try clear c16b0
                            try clear c16b1
                            try clear p17
                            try clear q17
                            try clear hx17
                            try clear qi17
                            try clear c18
                            try clear c21
                            try clear c21b0
                            try clear c21b1
                            try clear c22
                            try clear c22b0
                            try clear c22b1
                            try clear c24
                            try clear c24b0
                            try clear c25
                            try clear c25b0
                            try clear c26
                            try clear c26b0
                            try clear c26b1
                            try clear hx176_0
                            try clear hx177_0
                            try clear p176
                            try clear p177
                            try clear p2
                            try clear p6
                            try clear q176
                            try clear q177
                            obtain ⟨kq, x60_19, rfl, HA, HJ19, HO_9, HO_12, BK169, HB⟩ := hcut
                            cases kq with
                            | zero => exact absurd HA.out (by simp [shuttleref32_Count.j3])
                            | succ kj19 =>
                              have H := HA.out
                              clear HA
                              simp only [shuttleref32_Count.j3] at H
                              by_cases c31 : x60_19 = true
                              · subst c31
                                have H1 : (shuttleref32_Count.l1 kj19 a1 a2 a3 x9_2 x10_1 (wrap64 (x11_2 + 1)) a0_0 a0_1 a0_2 a0_3) = some r := by rw [if_pos rfl] at H; exact H
                                clear H
                                have H := H1
                                clear H1
                                have H' := Aside0.mk H
                                clear H
                                go_wp2
                                repeat ((with_reducible refine gate_quiet ?_); go_quiet (fail); try go_wp2)
                                go_roundg kj19
                                case measure => have := HK1.out; have := HK2.out; have := HK3.out; have := HJ19.out; omega
                                case rel => exact ⟨(x9_2), (wrap64 (x11_2 + 1)), (by first | rfl | (simp; done) | (simp [*]; done)), H', ⟨by have := HK1.out; have := HK2.out; have := HK3.out; have := HJ19.out; omega⟩, ⟨by (with_reducible repeat (first | apply Kd.R_alloc | apply Kd.R_drewN | apply Kd.R_drew)); exact HO_9.out⟩, ⟨by (with_reducible repeat (first | refine blk_drewN ?_ _ | refine blk_drew ?_ | refine blk_alloc ?_ _)); exact BK169.out⟩, ⟨by repeat (first | (with_reducible first | exact HB.out | apply below_alloc | apply pw_below_drewN | apply below_drew1 | refine below_set ?_ GE169.out) | exact HB.out)⟩⟩
                              · replace c31 := Bool.eq_false_iff.mpr c31
                                subst c31
                                have H1 : ((shuttleref06_Code.f kj19 x12_3).bind fun t179 => (shuttleref32_Count.l3 kj19 a1 a2 a3 x9_2 x10_1 x11_2 t179 0 0 a0_0 a0_1 a0_2 a0_3)) = some r := by rw [if_neg (show ¬ (false = true) by decide)] at H; exact H
                                clear H
                                have H := H1
                                clear H1
                                replace H := Option.bind_eq_some_iff.mp H
                                obtain ⟨t179, A320, H⟩ := H
                                replace H : (shuttleref32_Count.l3 kj19 a1 a2 a3 x9_2 x10_1 x11_2 t179 0 0 a0_0 a0_1 a0_2 a0_3) = some r := H
                                have A32 := Aside0.mk A320
                                clear A320
                                have H' := Aside0.mk H
                                clear H
                                obtain ⟨Ao33, co33, eo33⟩ := Kd.R_slice HO_12.out
                                subst eo33
                                go_wp2_with (first | (go_at_call 20; (with_reducible refine (shuttleref06_Code.calls kj19 _ _ x12_3 t179 _ ?side1 ?side2 A32.out).mono ?_); (case side1 => repeat (first | exact (Kd.R_reads' HO_12.out).2.2 | (with_reducible refine Kd.C_alloc ?_ _) | (with_reducible refine Kd.C_drewN ?_ _) | (with_reducible refine Kd.C_drew ?_))); (case side2 => exact (Kd.R_reads' HO_12.out).2.1); rintro e w34 ⟨v180, rfl, ho0, hb⟩; have n0_ := Aside0.mk (Kd.R_below (by (with_reducible repeat (first | apply Kd.R_alloc | apply Kd.R_drewN | apply Kd.R_drew)); exact HO_9.out) hb); have n1_ := Aside0.mk (Kd.R_elder' (by (with_reducible repeat (first | apply Kd.R_alloc | apply Kd.R_drewN | apply Kd.R_drew)); exact HO_12.out) (Kd.R_base ho0) hb); have n2_ := Aside0.mk (Kd.R_lower (Kd.R_new' ho0 (Kd.R_lt (by (with_reducible repeat (first | apply Kd.R_alloc | apply Kd.R_drewN | apply Kd.R_drew)); exact HO_12.out))) (below_size (by repeat (first | (with_reducible first | exact HB.out | apply below_alloc | apply pw_below_drewN | apply below_drew1 | refine below_set ?_ GE169.out) | exact HB.out)))); have n3_ := Aside0.mk (blk_below (g := gb169) (o := .cells #[.int .i64 a0_0, .int .i64 a0_1, .int .i64 a0_2, .int .i64 a0_3] 22 (0, 0)) (by (with_reducible repeat (first | refine blk_drewN ?_ _ | refine blk_drew ?_ | refine blk_alloc ?_ _)); exact BK169.out) hb); have n4_ := Aside0.mk (below_step (by repeat (first | (with_reducible first | exact HB.out | apply below_alloc | apply pw_below_drewN | apply below_drew1 | refine below_set ?_ GE169.out) | exact HB.out)) hb); clear HO_9; clear HO_12; clear BK169; clear HB; have HO_9 := n0_; have HO_12 := n1_; have HO181 := n2_; have BK169 := n3_; have HB := n4_; clear n0_ n1_ n2_ n3_ n4_; (try clear hb); (try clear hb2); (try clear hk); (try clear hi); (try clear ho0)))
                                repeat ((with_reducible refine gate_quiet ?_); go_quiet (first | (go_at_call 20; (with_reducible refine (shuttleref06_Code.calls kj19 _ _ x12_3 t179 _ ?side1 ?side2 A32.out).mono ?_); (case side1 => repeat (first | exact (Kd.R_reads' HO_12.out).2.2 | (with_reducible refine Kd.C_alloc ?_ _) | (with_reducible refine Kd.C_drewN ?_ _) | (with_reducible refine Kd.C_drew ?_))); (case side2 => exact (Kd.R_reads' HO_12.out).2.1); rintro e w34 ⟨v180, rfl, ho0, hb⟩; have n0_ := Aside0.mk (Kd.R_below (by (with_reducible repeat (first | apply Kd.R_alloc | apply Kd.R_drewN | apply Kd.R_drew)); exact HO_9.out) hb); have n1_ := Aside0.mk (Kd.R_elder' (by (with_reducible repeat (first | apply Kd.R_alloc | apply Kd.R_drewN | apply Kd.R_drew)); exact HO_12.out) (Kd.R_base ho0) hb); have n2_ := Aside0.mk (Kd.R_lower (Kd.R_new' ho0 (Kd.R_lt (by (with_reducible repeat (first | apply Kd.R_alloc | apply Kd.R_drewN | apply Kd.R_drew)); exact HO_12.out))) (below_size (by repeat (first | (with_reducible first | exact HB.out | apply below_alloc | apply pw_below_drewN | apply below_drew1 | refine below_set ?_ GE169.out) | exact HB.out)))); have n3_ := Aside0.mk (blk_below (g := gb169) (o := .cells #[.int .i64 a0_0, .int .i64 a0_1, .int .i64 a0_2, .int .i64 a0_3] 22 (0, 0)) (by (with_reducible repeat (first | refine blk_drewN ?_ _ | refine blk_drew ?_ | refine blk_alloc ?_ _)); exact BK169.out) hb); have n4_ := Aside0.mk (below_step (by repeat (first | (with_reducible first | exact HB.out | apply below_alloc | apply pw_below_drewN | apply below_drew1 | refine below_set ?_ GE169.out) | exact HB.out)) hb); clear HO_9; clear HO_12; clear BK169; clear HB; have HO_9 := n0_; have HO_12 := n1_; have HO181 := n2_; have BK169 := n3_; have HB := n4_; clear n0_ n1_ n2_ n3_ n4_; (try clear hb); (try clear hb2); (try clear hk); (try clear hi); (try clear ho0))); try go_wp2_with (first | (go_at_call 20; (with_reducible refine (shuttleref06_Code.calls kj19 _ _ x12_3 t179 _ ?side1 ?side2 A32.out).mono ?_); (case side1 => repeat (first | exact (Kd.R_reads' HO_12.out).2.2 | (with_reducible refine Kd.C_alloc ?_ _) | (with_reducible refine Kd.C_drewN ?_ _) | (with_reducible refine Kd.C_drew ?_))); (case side2 => exact (Kd.R_reads' HO_12.out).2.1); rintro e w34 ⟨v180, rfl, ho0, hb⟩; have n0_ := Aside0.mk (Kd.R_below (by (with_reducible repeat (first | apply Kd.R_alloc | apply Kd.R_drewN | apply Kd.R_drew)); exact HO_9.out) hb); have n1_ := Aside0.mk (Kd.R_elder' (by (with_reducible repeat (first | apply Kd.R_alloc | apply Kd.R_drewN | apply Kd.R_drew)); exact HO_12.out) (Kd.R_base ho0) hb); have n2_ := Aside0.mk (Kd.R_lower (Kd.R_new' ho0 (Kd.R_lt (by (with_reducible repeat (first | apply Kd.R_alloc | apply Kd.R_drewN | apply Kd.R_drew)); exact HO_12.out))) (below_size (by repeat (first | (with_reducible first | exact HB.out | apply below_alloc | apply pw_below_drewN | apply below_drew1 | refine below_set ?_ GE169.out) | exact HB.out)))); have n3_ := Aside0.mk (blk_below (g := gb169) (o := .cells #[.int .i64 a0_0, .int .i64 a0_1, .int .i64 a0_2, .int .i64 a0_3] 22 (0, 0)) (by (with_reducible repeat (first | refine blk_drewN ?_ _ | refine blk_drew ?_ | refine blk_alloc ?_ _)); exact BK169.out) hb); have n4_ := Aside0.mk (below_step (by repeat (first | (with_reducible first | exact HB.out | apply below_alloc | apply pw_below_drewN | apply below_drew1 | refine below_set ?_ GE169.out) | exact HB.out)) hb); clear HO_9; clear HO_12; clear BK169; clear HB; have HO_9 := n0_; have HO_12 := n1_; have HO181 := n2_; have BK169 := n3_; have HB := n4_; clear n0_ n1_ n2_ n3_ n4_; (try clear hb); (try clear hb2); (try clear hk); (try clear hi); (try clear ho0))))
                                go_loopg [15, 16] kj19 (fun kq v15 v16 w' => ∃ (x15_5 : Int) (x16_5 : Int), v15 = .int .i64 x15_5 ∧ v16 = .int .i64 x16_5 ∧ Aside0 (shuttleref32_Count.l3 kq a1 a2 a3 x9_2 x10_1 x11_2 t179 x15_5 x16_5 a0_0 a0_1 a0_2 a0_3 = some r) ∧ Aside0 (kq ≤ kj19) ∧ Aside0 (Kd.R (Kd.int .i64) 3 w' w.heap.size (fun _ => True) v171 x9_2) ∧ Aside0 (Kd.R (Kd.int .u8) 5 w' w.heap.size (fun _ => True) v180 t179) ∧ Aside0 (w'.heap[gb169]? = some (.cells #[.int .i64 a0_0, .int .i64 a0_1, .int .i64 a0_2, .int .i64 a0_3] 22 (0, 0))) ∧ Aside0 (Below w.heap.size w w'))
                                case atStart => exact ⟨(0), (0), (by first | rfl | (simp; done) | (simp [*]; done)), (by first | rfl | (simp; done) | (simp [*]; done)), H', ⟨Nat.le_refl _⟩, ⟨by (with_reducible repeat (first | apply Kd.R_alloc | apply Kd.R_drewN | apply Kd.R_drew)); exact HO_9.out⟩, ⟨by (with_reducible repeat (first | apply Kd.R_alloc | apply Kd.R_drewN | apply Kd.R_drew)); exact Kd.R_mono HO181.out (fun _ hk => trivial)⟩, ⟨by (with_reducible repeat (first | refine blk_drewN ?_ _ | refine blk_drew ?_ | refine blk_alloc ?_ _)); exact BK169.out⟩, ⟨by repeat (first | (with_reducible first | exact HB.out | apply below_alloc | apply pw_below_drewN | apply below_drew1 | refine below_set ?_ GE169.out) | exact HB.out)⟩⟩
                                case round =>
                                  clear H'
                                  try clear c1
                                  try clear p1
                                  try clear q1
                                  try clear hx1
                                  try clear qi1
                                  try clear c2
                                  try clear p2
                                  try clear c3
                                  try clear c6
                                  try clear c6b0
                                  try clear c6b1
                                  try clear p6
                                  try clear c7
                                  try clear c7b0
                                  try clear c7b1
                                  try clear c11
                                  try clear c11b0
                                  try clear c12
                                  try clear c12b0
                                  try clear c12b1
                                  try clear c14
                                  try clear c14b0
                                  try clear c15
                                  try clear c15b0
                                  try clear c16
                                  try clear c16b0
                                  try clear c16b1
                                  try clear p17
                                  try clear q17
                                  try clear hx17
                                  try clear qi17
                                  try clear c18
                                  try clear c21
                                  try clear c21b0
                                  try clear c21b1
                                  try clear c22
                                  try clear c22b0
                                  try clear c22b1
                                  try clear c24
                                  try clear c24b0
                                  try clear c25
                                  try clear c25b0
                                  try clear c26
                                  try clear c26b0
                                  try clear c26b1
                                  try clear c31
                                  try clear hx176_0
                                  try clear hx177_0
                                  try clear p1
                                  try clear p17
                                  try clear p176
                                  try clear p177
                                  try clear p2
                                  try clear p6
                                  try clear q1
                                  try clear q17
                                  try clear q176
                                  try clear q177
                                  obtain ⟨x15_5, x16_5, rfl, rfl, HA, HK5, HO_9, HO_14, BK169, HB⟩ := hrel
                                  cases gk with
                                  | zero => exact absurd HA.out (by simp [shuttleref32_Count.l3])
                                  | succ k5 =>
                                    have H := HA.out
                                    clear HA
                                    simp only [shuttleref32_Count.l3] at H
                                    by_cases c35 : x16_5 < (t179.length : Int)
                                    · rw [if_pos c35] at H
                                      have c35b0 : decide (x16_5 < (t179.length : Int)) = true := decide_eq_true c35
                                      clear c35
                                      by_cases c36 : 0 ≤ x16_5
                                      · rw [if_pos c36] at H
                                        have c36b0 : decide (0 ≤ x16_5) = true := decide_eq_true c36
                                        clear c36
                                        replace H := Option.bind_eq_some_iff.mp H
                                        obtain ⟨t183, A370, H⟩ := H
                                        replace H : (if t183 = 0 then (shuttleref32_Count.l3 k5 a1 a2 a3 x9_2 x10_1 x11_2 t179 (wrap64 (x15_5 + (wrap64 ((wrap64 (rd t179 x16_5)) * a0_0)))) (wrap64 (x16_5 + 1)) a0_0 a0_1 a0_2 a0_3) else (if t183 = 1 then (shuttleref32_Count.l3 k5 a1 a2 a3 x9_2 x10_1 x11_2 t179 (wrap64 (x15_5 + (wrap64 ((wrap64 (rd t179 x16_5)) * a0_1)))) (wrap64 (x16_5 + 1)) a0_0 a0_1 a0_2 a0_3) else (if t183 = 2 then (shuttleref32_Count.l3 k5 a1 a2 a3 x9_2 x10_1 x11_2 t179 (wrap64 (x15_5 + (wrap64 ((wrap64 (rd t179 x16_5)) * a0_2)))) (wrap64 (x16_5 + 1)) a0_0 a0_1 a0_2 a0_3) else (if t183 = 3 then (shuttleref32_Count.l3 k5 a1 a2 a3 x9_2 x10_1 x11_2 t179 (wrap64 (x15_5 + (wrap64 ((wrap64 (rd t179 x16_5)) * a0_3)))) (wrap64 (x16_5 + 1)) a0_0 a0_1 a0_2 a0_3) else (none))))) = some r := H
                                        have A37 := Aside0.mk A370
                                        clear A370
                                        by_cases c38 : t183 = 0
                                        · rw [if_pos c38] at H
                                          subst c38
                                          have H' := Aside0.mk H
                                          clear H
                                          obtain ⟨Ao39, co39, eo39⟩ := Kd.R_slice HO_14.out
                                          subst eo39
                                          have p182 : 0 ≤ (x16_5 : Int) := of_decide_eq_true (by first | (with_reducible assumption) | assumption)
                                          have q182 : x16_5 < (t179.length : Int) := of_decide_eq_true (by first | (with_reducible assumption) | assumption)
                                          obtain ⟨ad182, e182, hx182_0⟩ := Kd.at_int (Kd.R_reads' HO_14.out).2.2 x16_5 p182 q182
                                          cases e182
                                          replace p182 := eq_true p182
                                          replace q182 := eq_true q182
                                          have hcz40_0 : wr.cell? ⟨gb169, 0, none⟩ = some (.int .i64 a0_0) := (blk_cell BK169.out 0).trans rfl
                                          have hcz40_1 : wr.cell? ⟨gb169, 1, none⟩ = some (.int .i64 a0_1) := (blk_cell BK169.out 1).trans rfl
                                          have hcz40_2 : wr.cell? ⟨gb169, 2, none⟩ = some (.int .i64 a0_2) := (blk_cell BK169.out 2).trans rfl
                                          have hcz40_3 : wr.cell? ⟨gb169, 3, none⟩ = some (.int .i64 a0_3) := (blk_cell BK169.out 3).trans rfl
                                          have hfz40_0 := blk_frozen BK169.out 0
                                          have hfz40_1 := blk_frozen BK169.out 1
                                          have hfz40_2 := blk_frozen BK169.out 2
                                          have hfz40_3 := blk_frozen BK169.out 3
                                          go_wp2_with (first | (go_at_call 30; (with_reducible refine (shuttleref10_Version.calls k5 (Int.tmod x16_5 4) (wrap64 ((wrap64 (Int.tdiv x16_5 4)) + a1)) 0 _ A37.out).mono ?_); rintro e w' ⟨rfl, ⟨nd, rfl⟩⟩; (try first | exact ⟨rfl, _, World.drewN_drewN _ _ _⟩ | exact ⟨rfl, _, Eq.trans (World.drewN_drewN _ _ _) (congrArg (World.drewN _) (Nat.add_assoc _ _ _))⟩)))
                                          repeat ((with_reducible refine gate_quiet ?_); go_quiet (first | (go_at_call 30; (with_reducible refine (shuttleref10_Version.calls k5 (Int.tmod x16_5 4) (wrap64 ((wrap64 (Int.tdiv x16_5 4)) + a1)) 0 _ A37.out).mono ?_); rintro e w' ⟨rfl, ⟨nd, rfl⟩⟩; (try first | exact ⟨rfl, _, World.drewN_drewN _ _ _⟩ | exact ⟨rfl, _, Eq.trans (World.drewN_drewN _ _ _) (congrArg (World.drewN _) (Nat.add_assoc _ _ _))⟩))); try go_wp2_with (first | (go_at_call 30; (with_reducible refine (shuttleref10_Version.calls k5 (Int.tmod x16_5 4) (wrap64 ((wrap64 (Int.tdiv x16_5 4)) + a1)) 0 _ A37.out).mono ?_); rintro e w' ⟨rfl, ⟨nd, rfl⟩⟩; (try first | exact ⟨rfl, _, World.drewN_drewN _ _ _⟩ | exact ⟨rfl, _, Eq.trans (World.drewN_drewN _ _ _) (congrArg (World.drewN _) (Nat.add_assoc _ _ _))⟩))))
                                          go_roundg k5
                                          case measure => have := HK1.out; have := HK2.out; have := HK3.out; have := HJ19.out; have := HK5.out; omega
                                          case rel => exact ⟨(wrap64 (x15_5 + (wrap64 ((wrap64 (rd t179 x16_5)) * a0_0)))), (wrap64 (x16_5 + 1)), (by first | rfl | (simp; done) | (simp [*]; done)), (by first | rfl | (simp; done) | (simp [*]; done)), H', ⟨by have := HK1.out; have := HK2.out; have := HK3.out; have := HJ19.out; have := HK5.out; omega⟩, ⟨by (with_reducible repeat (first | apply Kd.R_alloc | apply Kd.R_drewN | apply Kd.R_drew)); exact HO_9.out⟩, ⟨by (with_reducible repeat (first | apply Kd.R_alloc | apply Kd.R_drewN | apply Kd.R_drew)); exact HO_14.out⟩, ⟨by (with_reducible repeat (first | refine blk_drewN ?_ _ | refine blk_drew ?_ | refine blk_alloc ?_ _)); exact BK169.out⟩, ⟨by repeat (first | (with_reducible first | exact HB.out | apply below_alloc | apply pw_below_drewN | apply below_drew1 | refine below_set ?_ GE169.out) | exact HB.out)⟩⟩
                                        · rw [if_neg c38] at H
                                          clear c38
                                          by_cases c41 : t183 = 1
                                          · rw [if_pos c41] at H
                                            subst c41
                                            have H' := Aside0.mk H
                                            clear H
                                            obtain ⟨Ao42, co42, eo42⟩ := Kd.R_slice HO_14.out
                                            subst eo42
                                            have p182 : 0 ≤ (x16_5 : Int) := of_decide_eq_true (by first | (with_reducible assumption) | assumption)
                                            have q182 : x16_5 < (t179.length : Int) := of_decide_eq_true (by first | (with_reducible assumption) | assumption)
                                            obtain ⟨ad182, e182, hx182_0⟩ := Kd.at_int (Kd.R_reads' HO_14.out).2.2 x16_5 p182 q182
                                            cases e182
                                            replace p182 := eq_true p182
                                            replace q182 := eq_true q182
                                            have hcz43_0 : wr.cell? ⟨gb169, 0, none⟩ = some (.int .i64 a0_0) := (blk_cell BK169.out 0).trans rfl
                                            have hcz43_1 : wr.cell? ⟨gb169, 1, none⟩ = some (.int .i64 a0_1) := (blk_cell BK169.out 1).trans rfl
                                            have hcz43_2 : wr.cell? ⟨gb169, 2, none⟩ = some (.int .i64 a0_2) := (blk_cell BK169.out 2).trans rfl
                                            have hcz43_3 : wr.cell? ⟨gb169, 3, none⟩ = some (.int .i64 a0_3) := (blk_cell BK169.out 3).trans rfl
                                            have hfz43_0 := blk_frozen BK169.out 0
                                            have hfz43_1 := blk_frozen BK169.out 1
                                            have hfz43_2 := blk_frozen BK169.out 2
                                            have hfz43_3 := blk_frozen BK169.out 3
                                            go_wp2_with (first | (go_at_call 30; (with_reducible refine (shuttleref10_Version.calls k5 (Int.tmod x16_5 4) (wrap64 ((wrap64 (Int.tdiv x16_5 4)) + a1)) 1 _ A37.out).mono ?_); rintro e w' ⟨rfl, ⟨nd, rfl⟩⟩; (try first | exact ⟨rfl, _, World.drewN_drewN _ _ _⟩ | exact ⟨rfl, _, Eq.trans (World.drewN_drewN _ _ _) (congrArg (World.drewN _) (Nat.add_assoc _ _ _))⟩)))
                                            repeat ((with_reducible refine gate_quiet ?_); go_quiet (first | (go_at_call 30; (with_reducible refine (shuttleref10_Version.calls k5 (Int.tmod x16_5 4) (wrap64 ((wrap64 (Int.tdiv x16_5 4)) + a1)) 1 _ A37.out).mono ?_); rintro e w' ⟨rfl, ⟨nd, rfl⟩⟩; (try first | exact ⟨rfl, _, World.drewN_drewN _ _ _⟩ | exact ⟨rfl, _, Eq.trans (World.drewN_drewN _ _ _) (congrArg (World.drewN _) (Nat.add_assoc _ _ _))⟩))); try go_wp2_with (first | (go_at_call 30; (with_reducible refine (shuttleref10_Version.calls k5 (Int.tmod x16_5 4) (wrap64 ((wrap64 (Int.tdiv x16_5 4)) + a1)) 1 _ A37.out).mono ?_); rintro e w' ⟨rfl, ⟨nd, rfl⟩⟩; (try first | exact ⟨rfl, _, World.drewN_drewN _ _ _⟩ | exact ⟨rfl, _, Eq.trans (World.drewN_drewN _ _ _) (congrArg (World.drewN _) (Nat.add_assoc _ _ _))⟩))))
                                            go_roundg k5
                                            case measure => have := HK1.out; have := HK2.out; have := HK3.out; have := HJ19.out; have := HK5.out; omega
                                            case rel => exact ⟨(wrap64 (x15_5 + (wrap64 ((wrap64 (rd t179 x16_5)) * a0_1)))), (wrap64 (x16_5 + 1)), (by first | rfl | (simp; done) | (simp [*]; done)), (by first | rfl | (simp; done) | (simp [*]; done)), H', ⟨by have := HK1.out; have := HK2.out; have := HK3.out; have := HJ19.out; have := HK5.out; omega⟩, ⟨by (with_reducible repeat (first | apply Kd.R_alloc | apply Kd.R_drewN | apply Kd.R_drew)); exact HO_9.out⟩, ⟨by (with_reducible repeat (first | apply Kd.R_alloc | apply Kd.R_drewN | apply Kd.R_drew)); exact HO_14.out⟩, ⟨by (with_reducible repeat (first | refine blk_drewN ?_ _ | refine blk_drew ?_ | refine blk_alloc ?_ _)); exact BK169.out⟩, ⟨by repeat (first | (with_reducible first | exact HB.out | apply below_alloc | apply pw_below_drewN | apply below_drew1 | refine below_set ?_ GE169.out) | exact HB.out)⟩⟩
                                          · rw [if_neg c41] at H
                                            clear c41
                                            by_cases c44 : t183 = 2
                                            · rw [if_pos c44] at H
                                              subst c44
                                              have H' := Aside0.mk H
                                              clear H
                                              obtain ⟨Ao45, co45, eo45⟩ := Kd.R_slice HO_14.out
                                              subst eo45
                                              have p182 : 0 ≤ (x16_5 : Int) := of_decide_eq_true (by first | (with_reducible assumption) | assumption)
                                              have q182 : x16_5 < (t179.length : Int) := of_decide_eq_true (by first | (with_reducible assumption) | assumption)
                                              obtain ⟨ad182, e182, hx182_0⟩ := Kd.at_int (Kd.R_reads' HO_14.out).2.2 x16_5 p182 q182
                                              cases e182
                                              replace p182 := eq_true p182
                                              replace q182 := eq_true q182
                                              have hcz46_0 : wr.cell? ⟨gb169, 0, none⟩ = some (.int .i64 a0_0) := (blk_cell BK169.out 0).trans rfl
                                              have hcz46_1 : wr.cell? ⟨gb169, 1, none⟩ = some (.int .i64 a0_1) := (blk_cell BK169.out 1).trans rfl
                                              have hcz46_2 : wr.cell? ⟨gb169, 2, none⟩ = some (.int .i64 a0_2) := (blk_cell BK169.out 2).trans rfl
                                              have hcz46_3 : wr.cell? ⟨gb169, 3, none⟩ = some (.int .i64 a0_3) := (blk_cell BK169.out 3).trans rfl
                                              have hfz46_0 := blk_frozen BK169.out 0
                                              have hfz46_1 := blk_frozen BK169.out 1
                                              have hfz46_2 := blk_frozen BK169.out 2
                                              have hfz46_3 := blk_frozen BK169.out 3
                                              go_wp2_with (first | (go_at_call 30; (with_reducible refine (shuttleref10_Version.calls k5 (Int.tmod x16_5 4) (wrap64 ((wrap64 (Int.tdiv x16_5 4)) + a1)) 2 _ A37.out).mono ?_); rintro e w' ⟨rfl, ⟨nd, rfl⟩⟩; (try first | exact ⟨rfl, _, World.drewN_drewN _ _ _⟩ | exact ⟨rfl, _, Eq.trans (World.drewN_drewN _ _ _) (congrArg (World.drewN _) (Nat.add_assoc _ _ _))⟩)))
                                              repeat ((with_reducible refine gate_quiet ?_); go_quiet (first | (go_at_call 30; (with_reducible refine (shuttleref10_Version.calls k5 (Int.tmod x16_5 4) (wrap64 ((wrap64 (Int.tdiv x16_5 4)) + a1)) 2 _ A37.out).mono ?_); rintro e w' ⟨rfl, ⟨nd, rfl⟩⟩; (try first | exact ⟨rfl, _, World.drewN_drewN _ _ _⟩ | exact ⟨rfl, _, Eq.trans (World.drewN_drewN _ _ _) (congrArg (World.drewN _) (Nat.add_assoc _ _ _))⟩))); try go_wp2_with (first | (go_at_call 30; (with_reducible refine (shuttleref10_Version.calls k5 (Int.tmod x16_5 4) (wrap64 ((wrap64 (Int.tdiv x16_5 4)) + a1)) 2 _ A37.out).mono ?_); rintro e w' ⟨rfl, ⟨nd, rfl⟩⟩; (try first | exact ⟨rfl, _, World.drewN_drewN _ _ _⟩ | exact ⟨rfl, _, Eq.trans (World.drewN_drewN _ _ _) (congrArg (World.drewN _) (Nat.add_assoc _ _ _))⟩))))
                                              go_roundg k5
                                              case measure => have := HK1.out; have := HK2.out; have := HK3.out; have := HJ19.out; have := HK5.out; omega
                                              case rel => exact ⟨(wrap64 (x15_5 + (wrap64 ((wrap64 (rd t179 x16_5)) * a0_2)))), (wrap64 (x16_5 + 1)), (by first | rfl | (simp; done) | (simp [*]; done)), (by first | rfl | (simp; done) | (simp [*]; done)), H', ⟨by have := HK1.out; have := HK2.out; have := HK3.out; have := HJ19.out; have := HK5.out; omega⟩, ⟨by (with_reducible repeat (first | apply Kd.R_alloc | apply Kd.R_drewN | apply Kd.R_drew)); exact HO_9.out⟩, ⟨by (with_reducible repeat (first | apply Kd.R_alloc | apply Kd.R_drewN | apply Kd.R_drew)); exact HO_14.out⟩, ⟨by (with_reducible repeat (first | refine blk_drewN ?_ _ | refine blk_drew ?_ | refine blk_alloc ?_ _)); exact BK169.out⟩, ⟨by repeat (first | (with_reducible first | exact HB.out | apply below_alloc | apply pw_below_drewN | apply below_drew1 | refine below_set ?_ GE169.out) | exact HB.out)⟩⟩
                                            · rw [if_neg c44] at H
                                              clear c44
                                              by_cases c47 : t183 = 3
                                              · rw [if_pos c47] at H
                                                subst c47
                                                have H' := Aside0.mk H
                                                clear H
                                                obtain ⟨Ao48, co48, eo48⟩ := Kd.R_slice HO_14.out
                                                subst eo48
                                                have p182 : 0 ≤ (x16_5 : Int) := of_decide_eq_true (by first | (with_reducible assumption) | assumption)
                                                have q182 : x16_5 < (t179.length : Int) := of_decide_eq_true (by first | (with_reducible assumption) | assumption)
                                                obtain ⟨ad182, e182, hx182_0⟩ := Kd.at_int (Kd.R_reads' HO_14.out).2.2 x16_5 p182 q182
                                                cases e182
                                                replace p182 := eq_true p182
                                                replace q182 := eq_true q182
                                                have hcz49_0 : wr.cell? ⟨gb169, 0, none⟩ = some (.int .i64 a0_0) := (blk_cell BK169.out 0).trans rfl
                                                have hcz49_1 : wr.cell? ⟨gb169, 1, none⟩ = some (.int .i64 a0_1) := (blk_cell BK169.out 1).trans rfl
                                                have hcz49_2 : wr.cell? ⟨gb169, 2, none⟩ = some (.int .i64 a0_2) := (blk_cell BK169.out 2).trans rfl
                                                have hcz49_3 : wr.cell? ⟨gb169, 3, none⟩ = some (.int .i64 a0_3) := (blk_cell BK169.out 3).trans rfl
                                                have hfz49_0 := blk_frozen BK169.out 0
                                                have hfz49_1 := blk_frozen BK169.out 1
                                                have hfz49_2 := blk_frozen BK169.out 2
                                                have hfz49_3 := blk_frozen BK169.out 3
                                                go_wp2_with (first | (go_at_call 30; (with_reducible refine (shuttleref10_Version.calls k5 (Int.tmod x16_5 4) (wrap64 ((wrap64 (Int.tdiv x16_5 4)) + a1)) 3 _ A37.out).mono ?_); rintro e w' ⟨rfl, ⟨nd, rfl⟩⟩; (try first | exact ⟨rfl, _, World.drewN_drewN _ _ _⟩ | exact ⟨rfl, _, Eq.trans (World.drewN_drewN _ _ _) (congrArg (World.drewN _) (Nat.add_assoc _ _ _))⟩)))
                                                repeat ((with_reducible refine gate_quiet ?_); go_quiet (first | (go_at_call 30; (with_reducible refine (shuttleref10_Version.calls k5 (Int.tmod x16_5 4) (wrap64 ((wrap64 (Int.tdiv x16_5 4)) + a1)) 3 _ A37.out).mono ?_); rintro e w' ⟨rfl, ⟨nd, rfl⟩⟩; (try first | exact ⟨rfl, _, World.drewN_drewN _ _ _⟩ | exact ⟨rfl, _, Eq.trans (World.drewN_drewN _ _ _) (congrArg (World.drewN _) (Nat.add_assoc _ _ _))⟩))); try go_wp2_with (first | (go_at_call 30; (with_reducible refine (shuttleref10_Version.calls k5 (Int.tmod x16_5 4) (wrap64 ((wrap64 (Int.tdiv x16_5 4)) + a1)) 3 _ A37.out).mono ?_); rintro e w' ⟨rfl, ⟨nd, rfl⟩⟩; (try first | exact ⟨rfl, _, World.drewN_drewN _ _ _⟩ | exact ⟨rfl, _, Eq.trans (World.drewN_drewN _ _ _) (congrArg (World.drewN _) (Nat.add_assoc _ _ _))⟩))))
                                                go_roundg k5
                                                case measure => have := HK1.out; have := HK2.out; have := HK3.out; have := HJ19.out; have := HK5.out; omega
                                                case rel => exact ⟨(wrap64 (x15_5 + (wrap64 ((wrap64 (rd t179 x16_5)) * a0_3)))), (wrap64 (x16_5 + 1)), (by first | rfl | (simp; done) | (simp [*]; done)), (by first | rfl | (simp; done) | (simp [*]; done)), H', ⟨by have := HK1.out; have := HK2.out; have := HK3.out; have := HJ19.out; have := HK5.out; omega⟩, ⟨by (with_reducible repeat (first | apply Kd.R_alloc | apply Kd.R_drewN | apply Kd.R_drew)); exact HO_9.out⟩, ⟨by (with_reducible repeat (first | apply Kd.R_alloc | apply Kd.R_drewN | apply Kd.R_drew)); exact HO_14.out⟩, ⟨by (with_reducible repeat (first | refine blk_drewN ?_ _ | refine blk_drew ?_ | refine blk_alloc ?_ _)); exact BK169.out⟩, ⟨by repeat (first | (with_reducible first | exact HB.out | apply below_alloc | apply pw_below_drewN | apply below_drew1 | refine below_set ?_ GE169.out) | exact HB.out)⟩⟩
                                              · rw [if_neg c47] at H
                                                clear c47
                                                exact absurd H (by simp)
                                      · rw [if_neg c36] at H
                                        exact absurd H (by simp)
                                    · rw [if_neg c35] at H
                                      have c35b0 : decide (x16_5 < (t179.length : Int)) = false := decide_eq_false c35
                                      clear c35
                                      by_cases c50 : x15_5 ≤ a3
                                      · rw [if_pos c50] at H
                                        have c50b0 : decide (x15_5 ≤ a3) = true := decide_eq_true c50
                                        clear c50
                                        by_cases c51 : 0 ≤ x15_5
                                        · rw [if_pos c51] at H
                                          have c51b0 : decide (0 ≤ x15_5) = true := decide_eq_true c51
                                          clear c51
                                          by_cases c52 : x15_5 < (x9_2.length : Int)
                                          · rw [if_pos c52] at H
                                            have c52b0 : decide (x15_5 < (x9_2.length : Int)) = true := decide_eq_true c52
                                            clear c52
                                            obtain ⟨y185, hy185⟩ : ∃ y_ : List Int, y_ = (x9_2.set (x15_5 : Int).toNat (wrap64 ((rd x9_2 x15_5) + 1))) := ⟨_, rfl⟩
                                            replace H : (shuttleref32_Count.l1 k5 a1 a2 a3 y185 x10_1 (wrap64 (x11_2 + 1)) a0_0 a0_1 a0_2 a0_3) = some r := by first | (rw [hy185]; with_reducible exact H) | (have H2_ := (Option.bind_some _ _).symm.trans H; rw [hy185]; with_reducible exact H2_) | (have H2_ := (Option.bind_some _ _).symm.trans H; with_reducible exact H2_) | with_reducible exact H | (rw [hy185]; exact H) | exact H
                                            have Ny185 := Aside0.mk hy185
                                            clear hy185
                                            have H' := Aside0.mk H
                                            clear H
                                            obtain ⟨Ao54, co54, eo54⟩ := Kd.R_slice HO_14.out
                                            subst eo54
                                            obtain ⟨Ao55, co55, eo55⟩ := Kd.R_slice HO_9.out
                                            subst eo55
                                            have p184 : 0 ≤ (x15_5 : Int) := of_decide_eq_true (by first | (with_reducible assumption) | assumption)
                                            have q184 : x15_5 < (x9_2.length : Int) := of_decide_eq_true (by first | (with_reducible assumption) | assumption)
                                            obtain ⟨ad184, e184, hx184_0⟩ := Kd.at_int (Kd.R_reads' HO_9.out).2.2 x15_5 p184 q184
                                            cases e184
                                            replace p184 := eq_true p184
                                            replace q184 := eq_true q184
                                            have p53 : 0 ≤ (x15_5 : Int) := of_decide_eq_true (by first | (with_reducible assumption) | assumption)
                                            have q53 : (x15_5 : Int) < ((x9_2.length : Int) : Int) := of_decide_eq_true (by first | (with_reducible assumption) | assumption)
                                            obtain ⟨go53, co53, eo53, gb53, gl53, cl53, HG53⟩ := Kd.R_form HO_9.out (by omega)
                                            (first | cases eo53 | (injection eo53 with ea_ en_ ec_; (first | subst ea_ | (injection ea_ with ea_; subst ea_)); subst ec_; clear en_))
                                            have GB53 := Aside0.mk gb53
                                            have GG53 := Aside0.mk HG53
                                            clear gb53 gl53 HG53
                                            (first | simp only [add_plain] at hx184_0 | skip)
                                            obtain ⟨hx53_0, hf53_0⟩ := Kd.R_celln 0 HO_9.out (x15_5 : Int) p53 q53
                                            replace p53 := eq_true p53
                                            replace q53 := eq_true q53
                                            have HP56 := Kd.R_putg HO_9.out (x15_5 : Int) (wrap64 ((rd x9_2 x15_5) + 1))
                                            go_wp2_with (first | ((with_reducible refine gate_store (t := 3) (p := 94) rfl ?_); (try (rw [drewN_self wr]; generalize hq_ : World.drewN wr _ = wr; have n0_ := Aside0.mk (Kd.R_at hq_ HO_9.out); have n1_ := Aside0.mk (Kd.R_at hq_ HO_14.out); have n2_ := Aside0.mk (blk_at hq_ BK169.out); have n3_ := Aside0.mk (below_at hq_ HB.out); clear hq_ HO_9 HO_14 BK169 HB; have HO_9 := n0_; have HO_14 := n1_; have BK169 := n2_; have HB := n3_; clear n0_ n1_ n2_ n3_; (try (have HP56 := Kd.R_putg HO_9.out (x15_5 : Int) (wrap64 ((rd x9_2 x15_5) + 1)))))); refine store_event (t := 3) (p := 94) (v := ?vo_w57) (w1 := (wr.setCell ⟨go53, (x15_5 : Int).toNat, none⟩ (.int .i64 (wrap64 ((rd x9_2 x15_5) + 1))))) ?hg ?ho ?hn ?hr ?_; (case ho => rfl); (case hg => rfl); (case hn => rfl); (case hr => first | (go_simp; done) | (go_simp; rfl)); intro w57 hw; have hg : wr.grownBy w57 (some go53) := (by rw [hw]; exact HP56.2); have hp_ : Kd.R (Kd.int .i64) 3 w57 w.heap.size (fun _ => True) (.slice (some ⟨go53, 0, none⟩) x9_2.length co55) y185 := (by rw [hw, Ny185.out]; exact HP56.1); clear HP56; have n0_ := Aside0.mk (hp_); have n1_ := Aside0.mk (Kd.R_over' (v := (.slice (some ⟨go53, 0, none⟩) x9_2.length co55)) (by (with_reducible repeat (first | apply Kd.R_alloc | apply Kd.R_drewN | apply Kd.R_drew)); exact HO_14.out) (Kd.R_typed HO_9.out) (by decide) hg); have n2_ := Aside0.mk (blk_grown (g := gb169) (o := .cells #[.int .i64 a0_0, .int .i64 a0_1, .int .i64 a0_2, .int .i64 a0_3] 22 (0, 0)) (by (with_reducible repeat (first | refine blk_drewN ?_ _ | refine blk_drew ?_ | refine blk_alloc ?_ _)); exact BK169.out) hg (Kd.R_ne HO_9.out BK169.out (by decide))); have n3_ := Aside0.mk ((by rw [hw]; exact below_set (HB.out) GB53.out : Below w.heap.size w w57)); clear HO_9; clear HO_14; clear BK169; clear HB; have HO_9 := n0_; have HO_14 := n1_; have BK169 := n2_; have HB := n3_; clear n0_ n1_ n2_ n3_; clear hg hw hp_))
                                            repeat ((with_reducible refine gate_quiet ?_); go_quiet (first | ((with_reducible refine gate_store (t := 3) (p := 94) rfl ?_); (try (rw [drewN_self wr]; generalize hq_ : World.drewN wr _ = wr; have n0_ := Aside0.mk (Kd.R_at hq_ HO_9.out); have n1_ := Aside0.mk (Kd.R_at hq_ HO_14.out); have n2_ := Aside0.mk (blk_at hq_ BK169.out); have n3_ := Aside0.mk (below_at hq_ HB.out); clear hq_ HO_9 HO_14 BK169 HB; have HO_9 := n0_; have HO_14 := n1_; have BK169 := n2_; have HB := n3_; clear n0_ n1_ n2_ n3_; (try (have HP56 := Kd.R_putg HO_9.out (x15_5 : Int) (wrap64 ((rd x9_2 x15_5) + 1)))))); refine store_event (t := 3) (p := 94) (v := ?vo_w57) (w1 := (wr.setCell ⟨go53, (x15_5 : Int).toNat, none⟩ (.int .i64 (wrap64 ((rd x9_2 x15_5) + 1))))) ?hg ?ho ?hn ?hr ?_; (case ho => rfl); (case hg => rfl); (case hn => rfl); (case hr => first | (go_simp; done) | (go_simp; rfl)); intro w57 hw; have hg : wr.grownBy w57 (some go53) := (by rw [hw]; exact HP56.2); have hp_ : Kd.R (Kd.int .i64) 3 w57 w.heap.size (fun _ => True) (.slice (some ⟨go53, 0, none⟩) x9_2.length co55) y185 := (by rw [hw, Ny185.out]; exact HP56.1); clear HP56; have n0_ := Aside0.mk (hp_); have n1_ := Aside0.mk (Kd.R_over' (v := (.slice (some ⟨go53, 0, none⟩) x9_2.length co55)) (by (with_reducible repeat (first | apply Kd.R_alloc | apply Kd.R_drewN | apply Kd.R_drew)); exact HO_14.out) (Kd.R_typed HO_9.out) (by decide) hg); have n2_ := Aside0.mk (blk_grown (g := gb169) (o := .cells #[.int .i64 a0_0, .int .i64 a0_1, .int .i64 a0_2, .int .i64 a0_3] 22 (0, 0)) (by (with_reducible repeat (first | refine blk_drewN ?_ _ | refine blk_drew ?_ | refine blk_alloc ?_ _)); exact BK169.out) hg (Kd.R_ne HO_9.out BK169.out (by decide))); have n3_ := Aside0.mk ((by rw [hw]; exact below_set (HB.out) GB53.out : Below w.heap.size w w57)); clear HO_9; clear HO_14; clear BK169; clear HB; have HO_9 := n0_; have HO_14 := n1_; have BK169 := n2_; have HB := n3_; clear n0_ n1_ n2_ n3_; clear hg hw hp_)); try go_wp2_with (first | ((with_reducible refine gate_store (t := 3) (p := 94) rfl ?_); (try (rw [drewN_self wr]; generalize hq_ : World.drewN wr _ = wr; have n0_ := Aside0.mk (Kd.R_at hq_ HO_9.out); have n1_ := Aside0.mk (Kd.R_at hq_ HO_14.out); have n2_ := Aside0.mk (blk_at hq_ BK169.out); have n3_ := Aside0.mk (below_at hq_ HB.out); clear hq_ HO_9 HO_14 BK169 HB; have HO_9 := n0_; have HO_14 := n1_; have BK169 := n2_; have HB := n3_; clear n0_ n1_ n2_ n3_; (try (have HP56 := Kd.R_putg HO_9.out (x15_5 : Int) (wrap64 ((rd x9_2 x15_5) + 1)))))); refine store_event (t := 3) (p := 94) (v := ?vo_w57) (w1 := (wr.setCell ⟨go53, (x15_5 : Int).toNat, none⟩ (.int .i64 (wrap64 ((rd x9_2 x15_5) + 1))))) ?hg ?ho ?hn ?hr ?_; (case ho => rfl); (case hg => rfl); (case hn => rfl); (case hr => first | (go_simp; done) | (go_simp; rfl)); intro w57 hw; have hg : wr.grownBy w57 (some go53) := (by rw [hw]; exact HP56.2); have hp_ : Kd.R (Kd.int .i64) 3 w57 w.heap.size (fun _ => True) (.slice (some ⟨go53, 0, none⟩) x9_2.length co55) y185 := (by rw [hw, Ny185.out]; exact HP56.1); clear HP56; have n0_ := Aside0.mk (hp_); have n1_ := Aside0.mk (Kd.R_over' (v := (.slice (some ⟨go53, 0, none⟩) x9_2.length co55)) (by (with_reducible repeat (first | apply Kd.R_alloc | apply Kd.R_drewN | apply Kd.R_drew)); exact HO_14.out) (Kd.R_typed HO_9.out) (by decide) hg); have n2_ := Aside0.mk (blk_grown (g := gb169) (o := .cells #[.int .i64 a0_0, .int .i64 a0_1, .int .i64 a0_2, .int .i64 a0_3] 22 (0, 0)) (by (with_reducible repeat (first | refine blk_drewN ?_ _ | refine blk_drew ?_ | refine blk_alloc ?_ _)); exact BK169.out) hg (Kd.R_ne HO_9.out BK169.out (by decide))); have n3_ := Aside0.mk ((by rw [hw]; exact below_set (HB.out) GB53.out : Below w.heap.size w w57)); clear HO_9; clear HO_14; clear BK169; clear HB; have HO_9 := n0_; have HO_14 := n1_; have BK169 := n2_; have HB := n3_; clear n0_ n1_ n2_ n3_; clear hg hw hp_)))
                                            go_roundg k5
                                            case measure => have := HK1.out; have := HK2.out; have := HK3.out; have := HJ19.out; have := HK5.out; omega
                                            case rel => exact ⟨(y185), (wrap64 (x11_2 + 1)), (by first | rfl | (simp; done) | (simp [*]; done)), H', ⟨by have := HK1.out; have := HK2.out; have := HK3.out; have := HJ19.out; have := HK5.out; omega⟩, ⟨by (with_reducible repeat (first | apply Kd.R_alloc | apply Kd.R_drewN | apply Kd.R_drew)); exact HO_9.out⟩, ⟨by (with_reducible repeat (first | refine blk_drewN ?_ _ | refine blk_drew ?_ | refine blk_alloc ?_ _)); exact BK169.out⟩, ⟨by repeat (first | (with_reducible first | exact HB.out | apply below_alloc | apply pw_below_drewN | apply below_drew1 | refine below_set ?_ GE169.out) | exact HB.out)⟩⟩
                                          · rw [if_neg c52] at H
                                            exact absurd H (by simp)
                                        · rw [if_neg c51] at H
                                          exact absurd H (by simp)
                                      · rw [if_neg c50] at H
                                        have c50b0 : decide (x15_5 ≤ a3) = false := decide_eq_false c50
                                        clear c50
                                        have H' := Aside0.mk H
                                        clear H
                                        obtain ⟨Ao58, co58, eo58⟩ := Kd.R_slice HO_14.out
                                        subst eo58
                                        go_wp2
                                        repeat ((with_reducible refine gate_quiet ?_); go_quiet (fail); try go_wp2)
                                        go_roundg k5
                                        case measure => have := HK1.out; have := HK2.out; have := HK3.out; have := HJ19.out; have := HK5.out; omega
                                        case rel => exact ⟨(x9_2), (wrap64 (x11_2 + 1)), (by first | rfl | (simp; done) | (simp [*]; done)), H', ⟨by have := HK1.out; have := HK2.out; have := HK3.out; have := HJ19.out; have := HK5.out; omega⟩, ⟨by (with_reducible repeat (first | apply Kd.R_alloc | apply Kd.R_drewN | apply Kd.R_drew)); exact HO_9.out⟩, ⟨by (with_reducible repeat (first | refine blk_drewN ?_ _ | refine blk_drew ?_ | refine blk_alloc ?_ _)); exact BK169.out⟩, ⟨by repeat (first | (with_reducible first | exact HB.out | apply below_alloc | apply pw_below_drewN | apply below_drew1 | refine below_set ?_ GE169.out) | exact HB.out)⟩⟩
                  · rw [if_neg c14] at H
                    have c14b0 : decide (x11_2 < (ji13)) = false := decide_eq_false c14
                    clear c14
                    have H' := Aside0.mk H
                    clear H
                    go_wp2
                    repeat ((with_reducible refine gate_quiet ?_); go_quiet (fail); try go_wp2)
                    go_roundg k2
                    case measure => have := HK1.out; have := HK2.out; omega
                    case rel => exact ⟨(x9_2), (wrap64 (x10_1 + 1)), (by first | rfl | (simp; done) | (simp [*]; done)), H', ⟨by have := HK1.out; have := HK2.out; omega⟩, ⟨by (with_reducible repeat (first | apply Kd.R_alloc | apply Kd.R_drewN | apply Kd.R_drew)); exact HO_9.out⟩, ⟨by (with_reducible repeat (first | refine blk_drewN ?_ _ | refine blk_drew ?_ | refine blk_alloc ?_ _)); exact BK169.out⟩, ⟨by repeat (first | (with_reducible first | exact HB.out | apply below_alloc | apply pw_below_drewN | apply below_drew1 | refine below_set ?_ GE169.out) | exact HB.out)⟩⟩
                · rw [if_neg c12] at H
                  exact absurd H (by simp)
          · rw [if_neg c11] at H
            have c11b0 : decide ((wrap64 (x10_1 + 6)) ≤ a2) = false := decide_eq_false c11
            clear c11
            obtain rfl := Option.some.inj H
            go_wp2
            repeat ((with_reducible refine gate_quiet ?_); go_quiet (fail); try go_wp2)
            go_ret
            exact ⟨_, by first | rfl | (simp [errW_none, errW_some] <;> rfl) | (simp only [← hji5]; first | rfl | (simp [errW_none, errW_some] <;> rfl)) | (simp [*, errW_none, errW_some] <;> rfl), by (with_reducible repeat (first | apply Kd.R_alloc | apply Kd.R_drewN | apply Kd.R_drew)); exact HO_9.out, by repeat (first | (with_reducible first | exact HB.out | apply below_alloc | apply pw_below_drewN | apply below_drew1 | refine below_set ?_ GE169.out) | exact HB.out)⟩
    · rw [if_neg c7] at H
      exact absurd H (by simp)
  · rw [if_neg c6] at H
    exact absurd H (by simp)

end Go.Proofs.YtijpnlmejphfhaaDoor.P

-- YtijpnlmejphfhaaDoorPSCnt
namespace Go.Proofs.YtijpnlmejphfhaaDoor.P
open Go Go.Proofs Go.RowKit Go.Proofs.YtijpnlmejphfhaaDoorW.PrintWords Go.Proofs.YtijpnlmejphfhaaDoorW.PrintLast Go.Proofs.YtijpnlmejphfhaaDoorW.PrintMore
set_option linter.unusedVariables false
set_option linter.unusedSimpArgs false

theorem up_ {α : Type} {F : Nat → Option α} (hm : ∀ k, LeO (F k) (F (k + 1))) {k k' : Nat} {r : α} (h : F k = some r) (hk : k ≤ k') : F k' = some r := by
  obtain ⟨d, rfl⟩ : ∃ d, k' = k + d := ⟨k' - k, by omega⟩
  clear hk
  induction d with
  | zero => exact h
  | succ d ih => exact hm (k + d) r ih
/-- The bits of k, n of them. -/
def bitL (n k : Nat) : List Int := (List.range n).map fun j => ((k / 2 ^ j % 2 : Nat) : Int)
theorem bitL_succ (n k : Nat) : bitL (n + 1) k = bitL n k ++ [((k / 2 ^ n % 2 : Nat) : Int)] := by unfold bitL; rw [List.range_succ, List.map_append]; rfl
theorem bitL_length (n k : Nat) : (bitL n k).length = n := by simp [bitL]
/-- A list's code, if it is one of a detour. -/
def item (n k : Nat) : Option (List Int) :=
  if rd (bitL n k) 0 = 1 then
    if rd (bitL n k) ((n : Int) - 1) = 1 then
      match shuttleref32_parted.f 20 (bitL n k) with
      | some false => shuttleref06_Code.f 200 (bitL n k)
      | _ => none
    else none
  else none
def itemsFrom (n k : Nat) : Nat → List (List Int)
  | 0 => []
  | d + 1 => (item n k).toList ++ itemsFrom n (k + 1) d
def items (s n : Nat) : Nat → List (List Int)
  | 0 => []
  | d + 1 => if n + 6 ≤ s then itemsFrom n 0 (2 ^ n) ++ items s (n + 1) d else []
/-- What a code weighs, up to place j. -/
def wtot (W : Nat → Int) (p : Nat) (c : List Int) : Nat → Int
  | 0 => 0
  | j + 1 => wtot W p c j + c.getD j 0 * W (ver (j % 4) (j / 4 + p))
def wt (W : Nat → Int) (p : Nat) (c : List Int) : Int := wtot W p c c.length
def outOf (W : Nat → Int) (p m : Nat) (cs : List (List Int)) : List Int := (List.range (m + 1)).map fun (x : Nat) => ((cs.countP fun c => decide (wt W p c = (x : Int)) : Nat) : Int)
theorem outOf_length (W : Nat → Int) (p m : Nat) (cs : List (List Int)) : (outOf W p m cs).length = m + 1 := by simp [outOf]
theorem outOf_get (W : Nat → Int) (p m : Nat) (cs : List (List Int)) (x : Nat) (h : x ≤ m) : (outOf W p m cs).getD x 0 = ((cs.countP fun c => decide (wt W p c = (x : Int)) : Nat) : Int) := by
  unfold outOf
  rw [List.getD_eq_getElem?_getD, List.getElem?_map, List.getElem?_range (by omega)]; rfl
theorem outOf_set (W : Nat → Int) (p m : Nat) (cs : List (List Int)) (c : List Int) (T : Nat) (hT : wt W p c = (T : Int)) (hm : T ≤ m) (hl : cs.length ≤ 100000) :
    (outOf W p m cs).set T (wrap64 (rd (outOf W p m cs) (T : Int) + 1)) = outOf W p m (cs ++ [c]) := by
  have e : rd (outOf W p m cs) (T : Int) = (outOf W p m cs).getD T 0 := by unfold rd; simp
  rw [e, outOf_get _ _ _ _ _ hm, wrap_small (by omega) (by have := List.countP_le_length (p := fun c => decide (wt W p c = (T : Int))) (l := cs); omega)]
  apply List.ext_getElem
  · simp [outOf_length]
  · intro x h1 h2
    rw [List.getElem_set]
    unfold outOf
    simp only [List.getElem_map, List.getElem_range, List.countP_append]
    by_cases q : T = x
    · subst q
      rw [if_pos rfl]
      simp [hT]
    · rw [if_neg q]
      have hx : ¬ wt W p c = (x : Int) := by rw [hT]; omega
      simp [hx]
theorem outOf_far (W : Nat → Int) (p m : Nat) (cs : List (List Int)) (c : List Int) (hT : ¬ wt W p c ≤ (m : Int)) : outOf W p m cs = outOf W p m (cs ++ [c]) := by
  unfold outOf
  apply List.map_congr_left
  intro x hx
  rw [List.mem_range] at hx
  rw [List.countP_append]
  have hx : ¬ wt W p c = (x : Int) := by omega
  simp [hx]
def version4 (s t : Nat) : Bool := decide (shuttleref10_Version.f 9 (s : Int) (t : Int) = some ((ver s t : Nat) : Int))
theorem version_all : (List.range 4).all (fun s => (List.range 40).all fun t => version4 s t) = true := by decide +kernel
theorem rversion_f (s t : Nat) (hs : s < 4) (ht : t < 40) (k : Nat) (hk : 9 ≤ k) : shuttleref10_Version.f k (s : Int) (t : Int) = some ((ver s t : Nat) : Int) := by
  have h1 := List.all_eq_true.1 version_all s (List.mem_range.2 hs)
  have h2 := of_decide_eq_true (List.all_eq_true.1 h1 t (List.mem_range.2 ht))
  exact up_ (F := fun k => shuttleref10_Version.f k (s : Int) (t : Int)) (fun k => shuttleref10_Version.mono _ _ k) h2 hk
theorem shr_all : (List.range 256).all (fun k => (List.range 8).all fun j => decide (Go.bits .and .i64 (shr .i64 (k : Int) (j : Int)) 1 % 256 = ((k / 2 ^ j % 2 : Nat) : Int))) = true := by decide +kernel
theorem shr_f (k j : Nat) (hk : k < 256) (hj : j < 8) : Go.bits .and .i64 (shr .i64 (k : Int) (j : Int)) 1 % 256 = ((k / 2 ^ j % 2 : Nat) : Int) :=
  of_decide_eq_true (List.all_eq_true.1 (List.all_eq_true.1 shr_all k (List.mem_range.2 hk)) j (List.mem_range.2 hj))
theorem shl_all : (List.range 9).all (fun n => decide (shl .i64 1 (n : Int) = ((2 ^ n : Nat) : Int))) = true := by decide +kernel
theorem shl_f (n : Nat) (hn : n < 9) : shl .i64 1 (n : Int) = ((2 ^ n : Nat) : Int) := of_decide_eq_true (List.all_eq_true.1 shl_all n (List.mem_range.2 hn))
def okItem (n k : Nat) : Bool :=
  (shuttleref32_parted.f 20 (bitL n k)).isSome && (match item n k with | some c => c.all (fun x => x == 0 || x == 1) && decide (c.length ≤ 60) | none => (!decide (rd (bitL n k) 0 = 1) || !decide (rd (bitL n k) ((n : Int) - 1) = 1) || (shuttleref32_parted.f 20 (bitL n k)).getD false))
theorem items_ok : (List.range 8).all (fun n => n == 0 || (List.range (2 ^ n)).all fun k => okItem n k) = true := by decide +kernel
theorem item_ok (n k : Nat) (h1 : 1 ≤ n) (h2 : n ≤ 7) (hk : k < 2 ^ n) : okItem n k = true := by
  have h := List.all_eq_true.1 items_ok n (List.mem_range.2 (by omega))
  simp only [Bool.or_eq_true, beq_iff_eq] at h
  rcases h with h | h
  · omega
  · exact List.all_eq_true.1 h k (List.mem_range.2 hk)
end Go.Proofs.YtijpnlmejphfhaaDoor.P

-- YtijpnlmejphfhaaDoorPSCnt2
namespace Go.Proofs.YtijpnlmejphfhaaDoor.P
open Go Go.Proofs Go.RowKit Go.Proofs.YtijpnlmejphfhaaDoorW.PrintWords Go.Proofs.YtijpnlmejphfhaaDoorW.PrintLast Go.Proofs.YtijpnlmejphfhaaDoorW.PrintMore
set_option linter.unusedVariables false
set_option linter.unusedSimpArgs false

variable {a b c d : Int} {p m : Nat}
theorem wtot_in (hW : ∀ v, v < 4 → 0 ≤ wOf a b c d v ∧ wOf a b c d v ≤ 7) (C : List Int) (hC : ∀ x ∈ C, x = 0 ∨ x = 1) : ∀ j : Nat, 0 ≤ wtot (wOf a b c d) p C j ∧ wtot (wOf a b c d) p C j ≤ 7 * (j : Int)
  | 0 => by simp [wtot]
  | j + 1 => by
    have h := wtot_in hW C hC j
    have hv := hW _ (ver_lt (j % 4) (j / 4 + p))
    have hb : C.getD j 0 = 0 ∨ C.getD j 0 = 1 := by
      rw [List.getD_eq_getElem?_getD]
      by_cases hj : j < C.length
      · rw [List.getElem?_eq_getElem hj]; exact hC _ (List.getElem_mem hj)
      · rw [List.getElem?_eq_none (by omega)]; exact .inl rfl
    unfold wtot
    rcases hb with e | e <;> rw [e] <;> omega
theorem wOf_at (v : Nat) (hv : v < 4) (K : Int → Option (List Int)) : (if ((v : Nat) : Int) = 0 then K a else if ((v : Nat) : Int) = 1 then K b else if ((v : Nat) : Int) = 2 then K c else if ((v : Nat) : Int) = 3 then K d else none) = K (wOf a b c d v) := by
  obtain rfl | rfl | rfl | rfl : v = 0 ∨ v = 1 ∨ v = 2 ∨ v = 3 := by omega
  · rfl
  · rfl
  · rfl
  · rfl
theorem ev_ {j p : Nat} (hj : j < 60) (hp : p ≤ 3) : wrap64 (wrap64 (Int.tdiv (j : Int) 4) + (p : Int)) = ((j / 4 + p : Nat) : Int) := by
  have e1 : Int.tdiv (j : Int) 4 = ((j / 4 : Nat) : Int) := by rw [Int.tdiv_eq_ediv_of_nonneg (by omega)]; omega
  have e2 : wrap64 ((j / 4 : Nat) : Int) = ((j / 4 : Nat) : Int) := wrap_small (by omega) (by omega)
  rw [e1, e2, wrap_small (by omega) (by omega)]; omega
theorem hj4_ {j p : Nat} (hj : j < 60) (hp : p ≤ 3) : j / 4 + p < 40 := by omega
theorem hjc_ {j d n : Nat} (h : j + (d + 1) = n) (hn : n ≤ 60) : j < 60 ∧ j < n ∧ j % 4 < 4 ∧ j + 1 + d = n := by omega
theorem lim_ {x : Int} {j : Nat} (h : x ≤ 7 * ((j + 1 : Nat) : Int)) (hj : j < 60) : x ≤ 1000 := by omega
theorem em_ (j : Nat) : Int.tmod (j : Int) 4 = ((j % 4 : Nat) : Int) := by rw [Int.tmod_eq_emod_of_nonneg (by omega)]; omega
theorem ej_ {j : Nat} (hj : j < 60) : wrap64 ((j : Int) + 1) = ((j + 1 : Nat) : Int) := by rw [wrap_small (by omega) (by omega)]; omega
theorem bw_ {x y z : Int} (hx : x = 0 ∨ x = 1) (hy : 0 ≤ y ∧ y ≤ 7) (hz : 0 ≤ z + x * y ∧ z + x * y ≤ 1000) : wrap64 (z + wrap64 (wrap64 x * y)) = z + x * y := by
  have e2 : wrap64 x = x := by rcases hx with e | e <;> rw [e] <;> exact wrap_small (by decide) (by decide)
  have e3 : wrap64 (x * y) = x * y := by rcases hx with e | e <;> rw [e] <;> exact wrap_small (by omega) (by omega)
  rw [e2, e3]; exact wrap_small hz.1 (by omega)
/-- A code weighed, and counted. -/
theorem l3_up (hW : ∀ v, v < 4 → 0 ≤ wOf a b c d v ∧ wOf a b c d v ≤ 7) (hp : p ≤ 3) (hm : m ≤ 400) (s n kk : Int) (hkk : 0 ≤ kk ∧ kk < 1000) (cs : List (List Int)) (hcs : cs.length ≤ 1000) (C : List Int) (hC : ∀ x ∈ C, x = 0 ∨ x = 1) (hl : C.length ≤ 60) (r : List Int)
    (k0 : Nat) (h0 : shuttleref32_Count.l1 k0 (p : Int) s (m : Int) (outOf (wOf a b c d) p m (cs ++ [C])) n (kk + 1) a b c d = some r) :
    ∀ dd j : Nat, j + dd = C.length → ∃ k, shuttleref32_Count.l3 k (p : Int) s (m : Int) (outOf (wOf a b c d) p m cs) n kk C (wtot (wOf a b c d) p C j) (j : Int) a b c d = some r
  | 0, j, hj => by
    obtain rfl : j = C.length := by omega
    refine ⟨k0 + 1, ?_⟩
    unfold shuttleref32_Count.l3
    rw [if_neg (by omega)]
    have hw := wtot_in (p := p) hW C hC C.length
    have hk1 : wrap64 (kk + 1) = kk + 1 := by unfold wrap64; omega
    obtain ⟨T, hT⟩ := Int.eq_ofNat_of_zero_le hw.1
    rw [hk1]
    by_cases hle : wtot (wOf a b c d) p C C.length ≤ (m : Int)
    · rw [if_pos hle, if_pos hw.1, outOf_length, if_pos (by omega), hT, Int.toNat_natCast, outOf_set _ _ _ _ C T hT (by omega) (by omega)]
      exact h0
    · rw [if_neg hle, outOf_far _ _ _ _ C hle]
      exact h0
  | dd + 1, j, hj => by
    obtain ⟨hj60, hjc, hjm, hjd⟩ := hjc_ hj hl
    have hj4 := hj4_ hj60 hp
    have ev := ev_ hj60 hp
    have em := em_ j
    have ej := ej_ hj60
    obtain ⟨k, hk⟩ := l3_up hW hp hm s n kk hkk cs hcs C hC hl r k0 h0 dd (j + 1) hjd
    refine ⟨(max k 9) + 1, ?_⟩
    have hk2 := up_ (F := fun k => shuttleref32_Count.l3 k (p : Int) s (m : Int) (outOf (wOf a b c d) p m cs) n kk C (wtot (wOf a b c d) p C (j + 1)) ((j + 1 : Nat) : Int) a b c d) (fun k => (shuttleref32_Count.mono_l k).2.2.2.2 _ _ _ _ _ _ _ _ _ _ _ _ _) hk (Nat.le_max_left k 9)
    have hw := wtot_in (p := p) hW C hC j
    have hw2 := wtot_in (p := p) hW C hC (j + 1)
    unfold shuttleref32_Count.l3
    rw [if_pos (Int.ofNat_lt.2 hjc), if_pos (Int.natCast_nonneg j), ev, em, ej, rversion_f _ _ hjm hj4 _ (Nat.le_max_right k 9)]
    simp only [Option.bind_some]
    rw [wOf_at (ver (j % 4) (j / 4 + p)) (ver_lt _ _) (fun z => shuttleref32_Count.l3 (max k 9) (p : Int) s (m : Int) (outOf (wOf a b c d) p m cs) n kk C (wrap64 (wtot (wOf a b c d) p C j + wrap64 (wrap64 (rd C (j : Int)) * z))) ((j + 1 : Nat) : Int) a b c d)]
    have er : rd C (j : Int) = C.getD j 0 := by unfold rd; simp
    have hb : C.getD j 0 = 0 ∨ C.getD j 0 = 1 := by
      rw [List.getD_eq_getElem?_getD, List.getElem?_eq_getElem hjc]; exact hC _ (List.getElem_mem hjc)
    have hv := hW _ (ver_lt (j % 4) (j / 4 + p))
    have ew : wrap64 (wtot (wOf a b c d) p C j + wrap64 (wrap64 (rd C (j : Int)) * wOf a b c d (ver (j % 4) (j / 4 + p)))) = wtot (wOf a b c d) p C (j + 1) := by
      rw [er]
      exact bw_ hb hv ⟨hw2.1, lim_ hw2.2 hj60⟩
    show shuttleref32_Count.l3 (max k 9) (p : Int) s (m : Int) (outOf (wOf a b c d) p m cs) n kk C (wrap64 (wtot (wOf a b c d) p C j + wrap64 (wrap64 (rd C (j : Int)) * wOf a b c d (ver (j % 4) (j / 4 + p))))) ((j + 1 : Nat) : Int) a b c d = some r
    rw [ew]
    exact hk2
/-- A list built, and looked at. -/
theorem l2_up (hW : ∀ v, v < 4 → 0 ≤ wOf a b c d v ∧ wOf a b c d v ≤ 7) (hp : p ≤ 3) (hm : m ≤ 400) (s : Int) (n kk : Nat) (hn : 1 ≤ n ∧ n ≤ 7) (hkk : kk < 2 ^ n) (cs : List (List Int)) (hcs : cs.length ≤ 1000) (r : List Int)
    (k0 : Nat) (h0 : shuttleref32_Count.l1 k0 (p : Int) s (m : Int) (outOf (wOf a b c d) p m (cs ++ (item n kk).toList)) (n : Int) ((kk : Int) + 1) a b c d = some r) :
    ∀ dd j : Nat, j + dd = n → ∃ k, shuttleref32_Count.l2 k (p : Int) s (m : Int) (outOf (wOf a b c d) p m cs) (n : Int) (kk : Int) (bitL j kk) (j : Int) a b c d = some r
  | 0, j, hj => by
    obtain rfl : j = n := by omega
    have hkk2 : kk < 128 := Nat.lt_of_lt_of_le hkk (Nat.pow_le_pow_right (by decide) hn.2)
    have hok := item_ok j kk hn.1 hn.2 hkk
    have hw1 : wrap64 ((j : Int) - 1) = (j : Int) - 1 := by unfold wrap64; omega
    have hk1 : wrap64 ((kk : Int) + 1) = (kk : Int) + 1 := by unfold wrap64; omega
    unfold okItem at hok
    simp only [Bool.and_eq_true] at hok
    obtain ⟨hps, hok⟩ := hok
    obtain ⟨pb, hpb⟩ := Option.isSome_iff_exists.1 hps
    -- behind a list that is none
    have hno : item j kk = none → ∀ b', b' = true → ∃ k, shuttleref32_Count.j3 k (p : Int) s (m : Int) (outOf (wOf a b c d) p m cs) (j : Int) (kk : Int) (bitL j kk) b' a b c d = some r := by
      intro hi b' hb
      refine ⟨k0 + 1, ?_⟩
      unfold shuttleref32_Count.j3
      rw [if_pos hb, hk1]
      rw [hi] at h0
      simpa using h0
    by_cases c1 : rd (bitL j kk) 0 = 1
    · by_cases c2 : rd (bitL j kk) ((j : Int) - 1) = 1
      · cases pb with
        | true =>
          have hi : item j kk = none := by unfold item; rw [if_pos c1, if_pos c2, hpb]
          obtain ⟨k, hk⟩ := hno hi true rfl
          refine ⟨max k 20 + 1, ?_⟩
          unfold shuttleref32_Count.l2
          rw [if_neg (by omega), bitL_length, if_pos (by omega), if_pos c1, hw1, if_pos (by omega), if_pos (by omega), if_pos c2,
            up_ (F := fun k => shuttleref32_parted.f k (bitL j kk)) (fun k => shuttleref32_parted.mono _ k) hpb (Nat.le_max_right k 20)]
          exact up_ (F := fun k => shuttleref32_Count.j3 k (p : Int) s (m : Int) (outOf (wOf a b c d) p m cs) (j : Int) (kk : Int) (bitL j kk) true a b c d) (fun k => (shuttleref32_Count.mono_l k).2.2.2.1 _ _ _ _ _ _ _ _ _ _ _ _) hk (Nat.le_max_left k 20)
        | false =>
          have hi : item j kk = shuttleref06_Code.f 200 (bitL j kk) := by unfold item; rw [if_pos c1, if_pos c2, hpb]
          cases hC : shuttleref06_Code.f 200 (bitL j kk) with
          | none =>
            rw [hi, hC] at hok
            simp [c1, c2, hpb] at hok
          | some C =>
            rw [hi, hC] at hok h0
            simp only [Bool.and_eq_true, List.all_eq_true, decide_eq_true_eq, Bool.or_eq_true, beq_iff_eq] at hok
            obtain ⟨k, hk⟩ := l3_up hW hp hm s (j : Int) (kk : Int) (by omega) cs hcs C hok.1 hok.2 r k0 h0 C.length 0 (by omega)
            refine ⟨max k 200 + 1 + 1, ?_⟩
            unfold shuttleref32_Count.l2
            rw [if_neg (by omega), bitL_length, if_pos (by omega), if_pos c1, hw1, if_pos (by omega), if_pos (by omega), if_pos c2,
              up_ (F := fun k => shuttleref32_parted.f k (bitL j kk)) (fun k => shuttleref32_parted.mono _ k) hpb (show 20 ≤ max k 200 + 1 by omega)]
            show shuttleref32_Count.j3 (max k 200 + 1) (p : Int) s (m : Int) (outOf (wOf a b c d) p m cs) (j : Int) (kk : Int) (bitL j kk) false a b c d = some r
            unfold shuttleref32_Count.j3
            rw [if_neg (by decide), up_ (F := fun k => shuttleref06_Code.f k (bitL j kk)) (fun k => shuttleref06_Code.mono _ k) hC (Nat.le_max_right k 200)]
            exact up_ (F := fun k => shuttleref32_Count.l3 k (p : Int) s (m : Int) (outOf (wOf a b c d) p m cs) (j : Int) (kk : Int) C 0 0 a b c d) (fun k => (shuttleref32_Count.mono_l k).2.2.2.2 _ _ _ _ _ _ _ _ _ _ _ _ _) hk (Nat.le_max_left k 200)
      · have hi : item j kk = none := by unfold item; rw [if_pos c1, if_neg c2]
        obtain ⟨k, hk⟩ := hno hi true rfl
        refine ⟨k + 1, ?_⟩
        unfold shuttleref32_Count.l2
        rw [if_neg (by omega), bitL_length, if_pos (by omega), if_pos c1, hw1, if_pos (by omega), if_pos (by omega), if_neg c2]
        exact hk
    · have hi : item j kk = none := by unfold item; rw [if_neg c1]
      obtain ⟨k, hk⟩ := hno hi true rfl
      refine ⟨k + 1, ?_⟩
      unfold shuttleref32_Count.l2
      rw [if_neg (by omega), bitL_length, if_pos (by omega), if_neg c1]
      exact hk
  | dd + 1, j, hj => by
    obtain ⟨k, hk⟩ := l2_up hW hp hm s n kk hn hkk cs hcs r k0 h0 dd (j + 1) (by omega)
    have hkk2 : kk < 128 := Nat.lt_of_lt_of_le hkk (Nat.pow_le_pow_right (by decide) hn.2)
    refine ⟨k + 1, ?_⟩
    unfold shuttleref32_Count.l2
    have ej : wrap64 ((j : Int) + 1) = ((j + 1 : Nat) : Int) := by unfold wrap64; omega
    rw [if_pos (by omega), if_pos (by omega), bitL_length, if_pos (by omega), shr_f kk j (by omega) (by omega), ej, ← bitL_succ]
    exact hk
theorem item_le (n k : Nat) : (item n k).toList.length ≤ 1 := by cases item n k <;> simp
theorem itemsFrom_le (n : Nat) : ∀ d k, (itemsFrom n k d).length ≤ d
  | 0, k => by simp [itemsFrom]
  | d + 1, k => by
    have h1 := itemsFrom_le n d (k + 1)
    have h2 := item_le n k
    unfold itemsFrom
    rw [List.length_append]; omega
/-- The lists of one length. -/
theorem l1_up (hW : ∀ v, v < 4 → 0 ≤ wOf a b c d v ∧ wOf a b c d v ≤ 7) (hp : p ≤ 3) (hm : m ≤ 400) (s : Int) (n : Nat) (hn : 1 ≤ n ∧ n ≤ 7) (r : List Int) :
    ∀ (dd kk : Nat) (cs : List (List Int)), kk + dd = 2 ^ n → cs.length + dd ≤ 1000 → ∀ k0, shuttleref32_Count.l0 k0 (p : Int) s (m : Int) (outOf (wOf a b c d) p m (cs ++ itemsFrom n kk dd)) ((n : Int) + 1) a b c d = some r →
    ∃ k, shuttleref32_Count.l1 k (p : Int) s (m : Int) (outOf (wOf a b c d) p m cs) (n : Int) (kk : Int) a b c d = some r
  | 0, kk, cs, hk, hl, k0, h0 => by
    refine ⟨k0 + 1, ?_⟩
    unfold shuttleref32_Count.l1
    have en : wrap64 ((n : Int) + 1) = (n : Int) + 1 := by unfold wrap64; omega
    rw [if_pos (by omega), shl_f n (by omega), if_neg (by omega), en]
    simpa [itemsFrom] using h0
  | dd + 1, kk, cs, hk, hl, k0, h0 => by
    unfold itemsFrom at h0
    rw [← List.append_assoc] at h0
    have h2 := item_le n kk
    obtain ⟨k1, h1⟩ := l1_up hW hp hm s n hn r dd (kk + 1) (cs ++ (item n kk).toList) (by omega) (by rw [List.length_append]; omega) k0 h0
    obtain ⟨k2, h2⟩ := l2_up hW hp hm s n kk hn (by omega) cs (by omega) r k1 (by rw [Int.natCast_add] at h1; exact h1) n 0 (by omega)
    refine ⟨k2 + 1, ?_⟩
    unfold shuttleref32_Count.l1
    rw [if_pos (by omega), shl_f n (by omega), if_pos (by omega)]
    exact h2
theorem two7 {n : Nat} (h : n ≤ 7) : 2 ^ n ≤ 128 := Nat.pow_le_pow_right (by decide) h
/-- All lists, length by length. -/
theorem l0_up (hW : ∀ v, v < 4 → 0 ≤ wOf a b c d v ∧ wOf a b c d v ≤ 7) (hp : p ≤ 3) (hm : m ≤ 400) (s : Nat) (hs : s ≤ 13) :
    ∀ (dd n : Nat) (cs : List (List Int)), n + dd = 8 → 1 ≤ n → cs.length + 128 * dd ≤ 1000 → ∃ k, shuttleref32_Count.l0 k (p : Int) (s : Int) (m : Int) (outOf (wOf a b c d) p m cs) (n : Int) a b c d = some (outOf (wOf a b c d) p m (cs ++ items s n dd))
  | 0, n, cs, hd, h1, hl => by
    refine ⟨1, ?_⟩
    unfold shuttleref32_Count.l0
    have en : wrap64 ((n : Int) + 6) = (n : Int) + 6 := by unfold wrap64; omega
    rw [en, if_neg (by omega)]
    simp [items]
  | dd + 1, n, cs, hd, h1, hl => by
    have en : wrap64 ((n : Int) + 6) = (n : Int) + 6 := by unfold wrap64; omega
    have h7 := two7 (n := n) (by omega)
    unfold items
    by_cases hle : n + 6 ≤ s
    · rw [if_pos hle, ← List.append_assoc]
      have hil := itemsFrom_le n (2 ^ n) 0
      obtain ⟨k, hk⟩ := l0_up hW hp hm s hs dd (n + 1) (cs ++ itemsFrom n 0 (2 ^ n)) (by omega) (by omega) (by rw [List.length_append]; omega)
      obtain ⟨k1, hk1⟩ := l1_up hW hp hm (s : Int) n (by omega) _ (2 ^ n) 0 cs (by omega) (by omega) k (by rw [Int.natCast_add] at hk; exact hk)
      refine ⟨k1 + 1, ?_⟩
      unfold shuttleref32_Count.l0
      rw [en, if_pos (by omega)]
      exact hk1
    · rw [if_neg hle]
      refine ⟨1, ?_⟩
      unfold shuttleref32_Count.l0
      rw [en, if_neg (by omega)]
      simp
/-- The reference's counts. -/
theorem rcount_f (hw : wok a b c d = true) (hp : p ≤ 3) (hm : m ≤ 400) (s : Nat) (hs : s ≤ 13) : ∃ k, shuttleref32_Count.f k a b c d (p : Int) (s : Int) (m : Int) = some (outOf (wOf a b c d) p m (items s 1 7)) := by
  obtain ⟨k, hk⟩ := l0_up (wok_in hw) hp hm s hs 7 1 [] (by omega) (by omega) (by decide)
  refine ⟨k, ?_⟩
  unfold shuttleref32_Count.f
  have e1 : wrap64 ((m : Int) + 1) = ((m + 1 : Nat) : Int) := by unfold wrap64; omega
  rw [e1, if_pos (by omega), Int.toNat_natCast, if_pos (by omega)]
  have e2 : outOf (wOf a b c d) p m [] = List.replicate (m + 1) 0 := by
    apply List.ext_getElem
    · simp [outOf_length]
    · intro x h1 h2
      simp [outOf]
  rw [e2] at hk
  exact hk
end Go.Proofs.YtijpnlmejphfhaaDoor.P

-- YtijpnlmejphfhaaDoorP36
namespace Go.Proofs.YtijpnlmejphfhaaDoor.P
open Go.RowKit Go.Proofs.YtijpnlmejphfhaaDoorW.PrintWords Go.Proofs.YtijpnlmejphfhaaDoorW.PrintLast Go.Proofs.YtijpnlmejphfhaaDoorW.PrintMore
attribute [local go_sem] max2_int min2_int max_two min_two max_three min_three max_four min_four   -- for this text's walks alone
set_option linter.unusedVariables false
set_option linter.unusedSimpArgs false

/-! ### shuttleref06_List: function 43 -/
def shuttleref06_List.l0 : Nat → Int → Int → List Int → Int → Option (List Int)
  | 0, _, _, _, _ => none
  | k + 1, x0, x1, x5, x6 => if x6 < 6 then (if 0 ≤ x6 then (if x5.length < 140737488355328 then (shuttleref06_List.l0 k x0 x1 (x5 ++ [(Go.bits .and .i64 (shr .i64 x0 x6) 1) % 256]) (wrap64 (x6 + 1))) else (none)) else (none)) else (if x5.length < 140737488355328 then (some (x5 ++ [x1])) else (none))
def shuttleref06_List.f (k : Nat) (a0 : Int) (a1 : Int) : Option (List Int) := shuttleref06_List.l0 k a0 a1 ([] : List Int) 0
theorem shuttleref06_List.mono_l : ∀ k, (∀ y0 y1 y2 y3, LeO (shuttleref06_List.l0 k y0 y1 y2 y3) (shuttleref06_List.l0 (k + 1) y0 y1 y2 y3))
  | 0 => fun _ _ _ _ r h => by simp [shuttleref06_List.l0] at h
  | k + 1 => by
    have ih0 := shuttleref06_List.mono_l k
    · intro y0 y1 y2 y3
      unfold shuttleref06_List.l0
      repeat' first
      | (with_reducible exact ih0 _ _ _ _)
      | (with_reducible exact LeO.refl _)
      | (with_reducible exact LeO.none _)
      | (with_reducible refine LeO.ite ?_ ?_)
      | (with_reducible refine LeO.bind ?_ (fun _ => ?_))
      | exact ih0 _ _ _ _
      | exact LeO.none _
      | refine LeO.ite ?_ ?_
      | refine LeO.bind ?_ (fun _ => ?_)
theorem shuttleref06_List.mono : ∀ a0 a1 k, LeO (shuttleref06_List.f k a0 a1) (shuttleref06_List.f (k + 1) a0 a1) := by
  intro a0 a1 k
  have ih0 := shuttleref06_List.mono_l k
  unfold shuttleref06_List.f
  repeat' first
      | (with_reducible exact ih0 _ _ _ _)
      | (with_reducible exact LeO.refl _)
      | (with_reducible exact LeO.none _)
      | (with_reducible refine LeO.ite ?_ ?_)
      | (with_reducible refine LeO.bind ?_ (fun _ => ?_))
      | exact ih0 _ _ _ _
      | exact LeO.none _
      | refine LeO.ite ?_ ?_
      | refine LeO.bind ?_ (fun _ => ?_)
set_option maxHeartbeats 8000000 in
set_option maxRecDepth 100000 in
theorem shuttleref06_List.calls (k : Nat) (a0 : Int) (a1 : Int) (r : List Int) (w : World) (h : shuttleref06_List.f k a0 a1 = some r) :
    Calls Tryd.prog 43 #[.int .i64 a0, .int .u8 a1] w fun e w' => ∃ v0_ : Value, e = .returned (v0_) ∧ Kd.R (Kd.int .u8) 5 w' w.heap.size (fun _ => True) v0_ r ∧ Below w.heap.size w w' := by
  have HB := Aside0.mk (Below.refl w.heap.size w)
  have H : (shuttleref06_List.l0 k a0 a1 ([] : List Int) 0) = some r := h
  clear h
  have H' := Aside0.mk H
  clear H
  go_enter Tryd.func43, Tryd.ntmps43
  go_wp2
  go_loopg [5, 6] k (fun kq v5 v6 w' => ∃ (x5_1 : List Int) (x6_1 : Int), v6 = .int .i64 x6_1 ∧ Aside0 (shuttleref06_List.l0 kq a0 a1 x5_1 x6_1 = some r) ∧ Aside0 (kq ≤ k) ∧ Aside0 (Kd.R (Kd.int .u8) 5 w' w.heap.size (fun _ => True) v5 x5_1) ∧ Aside0 (Below w.heap.size w w'))
  case atStart => exact ⟨(([] : List Int)), (0), (by first | rfl | (simp; done) | (simp [*]; done)), H', ⟨Nat.le_refl _⟩, ⟨by first | exact Kd.R_nil _ _ _ _ _ | exact Kd.N_nil _ _ _ _ _ | exact Kd.V_nil _ _ _ _ _ | exact Kd.Q_nil _ _ _ _ _ | exact Kd.S_nil _ _ _ _ _⟩, ⟨by repeat (first | (with_reducible first | exact HB.out | apply below_alloc | apply pw_below_drewN | apply below_drew1) | exact HB.out)⟩⟩
  case round =>
    clear H'
    try clear p2
    obtain ⟨x5_1, x6_1, rfl, HA, HK1, HO_5, HB⟩ := hrel
    cases gk with
    | zero => exact absurd HA.out (by simp [shuttleref06_List.l0])
    | succ k1 =>
      have H := HA.out
      clear HA
      simp only [shuttleref06_List.l0] at H
      by_cases c3 : x6_1 < 6
      · rw [if_pos c3] at H
        have c3b0 : decide (x6_1 < 6) = true := decide_eq_true c3
        clear c3
        by_cases c4 : 0 ≤ x6_1
        · rw [if_pos c4] at H
          have c4b0 := eq_true c4
          have c4b1 : decide (0 ≤ x6_1) = true := decide_eq_true c4
          clear c4
          obtain ⟨ji5, hji5⟩ : ∃ j_ : Int, (shr .i64 a0 x6_1) = j_ := ⟨_, rfl⟩
          replace H : (if x5_1.length < 140737488355328 then (shuttleref06_List.l0 k1 a0 a1 (x5_1 ++ [(Go.bits .and .i64 (ji5) 1) % 256]) (wrap64 (x6_1 + 1))) else (none)) = some r := by first | (rw [hji5] at H; exact H) | (simp only [hji5] at H ⊢; exact H)
          have hji5_ : (a0 / 2 ^ min x6_1.toNat 64) = ji5 := hji5
          have hji5z : x6_1 ≤ 64 → (a0 / 2 ^ x6_1.toNat) = ji5 := shr_small hji5
          by_cases c6 : x5_1.length < 140737488355328
          · rw [if_pos c6] at H
            have LMc6 := Aside0.mk c6
            clear c6
            obtain ⟨y188, hy188⟩ : ∃ y_ : List Int, y_ = (x5_1 ++ [(Go.bits .and .i64 (ji5) 1) % 256]) := ⟨_, rfl⟩
            replace H : (shuttleref06_List.l0 k1 a0 a1 y188 (wrap64 (x6_1 + 1))) = some r := by first | (rw [hy188]; with_reducible exact H) | (have H2_ := (Option.bind_some _ _).symm.trans H; rw [hy188]; with_reducible exact H2_) | (have H2_ := (Option.bind_some _ _).symm.trans H; with_reducible exact H2_) | with_reducible exact H | (rw [hy188]; exact H) | exact H
            have Ny188 := Aside0.mk hy188
            clear hy188
            have H' := Aside0.mk H
            clear H
            go_wp2_with (first | ((with_reducible refine gate_builtin (b := .append) (xs := #[.tmp 11, .tmp 17]) rfl ?_); at_builtin; refine Kd.R_append (Kd.int .u8) (w0 := w) w.heap.size rfl (.tmp 11) (.tmp 17) 39 5 (.int .u8 0) 1 rfl Tryd.underlying39 info5 rfl (by decide) (by omega) u5 x5_1 ((Go.bits .and .i64 (ji5) 1) % 256) [.int .u8 ((Go.bits .and .i64 (ji5) 1) % 256)] (fun _ => True) (fun _ => False) rfl rfl ?aP (fun _ hk => hk.elim) ?aF ?aO ?aB ?aS ?aL ?_; (case aP => exact rfl); (case aB => exact (by repeat (first | (with_reducible first | exact HB.out | apply below_alloc | apply pw_below_drewN | apply below_drew1) | exact HB.out))); (case aF => exact (fun _ _ => trivial)); (case aO => exact (by (with_reducible repeat (first | apply Kd.R_alloc | apply Kd.R_drewN | apply Kd.R_drew)); exact HO_5.out)); (case aS => exact (below_size (by repeat (first | (with_reducible first | exact HB.out | apply below_alloc | apply pw_below_drewN | apply below_drew1) | exact HB.out)))); (case aL => have := LMc6.out; omega); intro v189 w7 ho hb hg hat; rw [← Ny188.out] at ho; have n0_ := Aside0.mk (hb); have n1_ := Aside0.mk (ho); clear HB; clear HO_5; have HB := n0_; have HO190 := n1_; clear n0_ n1_; clear ho hb hg hat))
            go_roundg k1
            case measure => have := HK1.out; omega
            case rel => exact ⟨(y188), (wrap64 (x6_1 + 1)), (by first | rfl | (simp; done) | (simp [*]; done)), H', ⟨by have := HK1.out; omega⟩, ⟨by (with_reducible repeat (first | apply Kd.R_alloc | apply Kd.R_drewN | apply Kd.R_drew)); exact HO190.out⟩, ⟨by repeat (first | (with_reducible first | exact HB.out | apply below_alloc | apply pw_below_drewN | apply below_drew1) | exact HB.out)⟩⟩
          · rw [if_neg c6] at H
            exact absurd H (by simp)
        · rw [if_neg c4] at H
          exact absurd H (by simp)
      · rw [if_neg c3] at H
        have c3b0 : decide (x6_1 < 6) = false := decide_eq_false c3
        clear c3
        by_cases c8 : x5_1.length < 140737488355328
        · rw [if_pos c8] at H
          have LMc8 := Aside0.mk c8
          clear c8
          obtain ⟨y191, hy191⟩ : ∃ y_ : List Int, y_ = (x5_1 ++ [a1]) := ⟨_, rfl⟩
          replace H : (some y191) = some r := by first | (rw [hy191]; with_reducible exact H) | (have H2_ := (Option.bind_some _ _).symm.trans H; rw [hy191]; with_reducible exact H2_) | (have H2_ := (Option.bind_some _ _).symm.trans H; with_reducible exact H2_) | with_reducible exact H | (rw [hy191]; exact H) | exact H
          have Ny191 := Aside0.mk hy191
          clear hy191
          obtain rfl := Option.some.inj H
          go_wp2_with (first | ((with_reducible refine gate_builtin (b := .append) (xs := #[.tmp 19, .tmp 21]) rfl ?_); at_builtin; refine Kd.R_append (Kd.int .u8) (w0 := w) w.heap.size rfl (.tmp 19) (.tmp 21) 39 5 (.int .u8 0) 1 rfl Tryd.underlying39 info5 rfl (by decide) (by omega) u5 x5_1 a1 [.int .u8 a1] (fun _ => True) (fun _ => False) rfl rfl ?aP (fun _ hk => hk.elim) ?aF ?aO ?aB ?aS ?aL ?_; (case aP => exact rfl); (case aB => exact (by repeat (first | (with_reducible first | exact HB.out | apply below_alloc | apply pw_below_drewN | apply below_drew1) | exact HB.out))); (case aF => exact (fun _ _ => trivial)); (case aO => exact (by (with_reducible repeat (first | apply Kd.R_alloc | apply Kd.R_drewN | apply Kd.R_drew)); exact HO_5.out)); (case aS => exact (below_size (by repeat (first | (with_reducible first | exact HB.out | apply below_alloc | apply pw_below_drewN | apply below_drew1) | exact HB.out)))); (case aL => have := LMc8.out; omega); intro v192 w9 ho hb hg hat; rw [← Ny191.out] at ho; have n0_ := Aside0.mk (hb); have n1_ := Aside0.mk (ho); clear HB; clear HO_5; have HB := n0_; have HO193 := n1_; clear n0_ n1_; clear ho hb hg hat))
          go_ret
          exact ⟨_, by first | rfl | (simp [errW_none, errW_some] <;> rfl) | (simp [*, errW_none, errW_some] <;> rfl), by (with_reducible repeat (first | apply Kd.R_alloc | apply Kd.R_drewN | apply Kd.R_drew)); exact HO193.out, by repeat (first | (with_reducible first | exact HB.out | apply below_alloc | apply pw_below_drewN | apply below_drew1) | exact HB.out)⟩
        · rw [if_neg c8] at H
          exact absurd H (by simp)

end Go.Proofs.YtijpnlmejphfhaaDoor.P

-- YtijpnlmejphfhaaDoorP37
namespace Go.Proofs.YtijpnlmejphfhaaDoor.P
open Go.RowKit Go.Proofs.YtijpnlmejphfhaaDoorW.PrintWords Go.Proofs.YtijpnlmejphfhaaDoorW.PrintLast Go.Proofs.YtijpnlmejphfhaaDoorW.PrintMore
attribute [local go_sem] max2_int min2_int max_two min_two max_three min_three max_four min_four   -- for this text's walks alone
set_option linter.unusedVariables false
set_option linter.unusedSimpArgs false

/-! ### shuttleref07_Step: function 31 -/
def shuttleref07_Step.l0 : Nat → List Int → Int → Int → Int → Int → Int → Int → Int → Int → Option (Int × Int × Int × Int × Int × Int × Int)
  | 0, _, _, _, _, _, _, _, _, _ => none
  | k + 1, x6, x7, x196000, x196001, x196002, x196003, x196004, x196005, x196006 => if x7 < 4 then ((shuttleref06_Bit.f x6 6 x7).bind fun t199 => (if x7 = 0 then (shuttleref07_Step.l0 k x6 (0 + 1) x196000 x196001 x196002 t199 x196004 x196005 x196006) else (if x7 = 1 then (shuttleref07_Step.l0 k x6 (1 + 1) x196000 x196001 x196002 x196003 t199 x196005 x196006) else (if x7 = 2 then (shuttleref07_Step.l0 k x6 (2 + 1) x196000 x196001 x196002 x196003 x196004 t199 x196006) else (if x7 = 3 then (shuttleref07_Step.l0 k x6 (3 + 1) x196000 x196001 x196002 x196003 x196004 x196005 t199) else (none)))))) else (some (x196000, x196001, x196002, x196003, x196004, x196005, x196006))
def shuttleref07_Step.f (k : Nat) (a0 : Int) (a1 : Int) : Option (Int × Int × Int × Int × Int × Int × Int) := (shuttleref06_List.f k a0 a1).bind fun t196 => (shuttleref07_Step.l0 k t196 0 a0 (wrap64 ((wrap64 (Int.tdiv a0 2)) + (wrap64 (32 * (wrap64 (a1)))))) a1 0 0 0 0)
theorem shuttleref07_Step.mono_l : ∀ k, (∀ y0 y1 y2 y3 y4 y5 y6 y7 y8, LeO (shuttleref07_Step.l0 k y0 y1 y2 y3 y4 y5 y6 y7 y8) (shuttleref07_Step.l0 (k + 1) y0 y1 y2 y3 y4 y5 y6 y7 y8))
  | 0 => fun _ _ _ _ _ _ _ _ _ r h => by simp [shuttleref07_Step.l0] at h
  | k + 1 => by
    have ih0 := shuttleref07_Step.mono_l k
    · intro y0 y1 y2 y3 y4 y5 y6 y7 y8
      unfold shuttleref07_Step.l0
      repeat' first
      | (with_reducible exact ih0 _ _ _ _ _ _ _ _ _)
      | (with_reducible exact shuttleref06_List.mono _ _ _)
      | (with_reducible exact LeO.refl _)
      | (with_reducible exact LeO.none _)
      | (with_reducible refine LeO.ite ?_ ?_)
      | (with_reducible refine LeO.bind ?_ (fun _ => ?_))
      | exact ih0 _ _ _ _ _ _ _ _ _
      | exact shuttleref06_List.mono _ _ _
      | exact LeO.none _
      | refine LeO.ite ?_ ?_
      | refine LeO.bind ?_ (fun _ => ?_)
theorem shuttleref07_Step.mono : ∀ a0 a1 k, LeO (shuttleref07_Step.f k a0 a1) (shuttleref07_Step.f (k + 1) a0 a1) := by
  intro a0 a1 k
  have ih0 := shuttleref07_Step.mono_l k
  unfold shuttleref07_Step.f
  repeat' first
      | (with_reducible exact ih0 _ _ _ _ _ _ _ _ _)
      | (with_reducible exact shuttleref06_List.mono _ _ _)
      | (with_reducible exact LeO.refl _)
      | (with_reducible exact LeO.none _)
      | (with_reducible refine LeO.ite ?_ ?_)
      | (with_reducible refine LeO.bind ?_ (fun _ => ?_))
      | exact ih0 _ _ _ _ _ _ _ _ _
      | exact shuttleref06_List.mono _ _ _
      | exact LeO.none _
      | refine LeO.ite ?_ ?_
      | refine LeO.bind ?_ (fun _ => ?_)
set_option maxHeartbeats 8000000 in
set_option maxRecDepth 100000 in
theorem shuttleref07_Step.calls (k : Nat) (a0 : Int) (a1 : Int) (r1 : Int) (r2 : Int) (r3 : Int) (r4 : Int) (r5 : Int) (r6 : Int) (r7 : Int) (w : World) (h : shuttleref07_Step.f k a0 a1 = some (r1, r2, r3, r4, r5, r6, r7)) :
    Calls Tryd.prog 31 #[.int .i64 a0, .int .u8 a1] w fun e w' => e = .returned (.agg #[.int .i64 r1, .int .i64 r2, .int .u8 r3, .int .u8 r4, .int .u8 r5, .int .u8 r6, .int .u8 r7]) ∧ Below w.heap.size w w' := by
  have hu58 := Tryd.underlying58
  have HB := Aside0.mk (Below.refl w.heap.size w)
  have H : ((shuttleref06_List.f k a0 a1).bind fun t196 => (shuttleref07_Step.l0 k t196 0 a0 (wrap64 ((wrap64 (Int.tdiv a0 2)) + (wrap64 (32 * (wrap64 (a1)))))) a1 0 0 0 0)) = some (r1, r2, r3, r4, r5, r6, r7) := h
  clear h
  replace H := Option.bind_eq_some_iff.mp H
  obtain ⟨t196, A30, H⟩ := H
  replace H : (shuttleref07_Step.l0 k t196 0 a0 (wrap64 ((wrap64 (Int.tdiv a0 2)) + (wrap64 (32 * (wrap64 (a1)))))) a1 0 0 0 0) = some (r1, r2, r3, r4, r5, r6, r7) := H
  have A3 := Aside0.mk A30
  clear A30
  have H' := Aside0.mk H
  clear H
  go_enter Tryd.func31, Tryd.ntmps31
  go_wp2_with (first | ((with_reducible refine gate_dst (N := 4) rfl ?_); refine box_event ?hg (N := 4) ?hd (cs := #[.int .i64 0, .int .i64 0, .int .u8 0, .int .u8 0, .int .u8 0, .int .u8 0, .int .u8 0]) (t := 58) ?hr ?_; (case hd => rfl); (case hg => rfl); (case hr => first | (go_simp; done) | (go_simp; rfl)); intro gb194 hg w4 hbox hb; have n0_ := Aside0.mk (below_step (by repeat (first | (with_reducible first | exact HB.out | apply below_alloc | apply pw_below_drewN | apply below_drew1) | exact HB.out)) hb); have n1_ := Aside0.mk (hbox); have n2_ := Aside0.mk ((by rw [hg]; exact (below_size (by repeat (first | (with_reducible first | exact HB.out | apply below_alloc | apply pw_below_drewN | apply below_drew1) | exact HB.out))) : w.heap.size ≤ gb194)); have n3_ := Aside0.mk ((by rw [hg]; exact (below_size (by repeat (first | (with_reducible first | exact HB.out | apply below_alloc | apply pw_below_drewN | apply below_drew1) | exact HB.out))) : w.heap.size ≤ gb194)); clear HB; have HB := n0_; have BK194 := n1_; have GW194 := n2_; have GE194 := n3_; clear n0_ n1_ n2_ n3_; clear hb hbox hg) | ((with_reducible refine gate_dst (N := 5) rfl ?_); refine box_event ?hg (N := 5) ?hd (cs := #[.int .i64 0, .int .i64 0, .int .u8 0, .int .u8 0, .int .u8 0, .int .u8 0, .int .u8 0]) (t := 58) ?hr ?_; (case hd => rfl); (case hg => rfl); (case hr => first | (go_simp; done) | (go_simp; rfl)); intro gb195 hg w5 hbox hb; have n0_ := Aside0.mk (blk_below (g := gb194) (o := .cells #[.int .i64 0, .int .i64 0, .int .u8 0, .int .u8 0, .int .u8 0, .int .u8 0, .int .u8 0] 58 (0, 0)) (by (with_reducible repeat (first | refine blk_drewN ?_ _ | refine blk_drew ?_ | refine blk_alloc ?_ _)); exact BK194.out) hb); have n1_ := Aside0.mk (below_step (by repeat (first | (with_reducible first | exact HB.out | apply below_alloc | apply pw_below_drewN | apply below_drew1 | refine below_set ?_ GE194.out) | exact HB.out)) hb); have n2_ := Aside0.mk (hbox); have n3_ := Aside0.mk ((by rw [hg]; exact (below_size (by repeat (first | (with_reducible first | exact HB.out | apply below_alloc | apply pw_below_drewN | apply below_drew1 | refine below_set ?_ GE194.out) | exact HB.out))) : w.heap.size ≤ gb195)); have n4_ := Aside0.mk ((by rw [hg]; exact (below_size (by repeat (first | (with_reducible first | exact HB.out | apply below_alloc | apply pw_below_drewN | apply below_drew1 | refine below_set ?_ GE194.out) | exact HB.out))) : w.heap.size ≤ gb195)); have n5_ := Aside0.mk ((by rw [hg]; exact Nat.ne_of_lt (blk_lt (g := gb194) (o := .cells #[.int .i64 0, .int .i64 0, .int .u8 0, .int .u8 0, .int .u8 0, .int .u8 0, .int .u8 0] 58 (0, 0)) (by (with_reducible repeat (first | refine blk_drewN ?_ _ | refine blk_drew ?_ | refine blk_alloc ?_ _)); exact BK194.out)) : gb194 ≠ gb195)); have n6_ := Aside0.mk ((by rw [hg]; exact Nat.ne_of_gt (blk_lt (g := gb194) (o := .cells #[.int .i64 0, .int .i64 0, .int .u8 0, .int .u8 0, .int .u8 0, .int .u8 0, .int .u8 0] 58 (0, 0)) (by (with_reducible repeat (first | refine blk_drewN ?_ _ | refine blk_drew ?_ | refine blk_alloc ?_ _)); exact BK194.out)) : gb195 ≠ gb194)); clear BK194; clear HB; have BK194 := n0_; have HB := n1_; have BK195 := n2_; have GW195 := n3_; have GE195 := n4_; have NB194_195 := n5_; have NB195_194 := n6_; clear n0_ n1_ n2_ n3_ n4_ n5_ n6_; clear hb hbox hg; have hnb6 := NB195_194.out; have hnc6 := NB194_195.out; have hcz7_0 : w5.cell? ⟨gb195, 0, none⟩ = some (.int .i64 0) := (blk_cell BK195.out 0).trans rfl; have hcz7_1 : w5.cell? ⟨gb195, 1, none⟩ = some (.int .i64 0) := (blk_cell BK195.out 1).trans rfl; have hcz7_2 : w5.cell? ⟨gb195, 2, none⟩ = some (.int .u8 0) := (blk_cell BK195.out 2).trans rfl; have hcz7_3 : w5.cell? ⟨gb195, 3, none⟩ = some (.int .u8 0) := (blk_cell BK195.out 3).trans rfl; have hcz7_4 : w5.cell? ⟨gb195, 4, none⟩ = some (.int .u8 0) := (blk_cell BK195.out 4).trans rfl; have hcz7_5 : w5.cell? ⟨gb195, 5, none⟩ = some (.int .u8 0) := (blk_cell BK195.out 5).trans rfl; have hcz7_6 : w5.cell? ⟨gb195, 6, none⟩ = some (.int .u8 0) := (blk_cell BK195.out 6).trans rfl; have hfz7_0 := blk_frozen BK195.out 0; have hfz7_1 := blk_frozen BK195.out 1; have hfz7_2 := blk_frozen BK195.out 2; have hfz7_3 := blk_frozen BK195.out 3; have hfz7_4 := blk_frozen BK195.out 4; have hfz7_5 := blk_frozen BK195.out 5; have hfz7_6 := blk_frozen BK195.out 6) | ((with_reducible refine gate_callee (f := 43) rfl ?_); refine goesL_ (some 19) rfl rfl Tryd.func43 (by kernel_rfl) rfl #[.int .i64 a0, .int .u8 a1] rfl (by (try simp only [List.map_toArray, List.map_cons, List.map_nil]); first | done | rfl | (simp only [List.length_drop, List.length_take]; rfl)) ?_; (with_reducible refine (shuttleref06_List.calls k a0 a1 t196 _ A3.out).mono ?_); rintro e w8 ⟨v197, rfl, ho0, hb⟩; refine ⟨_, rfl, ?_⟩; have n0_ := Aside0.mk (Kd.R_lower ho0 (below_size (by repeat (first | (with_reducible first | exact HB.out | apply below_alloc | apply pw_below_drewN | apply below_drew1 | refine below_set ?_ GE194.out | refine below_set ?_ GE195.out) | exact HB.out)))); have n1_ := Aside0.mk (blk_below (g := gb194) (o := .cells #[.int .i64 0, .int .i64 0, .int .u8 0, .int .u8 0, .int .u8 0, .int .u8 0, .int .u8 0] 58 (0, 0)) (by (with_reducible repeat (first | refine blk_drewN ?_ _ | refine blk_drew ?_ | refine blk_alloc ?_ _)); refine blk_far ?_ NB194_195.out _; (with_reducible repeat (first | refine blk_drewN ?_ _ | refine blk_drew ?_ | refine blk_alloc ?_ _)); refine blk_far ?_ NB194_195.out _; (with_reducible repeat (first | refine blk_drewN ?_ _ | refine blk_drew ?_ | refine blk_alloc ?_ _)); refine blk_far ?_ NB194_195.out _; (with_reducible repeat (first | refine blk_drewN ?_ _ | refine blk_drew ?_ | refine blk_alloc ?_ _)); refine blk_far ?_ NB194_195.out _; (with_reducible repeat (first | refine blk_drewN ?_ _ | refine blk_drew ?_ | refine blk_alloc ?_ _)); refine blk_far ?_ NB194_195.out _; (with_reducible repeat (first | refine blk_drewN ?_ _ | refine blk_drew ?_ | refine blk_alloc ?_ _)); refine blk_far ?_ NB194_195.out _; (with_reducible repeat (first | refine blk_drewN ?_ _ | refine blk_drew ?_ | refine blk_alloc ?_ _)); refine blk_far ?_ NB194_195.out _; (with_reducible repeat (first | refine blk_drewN ?_ _ | refine blk_drew ?_ | refine blk_alloc ?_ _)); exact BK194.out) hb); have n2_ := Aside0.mk (blk_below (g := gb195) (o := .cells #[.int .i64 a0, .int .i64 (wrap64 ((wrap64 (Int.tdiv a0 2)) + (wrap64 (32 * (wrap64 (a1)))))), .int .u8 a1, .int .u8 0, .int .u8 0, .int .u8 0, .int .u8 0] 58 (0, 0)) (by (with_reducible repeat (first | refine blk_drewN ?_ _ | refine blk_drew ?_ | refine blk_alloc ?_ _)); refine blk_put (cs := #[.int .i64 a0, .int .i64 (wrap64 ((wrap64 (Int.tdiv a0 2)) + (wrap64 (32 * (wrap64 (a1)))))), .int .u8 a1, .int .u8 0, .int .u8 0, .int .u8 0, .int .u8 0]) ?_ 6 _ rfl; (with_reducible repeat (first | refine blk_drewN ?_ _ | refine blk_drew ?_ | refine blk_alloc ?_ _)); refine blk_put (cs := #[.int .i64 a0, .int .i64 (wrap64 ((wrap64 (Int.tdiv a0 2)) + (wrap64 (32 * (wrap64 (a1)))))), .int .u8 a1, .int .u8 0, .int .u8 0, .int .u8 0, .int .u8 0]) ?_ 5 _ rfl; (with_reducible repeat (first | refine blk_drewN ?_ _ | refine blk_drew ?_ | refine blk_alloc ?_ _)); refine blk_put (cs := #[.int .i64 a0, .int .i64 (wrap64 ((wrap64 (Int.tdiv a0 2)) + (wrap64 (32 * (wrap64 (a1)))))), .int .u8 a1, .int .u8 0, .int .u8 0, .int .u8 0, .int .u8 0]) ?_ 4 _ rfl; (with_reducible repeat (first | refine blk_drewN ?_ _ | refine blk_drew ?_ | refine blk_alloc ?_ _)); refine blk_put (cs := #[.int .i64 a0, .int .i64 (wrap64 ((wrap64 (Int.tdiv a0 2)) + (wrap64 (32 * (wrap64 (a1)))))), .int .u8 a1, .int .u8 0, .int .u8 0, .int .u8 0, .int .u8 0]) ?_ 3 _ rfl; (with_reducible repeat (first | refine blk_drewN ?_ _ | refine blk_drew ?_ | refine blk_alloc ?_ _)); refine blk_put (cs := #[.int .i64 a0, .int .i64 (wrap64 ((wrap64 (Int.tdiv a0 2)) + (wrap64 (32 * (wrap64 (a1)))))), .int .u8 0, .int .u8 0, .int .u8 0, .int .u8 0, .int .u8 0]) ?_ 2 _ rfl; (with_reducible repeat (first | refine blk_drewN ?_ _ | refine blk_drew ?_ | refine blk_alloc ?_ _)); refine blk_put (cs := #[.int .i64 a0, .int .i64 0, .int .u8 0, .int .u8 0, .int .u8 0, .int .u8 0, .int .u8 0]) ?_ 1 _ rfl; (with_reducible repeat (first | refine blk_drewN ?_ _ | refine blk_drew ?_ | refine blk_alloc ?_ _)); refine blk_put (cs := #[.int .i64 0, .int .i64 0, .int .u8 0, .int .u8 0, .int .u8 0, .int .u8 0, .int .u8 0]) ?_ 0 _ rfl; (with_reducible repeat (first | refine blk_drewN ?_ _ | refine blk_drew ?_ | refine blk_alloc ?_ _)); exact BK195.out) hb); have n3_ := Aside0.mk (below_step (by repeat (first | (with_reducible first | exact HB.out | apply below_alloc | apply pw_below_drewN | apply below_drew1 | refine below_set ?_ GE194.out | refine below_set ?_ GE195.out) | exact HB.out)) hb); clear BK194; clear BK195; clear HB; have HO198 := n0_; have BK194 := n1_; have BK195 := n2_; have HB := n3_; clear n0_ n1_ n2_ n3_; (try clear hb); (try clear hb2); (try clear hk); (try clear hi); (try clear ho0)))
  go_loopg [7] k (fun kq v7 w' => ∃ (x7_1 : Int) (x196003_1 : Int) (x196004_1 : Int) (x196005_1 : Int) (x196006_1 : Int), v7 = .int .i64 x7_1 ∧ Aside0 (shuttleref07_Step.l0 kq t196 x7_1 a0 (wrap64 ((wrap64 (Int.tdiv a0 2)) + (wrap64 (32 * (wrap64 (a1)))))) a1 x196003_1 x196004_1 x196005_1 x196006_1 = some (r1, r2, r3, r4, r5, r6, r7)) ∧ Aside0 (kq ≤ k) ∧ Aside0 (Kd.R (Kd.int .u8) 5 w' w.heap.size (fun _ => True) v197 t196) ∧ Aside0 (w'.heap[gb194]? = some (.cells #[.int .i64 0, .int .i64 0, .int .u8 0, .int .u8 0, .int .u8 0, .int .u8 0, .int .u8 0] 58 (0, 0))) ∧ Aside0 (w'.heap[gb195]? = some (.cells #[.int .i64 a0, .int .i64 (wrap64 ((wrap64 (Int.tdiv a0 2)) + (wrap64 (32 * (wrap64 (a1)))))), .int .u8 a1, .int .u8 x196003_1, .int .u8 x196004_1, .int .u8 x196005_1, .int .u8 x196006_1] 58 (0, 0))) ∧ Aside0 (Below w.heap.size w w'))
  case atStart => exact ⟨(0), (0), (0), (0), (0), (by first | rfl | (simp; done) | (simp [*]; done)), H', ⟨Nat.le_refl _⟩, ⟨by (with_reducible repeat (first | apply Kd.R_alloc | apply Kd.R_drewN | apply Kd.R_drew)); exact HO198.out⟩, ⟨by (with_reducible repeat (first | refine blk_drewN ?_ _ | refine blk_drew ?_ | refine blk_alloc ?_ _)); exact BK194.out⟩, ⟨by (with_reducible repeat (first | refine blk_drewN ?_ _ | refine blk_drew ?_ | refine blk_alloc ?_ _)); exact BK195.out⟩, ⟨by repeat (first | (with_reducible first | exact HB.out | apply below_alloc | apply pw_below_drewN | apply below_drew1 | refine below_set ?_ GE194.out | refine below_set ?_ GE195.out) | exact HB.out)⟩⟩
  case round =>
    clear H'
    try clear p2
    try clear c3
    try clear c4
    try clear c6
    try clear p6
    try clear hcz7_0
    try clear hcz7_1
    try clear hcz7_2
    try clear hcz7_3
    try clear hcz7_4
    try clear hcz7_5
    try clear hcz7_6
    try clear hfz7_0
    try clear hfz7_1
    try clear hfz7_2
    try clear hfz7_3
    try clear hfz7_4
    try clear hfz7_5
    try clear hfz7_6
    obtain ⟨x7_1, x196003_1, x196004_1, x196005_1, x196006_1, rfl, HA, HK1, HO_6, BK194, BK195, HB⟩ := hrel
    cases gk with
    | zero => exact absurd HA.out (by simp [shuttleref07_Step.l0])
    | succ k1 =>
      have H := HA.out
      clear HA
      simp only [shuttleref07_Step.l0] at H
      by_cases c9 : x7_1 < 4
      · rw [if_pos c9] at H
        have c9b0 : decide (x7_1 < 4) = true := decide_eq_true c9
        clear c9
        replace H := Option.bind_eq_some_iff.mp H
        obtain ⟨t199, A100, H⟩ := H
        replace H : (if x7_1 = 0 then (shuttleref07_Step.l0 k1 t196 (0 + 1) a0 (wrap64 ((wrap64 (Int.tdiv a0 2)) + (wrap64 (32 * (wrap64 (a1)))))) a1 t199 x196004_1 x196005_1 x196006_1) else (if x7_1 = 1 then (shuttleref07_Step.l0 k1 t196 (1 + 1) a0 (wrap64 ((wrap64 (Int.tdiv a0 2)) + (wrap64 (32 * (wrap64 (a1)))))) a1 x196003_1 t199 x196005_1 x196006_1) else (if x7_1 = 2 then (shuttleref07_Step.l0 k1 t196 (2 + 1) a0 (wrap64 ((wrap64 (Int.tdiv a0 2)) + (wrap64 (32 * (wrap64 (a1)))))) a1 x196003_1 x196004_1 t199 x196006_1) else (if x7_1 = 3 then (shuttleref07_Step.l0 k1 t196 (3 + 1) a0 (wrap64 ((wrap64 (Int.tdiv a0 2)) + (wrap64 (32 * (wrap64 (a1)))))) a1 x196003_1 x196004_1 x196005_1 t199) else (none))))) = some (r1, r2, r3, r4, r5, r6, r7) := H
        have A10 := Aside0.mk A100
        clear A100
        by_cases c11 : x7_1 = 0
        · rw [if_pos c11] at H
          subst c11
          have H' := Aside0.mk H
          clear H
          obtain ⟨Ao12, co12, eo12⟩ := Kd.R_slice HO_6.out
          subst eo12
          go_wp2_with (first | ((with_reducible refine gate_callee (f := 37) rfl ?_); refine goesL_ (some 27) rfl rfl Tryd.func37 (by kernel_rfl) rfl #[.slice Ao12 t196.length co12, .int .i64 6, .int .i64 0] rfl (by (try simp only [List.map_toArray, List.map_cons, List.map_nil]); first | done | rfl | (simp only [List.length_drop, List.length_take]; rfl)) ?_; (with_reducible refine (shuttleref06_Bit.calls _ _ t196 6 0 t199 _ ?side1 ?side2 A10.out).mono ?_); (case side1 => repeat (first | exact (Kd.R_reads' HO_6.out).2.2 | (with_reducible refine Kd.C_alloc ?_ _) | (with_reducible refine Kd.C_drewN ?_ _) | (with_reducible refine Kd.C_drew ?_))); (case side2 => exact (Kd.R_reads' HO_6.out).2.1); rintro e w13 ⟨rfl, hb⟩; refine ⟨_, rfl, ?_⟩; have n0_ := Aside0.mk (Kd.R_below (by (with_reducible repeat (first | apply Kd.R_alloc | apply Kd.R_drewN | apply Kd.R_drew)); exact HO_6.out) hb); have n1_ := Aside0.mk (blk_below (g := gb194) (o := .cells #[.int .i64 0, .int .i64 0, .int .u8 0, .int .u8 0, .int .u8 0, .int .u8 0, .int .u8 0] 58 (0, 0)) (by (with_reducible repeat (first | refine blk_drewN ?_ _ | refine blk_drew ?_ | refine blk_alloc ?_ _)); exact BK194.out) hb); have n2_ := Aside0.mk (blk_below (g := gb195) (o := .cells #[.int .i64 a0, .int .i64 (wrap64 ((wrap64 (Int.tdiv a0 2)) + (wrap64 (32 * (wrap64 (a1)))))), .int .u8 a1, .int .u8 x196003_1, .int .u8 x196004_1, .int .u8 x196005_1, .int .u8 x196006_1] 58 (0, 0)) (by (with_reducible repeat (first | refine blk_drewN ?_ _ | refine blk_drew ?_ | refine blk_alloc ?_ _)); exact BK195.out) hb); have n3_ := Aside0.mk (below_step (by repeat (first | (with_reducible first | exact HB.out | apply below_alloc | apply pw_below_drewN | apply below_drew1 | refine below_set ?_ GE194.out | refine below_set ?_ GE195.out) | exact HB.out)) hb); clear HO_6; clear BK194; clear BK195; clear HB; have HO_6 := n0_; have BK194 := n1_; have BK195 := n2_; have HB := n3_; clear n0_ n1_ n2_ n3_; (try clear hb); (try clear hb2); (try clear hk); (try clear hi); have hnb14 := NB195_194.out; have hnc14 := NB194_195.out; have hcz15_0 : w13.cell? ⟨gb195, 0, none⟩ = some (.int .i64 a0) := (blk_cell BK195.out 0).trans rfl; have hcz15_1 : w13.cell? ⟨gb195, 1, none⟩ = some (.int .i64 (wrap64 ((wrap64 (Int.tdiv a0 2)) + (wrap64 (32 * (wrap64 (a1))))))) := (blk_cell BK195.out 1).trans rfl; have hcz15_2 : w13.cell? ⟨gb195, 2, none⟩ = some (.int .u8 a1) := (blk_cell BK195.out 2).trans rfl; have hcz15_3 : w13.cell? ⟨gb195, 3, none⟩ = some (.int .u8 x196003_1) := (blk_cell BK195.out 3).trans rfl; have hcz15_4 : w13.cell? ⟨gb195, 4, none⟩ = some (.int .u8 x196004_1) := (blk_cell BK195.out 4).trans rfl; have hcz15_5 : w13.cell? ⟨gb195, 5, none⟩ = some (.int .u8 x196005_1) := (blk_cell BK195.out 5).trans rfl; have hcz15_6 : w13.cell? ⟨gb195, 6, none⟩ = some (.int .u8 x196006_1) := (blk_cell BK195.out 6).trans rfl; have hfz15_0 := blk_frozen BK195.out 0; have hfz15_1 := blk_frozen BK195.out 1; have hfz15_2 := blk_frozen BK195.out 2; have hfz15_3 := blk_frozen BK195.out 3; have hfz15_4 := blk_frozen BK195.out 4; have hfz15_5 := blk_frozen BK195.out 5; have hfz15_6 := blk_frozen BK195.out 6))
          go_roundg k1
          case measure => have := HK1.out; omega
          case rel => exact ⟨(0 + 1), (t199), (x196004_1), (x196005_1), (x196006_1), (by first | rfl | (simp; done) | (simp [*]; done)), H', ⟨by have := HK1.out; omega⟩, ⟨by (with_reducible repeat (first | apply Kd.R_alloc | apply Kd.R_drewN | apply Kd.R_drew)); exact Kd.R_mono (Kd.R_far (p := ⟨gb195, 3, none⟩) (Kd.R_types HO_6.out BK195.out (by decide)) (fun _ hk => hk.2) (.int .u8 t199)) (fun _ hk => trivial)⟩, ⟨by (with_reducible repeat (first | refine blk_drewN ?_ _ | refine blk_drew ?_ | refine blk_alloc ?_ _)); refine blk_far ?_ NB194_195.out _; (with_reducible repeat (first | refine blk_drewN ?_ _ | refine blk_drew ?_ | refine blk_alloc ?_ _)); exact BK194.out⟩, ⟨by (with_reducible repeat (first | refine blk_drewN ?_ _ | refine blk_drew ?_ | refine blk_alloc ?_ _)); refine blk_put (cs := #[.int .i64 a0, .int .i64 (wrap64 ((wrap64 (Int.tdiv a0 2)) + (wrap64 (32 * (wrap64 (a1)))))), .int .u8 a1, .int .u8 x196003_1, .int .u8 x196004_1, .int .u8 x196005_1, .int .u8 x196006_1]) ?_ 3 _ rfl; (with_reducible repeat (first | refine blk_drewN ?_ _ | refine blk_drew ?_ | refine blk_alloc ?_ _)); exact BK195.out⟩, ⟨by repeat (first | (with_reducible first | exact HB.out | apply below_alloc | apply pw_below_drewN | apply below_drew1 | refine below_set ?_ GE194.out | refine below_set ?_ GE195.out) | exact HB.out)⟩⟩
        · rw [if_neg c11] at H
          clear c11
          by_cases c16 : x7_1 = 1
          · rw [if_pos c16] at H
            subst c16
            have H' := Aside0.mk H
            clear H
            obtain ⟨Ao17, co17, eo17⟩ := Kd.R_slice HO_6.out
            subst eo17
            go_wp2_with (first | ((with_reducible refine gate_callee (f := 37) rfl ?_); refine goesL_ (some 27) rfl rfl Tryd.func37 (by kernel_rfl) rfl #[.slice Ao17 t196.length co17, .int .i64 6, .int .i64 1] rfl (by (try simp only [List.map_toArray, List.map_cons, List.map_nil]); first | done | rfl | (simp only [List.length_drop, List.length_take]; rfl)) ?_; (with_reducible refine (shuttleref06_Bit.calls _ _ t196 6 1 t199 _ ?side1 ?side2 A10.out).mono ?_); (case side1 => repeat (first | exact (Kd.R_reads' HO_6.out).2.2 | (with_reducible refine Kd.C_alloc ?_ _) | (with_reducible refine Kd.C_drewN ?_ _) | (with_reducible refine Kd.C_drew ?_))); (case side2 => exact (Kd.R_reads' HO_6.out).2.1); rintro e w18 ⟨rfl, hb⟩; refine ⟨_, rfl, ?_⟩; have n0_ := Aside0.mk (Kd.R_below (by (with_reducible repeat (first | apply Kd.R_alloc | apply Kd.R_drewN | apply Kd.R_drew)); exact HO_6.out) hb); have n1_ := Aside0.mk (blk_below (g := gb194) (o := .cells #[.int .i64 0, .int .i64 0, .int .u8 0, .int .u8 0, .int .u8 0, .int .u8 0, .int .u8 0] 58 (0, 0)) (by (with_reducible repeat (first | refine blk_drewN ?_ _ | refine blk_drew ?_ | refine blk_alloc ?_ _)); exact BK194.out) hb); have n2_ := Aside0.mk (blk_below (g := gb195) (o := .cells #[.int .i64 a0, .int .i64 (wrap64 ((wrap64 (Int.tdiv a0 2)) + (wrap64 (32 * (wrap64 (a1)))))), .int .u8 a1, .int .u8 x196003_1, .int .u8 x196004_1, .int .u8 x196005_1, .int .u8 x196006_1] 58 (0, 0)) (by (with_reducible repeat (first | refine blk_drewN ?_ _ | refine blk_drew ?_ | refine blk_alloc ?_ _)); exact BK195.out) hb); have n3_ := Aside0.mk (below_step (by repeat (first | (with_reducible first | exact HB.out | apply below_alloc | apply pw_below_drewN | apply below_drew1 | refine below_set ?_ GE194.out | refine below_set ?_ GE195.out) | exact HB.out)) hb); clear HO_6; clear BK194; clear BK195; clear HB; have HO_6 := n0_; have BK194 := n1_; have BK195 := n2_; have HB := n3_; clear n0_ n1_ n2_ n3_; (try clear hb); (try clear hb2); (try clear hk); (try clear hi); have hnb19 := NB195_194.out; have hnc19 := NB194_195.out; have hcz20_0 : w18.cell? ⟨gb195, 0, none⟩ = some (.int .i64 a0) := (blk_cell BK195.out 0).trans rfl; have hcz20_1 : w18.cell? ⟨gb195, 1, none⟩ = some (.int .i64 (wrap64 ((wrap64 (Int.tdiv a0 2)) + (wrap64 (32 * (wrap64 (a1))))))) := (blk_cell BK195.out 1).trans rfl; have hcz20_2 : w18.cell? ⟨gb195, 2, none⟩ = some (.int .u8 a1) := (blk_cell BK195.out 2).trans rfl; have hcz20_3 : w18.cell? ⟨gb195, 3, none⟩ = some (.int .u8 x196003_1) := (blk_cell BK195.out 3).trans rfl; have hcz20_4 : w18.cell? ⟨gb195, 4, none⟩ = some (.int .u8 x196004_1) := (blk_cell BK195.out 4).trans rfl; have hcz20_5 : w18.cell? ⟨gb195, 5, none⟩ = some (.int .u8 x196005_1) := (blk_cell BK195.out 5).trans rfl; have hcz20_6 : w18.cell? ⟨gb195, 6, none⟩ = some (.int .u8 x196006_1) := (blk_cell BK195.out 6).trans rfl; have hfz20_0 := blk_frozen BK195.out 0; have hfz20_1 := blk_frozen BK195.out 1; have hfz20_2 := blk_frozen BK195.out 2; have hfz20_3 := blk_frozen BK195.out 3; have hfz20_4 := blk_frozen BK195.out 4; have hfz20_5 := blk_frozen BK195.out 5; have hfz20_6 := blk_frozen BK195.out 6))
            go_roundg k1
            case measure => have := HK1.out; omega
            case rel => exact ⟨(1 + 1), (x196003_1), (t199), (x196005_1), (x196006_1), (by first | rfl | (simp; done) | (simp [*]; done)), H', ⟨by have := HK1.out; omega⟩, ⟨by (with_reducible repeat (first | apply Kd.R_alloc | apply Kd.R_drewN | apply Kd.R_drew)); exact Kd.R_mono (Kd.R_far (p := ⟨gb195, 4, none⟩) (Kd.R_types HO_6.out BK195.out (by decide)) (fun _ hk => hk.2) (.int .u8 t199)) (fun _ hk => trivial)⟩, ⟨by (with_reducible repeat (first | refine blk_drewN ?_ _ | refine blk_drew ?_ | refine blk_alloc ?_ _)); refine blk_far ?_ NB194_195.out _; (with_reducible repeat (first | refine blk_drewN ?_ _ | refine blk_drew ?_ | refine blk_alloc ?_ _)); exact BK194.out⟩, ⟨by (with_reducible repeat (first | refine blk_drewN ?_ _ | refine blk_drew ?_ | refine blk_alloc ?_ _)); refine blk_put (cs := #[.int .i64 a0, .int .i64 (wrap64 ((wrap64 (Int.tdiv a0 2)) + (wrap64 (32 * (wrap64 (a1)))))), .int .u8 a1, .int .u8 x196003_1, .int .u8 x196004_1, .int .u8 x196005_1, .int .u8 x196006_1]) ?_ 4 _ rfl; (with_reducible repeat (first | refine blk_drewN ?_ _ | refine blk_drew ?_ | refine blk_alloc ?_ _)); exact BK195.out⟩, ⟨by repeat (first | (with_reducible first | exact HB.out | apply below_alloc | apply pw_below_drewN | apply below_drew1 | refine below_set ?_ GE194.out | refine below_set ?_ GE195.out) | exact HB.out)⟩⟩
          · rw [if_neg c16] at H
            clear c16
            by_cases c21 : x7_1 = 2
            · rw [if_pos c21] at H
              subst c21
              have H' := Aside0.mk H
              clear H
              obtain ⟨Ao22, co22, eo22⟩ := Kd.R_slice HO_6.out
              subst eo22
              go_wp2_with (first | ((with_reducible refine gate_callee (f := 37) rfl ?_); refine goesL_ (some 27) rfl rfl Tryd.func37 (by kernel_rfl) rfl #[.slice Ao22 t196.length co22, .int .i64 6, .int .i64 2] rfl (by (try simp only [List.map_toArray, List.map_cons, List.map_nil]); first | done | rfl | (simp only [List.length_drop, List.length_take]; rfl)) ?_; (with_reducible refine (shuttleref06_Bit.calls _ _ t196 6 2 t199 _ ?side1 ?side2 A10.out).mono ?_); (case side1 => repeat (first | exact (Kd.R_reads' HO_6.out).2.2 | (with_reducible refine Kd.C_alloc ?_ _) | (with_reducible refine Kd.C_drewN ?_ _) | (with_reducible refine Kd.C_drew ?_))); (case side2 => exact (Kd.R_reads' HO_6.out).2.1); rintro e w23 ⟨rfl, hb⟩; refine ⟨_, rfl, ?_⟩; have n0_ := Aside0.mk (Kd.R_below (by (with_reducible repeat (first | apply Kd.R_alloc | apply Kd.R_drewN | apply Kd.R_drew)); exact HO_6.out) hb); have n1_ := Aside0.mk (blk_below (g := gb194) (o := .cells #[.int .i64 0, .int .i64 0, .int .u8 0, .int .u8 0, .int .u8 0, .int .u8 0, .int .u8 0] 58 (0, 0)) (by (with_reducible repeat (first | refine blk_drewN ?_ _ | refine blk_drew ?_ | refine blk_alloc ?_ _)); exact BK194.out) hb); have n2_ := Aside0.mk (blk_below (g := gb195) (o := .cells #[.int .i64 a0, .int .i64 (wrap64 ((wrap64 (Int.tdiv a0 2)) + (wrap64 (32 * (wrap64 (a1)))))), .int .u8 a1, .int .u8 x196003_1, .int .u8 x196004_1, .int .u8 x196005_1, .int .u8 x196006_1] 58 (0, 0)) (by (with_reducible repeat (first | refine blk_drewN ?_ _ | refine blk_drew ?_ | refine blk_alloc ?_ _)); exact BK195.out) hb); have n3_ := Aside0.mk (below_step (by repeat (first | (with_reducible first | exact HB.out | apply below_alloc | apply pw_below_drewN | apply below_drew1 | refine below_set ?_ GE194.out | refine below_set ?_ GE195.out) | exact HB.out)) hb); clear HO_6; clear BK194; clear BK195; clear HB; have HO_6 := n0_; have BK194 := n1_; have BK195 := n2_; have HB := n3_; clear n0_ n1_ n2_ n3_; (try clear hb); (try clear hb2); (try clear hk); (try clear hi); have hnb24 := NB195_194.out; have hnc24 := NB194_195.out; have hcz25_0 : w23.cell? ⟨gb195, 0, none⟩ = some (.int .i64 a0) := (blk_cell BK195.out 0).trans rfl; have hcz25_1 : w23.cell? ⟨gb195, 1, none⟩ = some (.int .i64 (wrap64 ((wrap64 (Int.tdiv a0 2)) + (wrap64 (32 * (wrap64 (a1))))))) := (blk_cell BK195.out 1).trans rfl; have hcz25_2 : w23.cell? ⟨gb195, 2, none⟩ = some (.int .u8 a1) := (blk_cell BK195.out 2).trans rfl; have hcz25_3 : w23.cell? ⟨gb195, 3, none⟩ = some (.int .u8 x196003_1) := (blk_cell BK195.out 3).trans rfl; have hcz25_4 : w23.cell? ⟨gb195, 4, none⟩ = some (.int .u8 x196004_1) := (blk_cell BK195.out 4).trans rfl; have hcz25_5 : w23.cell? ⟨gb195, 5, none⟩ = some (.int .u8 x196005_1) := (blk_cell BK195.out 5).trans rfl; have hcz25_6 : w23.cell? ⟨gb195, 6, none⟩ = some (.int .u8 x196006_1) := (blk_cell BK195.out 6).trans rfl; have hfz25_0 := blk_frozen BK195.out 0; have hfz25_1 := blk_frozen BK195.out 1; have hfz25_2 := blk_frozen BK195.out 2; have hfz25_3 := blk_frozen BK195.out 3; have hfz25_4 := blk_frozen BK195.out 4; have hfz25_5 := blk_frozen BK195.out 5; have hfz25_6 := blk_frozen BK195.out 6))
              go_roundg k1
              case measure => have := HK1.out; omega
              case rel => exact ⟨(2 + 1), (x196003_1), (x196004_1), (t199), (x196006_1), (by first | rfl | (simp; done) | (simp [*]; done)), H', ⟨by have := HK1.out; omega⟩, ⟨by (with_reducible repeat (first | apply Kd.R_alloc | apply Kd.R_drewN | apply Kd.R_drew)); exact Kd.R_mono (Kd.R_far (p := ⟨gb195, 5, none⟩) (Kd.R_types HO_6.out BK195.out (by decide)) (fun _ hk => hk.2) (.int .u8 t199)) (fun _ hk => trivial)⟩, ⟨by (with_reducible repeat (first | refine blk_drewN ?_ _ | refine blk_drew ?_ | refine blk_alloc ?_ _)); refine blk_far ?_ NB194_195.out _; (with_reducible repeat (first | refine blk_drewN ?_ _ | refine blk_drew ?_ | refine blk_alloc ?_ _)); exact BK194.out⟩, ⟨by (with_reducible repeat (first | refine blk_drewN ?_ _ | refine blk_drew ?_ | refine blk_alloc ?_ _)); refine blk_put (cs := #[.int .i64 a0, .int .i64 (wrap64 ((wrap64 (Int.tdiv a0 2)) + (wrap64 (32 * (wrap64 (a1)))))), .int .u8 a1, .int .u8 x196003_1, .int .u8 x196004_1, .int .u8 x196005_1, .int .u8 x196006_1]) ?_ 5 _ rfl; (with_reducible repeat (first | refine blk_drewN ?_ _ | refine blk_drew ?_ | refine blk_alloc ?_ _)); exact BK195.out⟩, ⟨by repeat (first | (with_reducible first | exact HB.out | apply below_alloc | apply pw_below_drewN | apply below_drew1 | refine below_set ?_ GE194.out | refine below_set ?_ GE195.out) | exact HB.out)⟩⟩
            · rw [if_neg c21] at H
              clear c21
              by_cases c26 : x7_1 = 3
              · rw [if_pos c26] at H
                subst c26
                have H' := Aside0.mk H
                clear H
                obtain ⟨Ao27, co27, eo27⟩ := Kd.R_slice HO_6.out
                subst eo27
                go_wp2_with (first | ((with_reducible refine gate_callee (f := 37) rfl ?_); refine goesL_ (some 27) rfl rfl Tryd.func37 (by kernel_rfl) rfl #[.slice Ao27 t196.length co27, .int .i64 6, .int .i64 3] rfl (by (try simp only [List.map_toArray, List.map_cons, List.map_nil]); first | done | rfl | (simp only [List.length_drop, List.length_take]; rfl)) ?_; (with_reducible refine (shuttleref06_Bit.calls _ _ t196 6 3 t199 _ ?side1 ?side2 A10.out).mono ?_); (case side1 => repeat (first | exact (Kd.R_reads' HO_6.out).2.2 | (with_reducible refine Kd.C_alloc ?_ _) | (with_reducible refine Kd.C_drewN ?_ _) | (with_reducible refine Kd.C_drew ?_))); (case side2 => exact (Kd.R_reads' HO_6.out).2.1); rintro e w28 ⟨rfl, hb⟩; refine ⟨_, rfl, ?_⟩; have n0_ := Aside0.mk (Kd.R_below (by (with_reducible repeat (first | apply Kd.R_alloc | apply Kd.R_drewN | apply Kd.R_drew)); exact HO_6.out) hb); have n1_ := Aside0.mk (blk_below (g := gb194) (o := .cells #[.int .i64 0, .int .i64 0, .int .u8 0, .int .u8 0, .int .u8 0, .int .u8 0, .int .u8 0] 58 (0, 0)) (by (with_reducible repeat (first | refine blk_drewN ?_ _ | refine blk_drew ?_ | refine blk_alloc ?_ _)); exact BK194.out) hb); have n2_ := Aside0.mk (blk_below (g := gb195) (o := .cells #[.int .i64 a0, .int .i64 (wrap64 ((wrap64 (Int.tdiv a0 2)) + (wrap64 (32 * (wrap64 (a1)))))), .int .u8 a1, .int .u8 x196003_1, .int .u8 x196004_1, .int .u8 x196005_1, .int .u8 x196006_1] 58 (0, 0)) (by (with_reducible repeat (first | refine blk_drewN ?_ _ | refine blk_drew ?_ | refine blk_alloc ?_ _)); exact BK195.out) hb); have n3_ := Aside0.mk (below_step (by repeat (first | (with_reducible first | exact HB.out | apply below_alloc | apply pw_below_drewN | apply below_drew1 | refine below_set ?_ GE194.out | refine below_set ?_ GE195.out) | exact HB.out)) hb); clear HO_6; clear BK194; clear BK195; clear HB; have HO_6 := n0_; have BK194 := n1_; have BK195 := n2_; have HB := n3_; clear n0_ n1_ n2_ n3_; (try clear hb); (try clear hb2); (try clear hk); (try clear hi); have hnb29 := NB195_194.out; have hnc29 := NB194_195.out; have hcz30_0 : w28.cell? ⟨gb195, 0, none⟩ = some (.int .i64 a0) := (blk_cell BK195.out 0).trans rfl; have hcz30_1 : w28.cell? ⟨gb195, 1, none⟩ = some (.int .i64 (wrap64 ((wrap64 (Int.tdiv a0 2)) + (wrap64 (32 * (wrap64 (a1))))))) := (blk_cell BK195.out 1).trans rfl; have hcz30_2 : w28.cell? ⟨gb195, 2, none⟩ = some (.int .u8 a1) := (blk_cell BK195.out 2).trans rfl; have hcz30_3 : w28.cell? ⟨gb195, 3, none⟩ = some (.int .u8 x196003_1) := (blk_cell BK195.out 3).trans rfl; have hcz30_4 : w28.cell? ⟨gb195, 4, none⟩ = some (.int .u8 x196004_1) := (blk_cell BK195.out 4).trans rfl; have hcz30_5 : w28.cell? ⟨gb195, 5, none⟩ = some (.int .u8 x196005_1) := (blk_cell BK195.out 5).trans rfl; have hcz30_6 : w28.cell? ⟨gb195, 6, none⟩ = some (.int .u8 x196006_1) := (blk_cell BK195.out 6).trans rfl; have hfz30_0 := blk_frozen BK195.out 0; have hfz30_1 := blk_frozen BK195.out 1; have hfz30_2 := blk_frozen BK195.out 2; have hfz30_3 := blk_frozen BK195.out 3; have hfz30_4 := blk_frozen BK195.out 4; have hfz30_5 := blk_frozen BK195.out 5; have hfz30_6 := blk_frozen BK195.out 6))
                go_roundg k1
                case measure => have := HK1.out; omega
                case rel => exact ⟨(3 + 1), (x196003_1), (x196004_1), (x196005_1), (t199), (by first | rfl | (simp; done) | (simp [*]; done)), H', ⟨by have := HK1.out; omega⟩, ⟨by (with_reducible repeat (first | apply Kd.R_alloc | apply Kd.R_drewN | apply Kd.R_drew)); exact Kd.R_mono (Kd.R_far (p := ⟨gb195, 6, none⟩) (Kd.R_types HO_6.out BK195.out (by decide)) (fun _ hk => hk.2) (.int .u8 t199)) (fun _ hk => trivial)⟩, ⟨by (with_reducible repeat (first | refine blk_drewN ?_ _ | refine blk_drew ?_ | refine blk_alloc ?_ _)); refine blk_far ?_ NB194_195.out _; (with_reducible repeat (first | refine blk_drewN ?_ _ | refine blk_drew ?_ | refine blk_alloc ?_ _)); exact BK194.out⟩, ⟨by (with_reducible repeat (first | refine blk_drewN ?_ _ | refine blk_drew ?_ | refine blk_alloc ?_ _)); refine blk_put (cs := #[.int .i64 a0, .int .i64 (wrap64 ((wrap64 (Int.tdiv a0 2)) + (wrap64 (32 * (wrap64 (a1)))))), .int .u8 a1, .int .u8 x196003_1, .int .u8 x196004_1, .int .u8 x196005_1, .int .u8 x196006_1]) ?_ 6 _ rfl; (with_reducible repeat (first | refine blk_drewN ?_ _ | refine blk_drew ?_ | refine blk_alloc ?_ _)); exact BK195.out⟩, ⟨by repeat (first | (with_reducible first | exact HB.out | apply below_alloc | apply pw_below_drewN | apply below_drew1 | refine below_set ?_ GE194.out | refine below_set ?_ GE195.out) | exact HB.out)⟩⟩
              · rw [if_neg c26] at H
                clear c26
                exact absurd H (by simp)
      · rw [if_neg c9] at H
        have c9b0 : decide (x7_1 < 4) = false := decide_eq_false c9
        clear c9
        simp only [Option.some.injEq, Prod.mk.injEq] at H
        obtain ⟨rfl, rfl, rfl, rfl, rfl, rfl, rfl⟩ := H
        have hnb31 := NB195_194.out
        have hnc31 := NB194_195.out
        have hcz32_0 : wr.cell? ⟨gb195, 0, none⟩ = some (.int .i64 a0) := (blk_cell BK195.out 0).trans rfl
        have hcz32_1 : wr.cell? ⟨gb195, 1, none⟩ = some (.int .i64 (wrap64 ((wrap64 (Int.tdiv a0 2)) + (wrap64 (32 * (wrap64 (a1))))))) := (blk_cell BK195.out 1).trans rfl
        have hcz32_2 : wr.cell? ⟨gb195, 2, none⟩ = some (.int .u8 a1) := (blk_cell BK195.out 2).trans rfl
        have hcz32_3 : wr.cell? ⟨gb195, 3, none⟩ = some (.int .u8 x196003_1) := (blk_cell BK195.out 3).trans rfl
        have hcz32_4 : wr.cell? ⟨gb195, 4, none⟩ = some (.int .u8 x196004_1) := (blk_cell BK195.out 4).trans rfl
        have hcz32_5 : wr.cell? ⟨gb195, 5, none⟩ = some (.int .u8 x196005_1) := (blk_cell BK195.out 5).trans rfl
        have hcz32_6 : wr.cell? ⟨gb195, 6, none⟩ = some (.int .u8 x196006_1) := (blk_cell BK195.out 6).trans rfl
        have hfz32_0 := blk_frozen BK195.out 0
        have hfz32_1 := blk_frozen BK195.out 1
        have hfz32_2 := blk_frozen BK195.out 2
        have hfz32_3 := blk_frozen BK195.out 3
        have hfz32_4 := blk_frozen BK195.out 4
        have hfz32_5 := blk_frozen BK195.out 5
        have hfz32_6 := blk_frozen BK195.out 6
        have hcz33_0 : wr.cell? ⟨gb194, 0, none⟩ = some (.int .i64 0) := (blk_cell BK194.out 0).trans rfl
        have hcz33_1 : wr.cell? ⟨gb194, 1, none⟩ = some (.int .i64 0) := (blk_cell BK194.out 1).trans rfl
        have hcz33_2 : wr.cell? ⟨gb194, 2, none⟩ = some (.int .u8 0) := (blk_cell BK194.out 2).trans rfl
        have hcz33_3 : wr.cell? ⟨gb194, 3, none⟩ = some (.int .u8 0) := (blk_cell BK194.out 3).trans rfl
        have hcz33_4 : wr.cell? ⟨gb194, 4, none⟩ = some (.int .u8 0) := (blk_cell BK194.out 4).trans rfl
        have hcz33_5 : wr.cell? ⟨gb194, 5, none⟩ = some (.int .u8 0) := (blk_cell BK194.out 5).trans rfl
        have hcz33_6 : wr.cell? ⟨gb194, 6, none⟩ = some (.int .u8 0) := (blk_cell BK194.out 6).trans rfl
        have hfz33_0 := blk_frozen BK194.out 0
        have hfz33_1 := blk_frozen BK194.out 1
        have hfz33_2 := blk_frozen BK194.out 2
        have hfz33_3 := blk_frozen BK194.out 3
        have hfz33_4 := blk_frozen BK194.out 4
        have hfz33_5 := blk_frozen BK194.out 5
        have hfz33_6 := blk_frozen BK194.out 6
        go_wp2
        refine bodyPost_ret (results_cell_row rfl _ _ gb194 58 #[.int .i64 a0, .int .i64 (wrap64 ((wrap64 (Int.tdiv a0 2)) + (wrap64 (32 * (wrap64 (a1)))))), .int .u8 a1, .int .u8 x196003_1, .int .u8 x196004_1, .int .u8 x196005_1, .int .u8 x196006_1] (0, 0) _ rfl (by (with_reducible repeat (first | refine blk_drewN ?_ _ | refine blk_drew ?_ | refine blk_alloc ?_ _)); refine blk_put (cs := #[.int .i64 a0, .int .i64 (wrap64 ((wrap64 (Int.tdiv a0 2)) + (wrap64 (32 * (wrap64 (a1)))))), .int .u8 a1, .int .u8 x196003_1, .int .u8 x196004_1, .int .u8 x196005_1, .int .u8 0]) ?_ 6 _ rfl; (with_reducible repeat (first | refine blk_drewN ?_ _ | refine blk_drew ?_ | refine blk_alloc ?_ _)); refine blk_put (cs := #[.int .i64 a0, .int .i64 (wrap64 ((wrap64 (Int.tdiv a0 2)) + (wrap64 (32 * (wrap64 (a1)))))), .int .u8 a1, .int .u8 x196003_1, .int .u8 x196004_1, .int .u8 0, .int .u8 0]) ?_ 5 _ rfl; (with_reducible repeat (first | refine blk_drewN ?_ _ | refine blk_drew ?_ | refine blk_alloc ?_ _)); refine blk_put (cs := #[.int .i64 a0, .int .i64 (wrap64 ((wrap64 (Int.tdiv a0 2)) + (wrap64 (32 * (wrap64 (a1)))))), .int .u8 a1, .int .u8 x196003_1, .int .u8 0, .int .u8 0, .int .u8 0]) ?_ 4 _ rfl; (with_reducible repeat (first | refine blk_drewN ?_ _ | refine blk_drew ?_ | refine blk_alloc ?_ _)); refine blk_put (cs := #[.int .i64 a0, .int .i64 (wrap64 ((wrap64 (Int.tdiv a0 2)) + (wrap64 (32 * (wrap64 (a1)))))), .int .u8 a1, .int .u8 0, .int .u8 0, .int .u8 0, .int .u8 0]) ?_ 3 _ rfl; (with_reducible repeat (first | refine blk_drewN ?_ _ | refine blk_drew ?_ | refine blk_alloc ?_ _)); refine blk_put (cs := #[.int .i64 a0, .int .i64 (wrap64 ((wrap64 (Int.tdiv a0 2)) + (wrap64 (32 * (wrap64 (a1)))))), .int .u8 0, .int .u8 0, .int .u8 0, .int .u8 0, .int .u8 0]) ?_ 2 _ rfl; (with_reducible repeat (first | refine blk_drewN ?_ _ | refine blk_drew ?_ | refine blk_alloc ?_ _)); refine blk_put (cs := #[.int .i64 a0, .int .i64 0, .int .u8 0, .int .u8 0, .int .u8 0, .int .u8 0, .int .u8 0]) ?_ 1 _ rfl; (with_reducible repeat (first | refine blk_drewN ?_ _ | refine blk_drew ?_ | refine blk_alloc ?_ _)); refine blk_put (cs := #[.int .i64 0, .int .i64 0, .int .u8 0, .int .u8 0, .int .u8 0, .int .u8 0, .int .u8 0]) ?_ 0 _ rfl; (with_reducible repeat (first | refine blk_drewN ?_ _ | refine blk_drew ?_ | refine blk_alloc ?_ _)); exact BK194.out) Tryd.underlying58 rfl (by kernel_rfl)) rfl ?_
        exact ⟨by first | rfl | (simp [errW_none, errW_some] <;> rfl) | (simp [*, errW_none, errW_some] <;> rfl), by repeat (first | (with_reducible first | exact HB.out | apply below_alloc | apply pw_below_drewN | apply below_drew1 | refine below_set ?_ GE194.out | refine below_set ?_ GE195.out) | exact HB.out)⟩

end Go.Proofs.YtijpnlmejphfhaaDoor.P
