/- Texts of this seat, one behind the other (merge.py): the walks of the functions that the law ShuttlePools uses, and plain words on what they come to. No condition. -/
import Derived.Deep.Slices
import Derived.WalkKit
import Derived.ProofKit
import Derived.OpenShut
import Derived.ChangeOld
import Derived.Test.YtknanbnjbilciaaGreatDoorXMShuttlePools3
namespace Go.Proofs.YtknanbnjbilciaaGreatDoor.P
open Go Go.Proofs Go.RowKit Go.Proofs.YtknanbnjbilciaaGreatDoorW.PrintWords Go.Proofs.YtknanbnjbilciaaGreatDoorW.PrintLast Go.Proofs.YtknanbnjbilciaaGreatDoorW.PrintMore
set_option linter.unusedVariables false
set_option linter.unusedSimpArgs false
-- YtknanbnjbilciaaGreatDoorPKVersions
set_option maxRecDepth 100000 in
set_option maxHeartbeats 8000000 in
theorem kversions_calls {w : World} (hT : TP w) {A : Option Addr} {c : Nat} {M : List Int} (hM : Kd.C (Kd.int .u8) w A M.length M) (hc : M.length ≤ c) (hb : byt M) (hl : M.length ≤ 64) :
    Calls Tryz.prog 7 #[.slice A M.length c] w fun e w' => ∃ vs : Nat → Value, e = .returned (.tuple #[.agg (q4 vs), .int .i64 0]) ∧ (∀ u, u < 4 → Kd.R (Kd.int .u8) 5 w' w.heap.size (fun _ => True) (vs u) (vp (code (bitsM M)) u (nb M.length))) ∧ Below w.heap.size w w' := by
  have HT := Aside0.mk hT
  have HCL := Aside0.mk (fun w' (hb' : Below w.heap.size w w') => crc32_Close.calls 4000 A c M (closeB M) w' (Kd.C_below hM hb') hc (close_f hb (by omega) 4000 (by omega)))
  have hcl := closeB_len M
  have HOF := Aside0.mk (show bits_Of.f 4000 (closeB M) = some (bitsM M) from bof_f _ (closeB_byt hb) (by omega) 4000 (by omega))
  have HLM := Aside0.mk (And.intro (bitsM_len M) (And.intro (bitsM_isb M) hl))
  obtain ⟨n, hn⟩ : ∃ n, n = M.length := ⟨_, rfl⟩
  have hnb : (n : Int) ≤ 64 := by omega
  have HN := Aside0.mk hn
  rw [← hn] at HCL ⊢
  clear hT hM hc hb hl hcl hn
  go_enter Tryz.func7, Tryz.ntmps7
  go_wp2_with (first
    | (go_at_call 16; refine Aside0.out ?_)
    | fail)
  refine Aside0.mk ?_
  have hba := below_alloc (Below.refl w.heap.size w) (.cells (q4 fun _ => .slice none 0 0) 33)
  have hbb := blk_new w (.cells (q4 fun _ => .slice none 0 0) 33)
  obtain ⟨w1, hw1⟩ : ∃ w1, w1 = w.alloc (.cells (q4 fun _ => .slice none 0 0) 33) := ⟨_, rfl⟩
  obtain ⟨a2, ha2⟩ : ∃ a2, a2 = w.heap.size := ⟨_, rfl⟩
  have HA0 := Aside0.mk (show w.heap.size ≤ a2 by rw [ha2]; exact Nat.le_refl _)
  rw [← hw1] at hba hbb
  rw [← ha2] at hbb
  have hsz : w1.heap.size = a2 + 1 := by rw [hw1, ha2, World.size_alloc]
  have hbc := below_alloc (Below.refl w1.heap.size w1) (.cells (q4 fun _ => .slice none 0 0) 33)
  have hbd := blk_new w1 (.cells (q4 fun _ => .slice none 0 0) 33)
  obtain ⟨w2, hw2⟩ : ∃ w2, w2 = w1.alloc (.cells (q4 fun _ => .slice none 0 0) 33) := ⟨_, rfl⟩
  obtain ⟨b4, hb4⟩ : ∃ b4, b4 = w1.heap.size := ⟨_, rfl⟩
  rw [← hw2] at hbc hbd
  rw [← hb4] at hbd
  have HBB := Aside0.mk (show a2 < b4 ∧ w.heap.size ≤ b4 from ⟨by rw [hb4]; exact blk_lt hbb, by rw [hb4]; exact hba.size⟩)
  show Calls _ _ _ ((w.alloc (.cells (q4 fun _ => .slice none 0 0) 33)).alloc (.cells (q4 fun _ => .slice none 0 0) 33)) _
  rw [← hw1, ← hw2]
  have e4 : w.heap.size + 1 = b4 := by rw [hb4, hsz, ha2]
  rw [e4, ← ha2]
  have hb2 := below_step hba hbc
  have HCL2 := HCL.out w2 hb2
  have HA2 := Aside0.mk ((hbc.block a2 (blk_lt hbb)).trans hbb)
  have HX2 := Aside0.mk hbd
  have HB2 := Aside0.mk hb2
  clear hba hbb hbc hbd hw1 hw2 hb2 hsz ha2 hb4 e4 HCL
  refine HCL2.mono ?_
  rintro e w3 ⟨u3, rfl, hu, hb⟩
  obtain ⟨A3, c3, rfl⟩ := Kd.R_slice hu
  have HO3 := Aside0.mk (bits_Of.calls 4000 A3 c3 (closeB M) _ w3 (Kd.R_reads' hu).2.2 (Kd.R_reads' hu).2.1 HOF.out)
  obtain ⟨K, hK⟩ : ∃ K, K = (closeB M).length := ⟨_, rfl⟩
  rw [← hK] at HO3 ⊢
  have HA3 := Aside0.mk ((hb.block a2 (blk_lt HA2.out)).trans HA2.out)
  have HX3 := Aside0.mk ((hb.block b4 (blk_lt HX2.out)).trans HX2.out)
  have HB3 := Aside0.mk (below_step HB2.out hb)
  clear hu hb hK HCL2 HA2 HX2 HB2 HOF
  go_wp2_with (first
    | (go_at_call 15; refine Aside0.out ?_)
    | fail)
  refine Aside0.mk ?_
  refine HO3.out.mono ?_
  rintro e w4 ⟨u5, rfl, hu, hb⟩
  obtain ⟨A5, c5, rfl⟩ := Kd.R_slice hu
  obtain ⟨L, hL⟩ : ∃ L, L = bitsM M := ⟨_, rfl⟩
  rw [← hL] at hu HLM ⊢
  obtain ⟨N, hN⟩ : ∃ N, N = L.length := ⟨_, rfl⟩
  rw [← hN]
  have HLD := Aside0.mk hL
  have HNN := Aside0.mk (show N = L.length ∧ N ≤ 900 ∧ N + 6 = nb M.length from ⟨hN, by have := HLM.out; omega, by have := HLM.out; unfold nb; omega⟩)
  have HL4 := Aside0.mk (Kd.R_lower hu HB3.out.size)
  have HA4 := Aside0.mk ((hb.block a2 (blk_lt HA3.out)).trans HA3.out)
  have HX4 := Aside0.mk ((hb.block b4 (blk_lt HX3.out)).trans HX3.out)
  have HB4 := Aside0.mk (below_step HB3.out hb)
  rw [← hN] at HL4
  clear hu hb hL hN HO3 HA3 HX3 HB3
  go_wp2_with fail
  go_loopw [16] (fun v16 wr => ∃ (i : Nat) (vs : Nat → Value), v16 = .int .i64 (i : Int) ∧ i ≤ 4 ∧ Aside0 (wr.heap[b4]? = some (.cells (q4 vs) 33 (0, 0))) ∧ Aside0 (∀ u, u < i → Kd.R (Kd.int .u8) 5 wr w.heap.size (fun _ => True) (vs u) (vp (code L) u (N + 6))) ∧ Aside0 (∀ u, u < 4 → (vs u).oneCell' = true) ∧ Aside0 (Kd.R (Kd.int .u8) 5 wr w.heap.size (fun _ => True) (.slice A5 N c5) L) ∧ Aside0 (wr.heap[a2]? = some (.cells (q4 fun _ => .slice none 0 0) 33 (0, 0))) ∧ Aside0 (Below w.heap.size w wr)) (fun v16 _ => 4 - (intOf v16).toNat)
  case atStart => exact ⟨0, _, by simp, by omega, HX4, ⟨fun u hu => absurd hu (Nat.not_lt_zero u)⟩, ⟨fun _ _ => rfl⟩, HL4, HA4, HB4⟩
  case round =>
    clear HX4 HL4 HA4 HB4
    obtain ⟨i, vs, rfl, hi, HX, HR, HO, HLR, HA, HB⟩ := hrel
    by_cases hlt : i < 4
    · have g1 : (i : Int) < 4 := by omega
      have hi0 : (0 : Int) ≤ (i : Int) := by omega
      have HI := Aside0.mk hlt
      have hcc := kcode_calls (TP_of HT.out HB.out) (A := A5) (c := c5) (l := L) (Kd.R_reads' HLR.out).2.2 (by have h := (Kd.R_reads' HLR.out).2.1; first | exact h | (rw [HNN.out.1] at h; exact h)) HLM.out.2.1 (by have := HNN.out; omega) i hlt
      rw [← HNN.out.1] at hcc
      have HCC := Aside0.mk hcc
      clear hlt hi hcc
      go_wp2_with (first
        | (go_at_call 17; refine Aside0.out ?_)
        | fail)
      refine Aside0.mk ?_
      refine HCC.out.mono ?_
      rintro e w5 ⟨u7, rfl, hu, hb⟩
      obtain ⟨A7, n7, c7, rfl⟩ : ∃ A n c, u7 = .slice A n c := (by obtain ⟨A, c, h⟩ := Kd.R_slice hu; exact ⟨A, _, c, h⟩)
      have HX5 := Aside0.mk ((hb.block b4 (blk_lt HX.out)).trans HX.out)
      have HU5 := Aside0.mk (Kd.R_lower hu HB.out.size)
      have HR5 := Aside0.mk (fun u (h : u < i) => Kd.R_below (HR.out u h) hb)
      have HLR5 := Aside0.mk (Kd.R_below HLR.out hb)
      have HA5 := Aside0.mk ((hb.block a2 (blk_lt HA.out)).trans HA.out)
      have HB5 := Aside0.mk (below_step HB.out hb)
      have hcw : w5.cell? ⟨b4, i, none⟩ = some (vs i) := (blk_cell HX5.out i).trans (q4_get vs HI.out)
      have hfw := blk_frozen HX5.out i
      clear hu hb HCC HX HR HLR HA HB
      go_wp2_with fail
      have hpt := Put1.set b4 i w5 (.slice A7 n7 c7)
      have hkeep : ∀ {v : Value} {xs : List Int}, Kd.R (Kd.int .u8) 5 w5 w.heap.size (fun _ => True) v xs → Kd.R (Kd.int .u8) 5 (w5.setCell ⟨b4, i, none⟩ (.slice A7 n7 c7)) w.heap.size (fun _ => True) v xs := fun {v xs} h =>
        Kd.R_mono (Kd.R_step (R_okk h (ok' := fun k => k ≠ b4) (fun k hk e => by subst e; exact (Kd.R_ne h HX5.out (by decide)) hk.symm)) (fun k ok _ => hpt.block k ok)) (fun _ _ => trivial)
      exact ⟨⟨i + 1, up vs i (.slice A7 n7 c7), by simp, by have := HI.out; omega, ⟨blk_put HX5.out i _ (q4_set vs HI.out _)⟩, ⟨fun u hu => by
        unfold up
        by_cases c : u = i
        · rw [if_pos c, c]; exact hkeep HU5.out
        · rw [if_neg c]; exact hkeep (HR5.out u (by omega))⟩, ⟨fun u hu => by
        unfold up
        by_cases c : u = i
        · rw [if_pos c]; rfl
        · rw [if_neg c]; exact HO.out u hu⟩, ⟨hkeep HLR5.out⟩, ⟨(hpt.block a2 (by have := HBB.out; omega)).trans HA5.out⟩, ⟨HB5.out.trans (hpt.below HBB.out.2)⟩⟩, by
        have hz : ∀ z : Int, intOf (Value.int IntKind.i64 z) = z := fun z => rfl
        have := HI.out
        rw [hz, hz]; omega⟩
    · obtain rfl : i = 4 := by omega
      clear hlt hi
      have hu := Tryz.underlying33
      have hone := q4_one HO.out
      go_wp2_with (first
        | (refine wpList_load_row rfl 33 (.tmp 4) rfl b4 rfl 33 (q4 vs) (0, 0) _ HX.out hu rfl q4_size ?_)
        | (refine wpList_store_row rfl 33 (.tmp 2) (.tmp 33) rfl a2 (q4 vs) rfl rfl 33 _ HA.out q4_size rfl hone ?_)
        | fail)
      refine bodyPost_ret (results_ct rfl _ _ a2 33 (q4 vs) (0, 0) _ rfl (setRow_heap _ _ _ _ _ _ HA.out) hu rfl q4_size) rfl ?_
      have hpr := Put1.row a2 wr (q4 vs)
      refine ⟨vs, rfl, fun u hu => ?_, below_setRow HB.out HA0.out _⟩
      have hru := HR.out u hu
      rw [HN.out, ← HNN.out.2.2, ← HLD.out]
      refine Kd.R_mono (Kd.R_step (R_okk hru (ok' := fun k => k ≠ a2) (fun k hk e => ?_)) (fun k ok _ => hpr.block k ok)) (fun _ _ => trivial)
      subst e
      exact (Kd.R_ne hru HA.out (by decide)) hk.symm
end Go.Proofs.YtknanbnjbilciaaGreatDoor.P
namespace Go.Proofs.YtknanbnjbilciaaGreatDoor.P
open Go.RowKit Go.Proofs.YtknanbnjbilciaaGreatDoorW.PrintWords Go.Proofs.YtknanbnjbilciaaGreatDoorW.PrintLast Go.Proofs.YtknanbnjbilciaaGreatDoorW.PrintMore
-- YtknanbnjbilciaaGreatDoorP43
section
attribute [local go_sem] max2_int min2_int max_two min_two max_three min_three max_four min_four
set_option linter.unusedVariables false
set_option linter.unusedSimpArgs false

/-! ### frame_Head: function 44 -/
def frame_Head.f (a0 : Int) : Option (Int) := if a0 = 1 then (some 6) else (if a0 = 2 then (some 9) else (some 0))
set_option maxHeartbeats 8000000 in
set_option maxRecDepth 100000 in
theorem frame_Head.calls (a0 : Int) (r : Int) (w : World) (h : frame_Head.f a0 = some r) :
    Calls Tryz.prog 44 #[.int .i64 a0] w fun e w' => e = .returned (.int .i64 r) ∧ Drawn0 w w' := by
  have H : (if a0 = 1 then (some 6) else (if a0 = 2 then (some 9) else (some 0))) = some r := h
  clear h
  by_cases c2 : a0 = 1
  · rw [if_pos c2] at H
    have c2b0 : (a0 == 1) = true := beq_iff_eq.mpr c2
    have c2b1 : (a0 != 1) = false := bne_eq_false_iff_eq.mpr c2
    clear c2
    obtain rfl := Option.some.inj H
    go_enter Tryz.func44, Tryz.ntmps44
    go_wp2
    go_ret
    exact ⟨by first | rfl | (simp; done) | (simp [*]; done), by repeat (first | exact Drawn0.refl _ | apply Drawn0.step)⟩
  · rw [if_neg c2] at H
    have c2b0 : (a0 == 1) = false := beq_eq_false_iff_ne.mpr c2
    have c2b1 : (a0 != 1) = true := bne_iff_ne.mpr c2
    by_cases c3 : a0 = 2
    · rw [if_pos c3] at H
      have c3b0 : (a0 == 2) = true := beq_iff_eq.mpr c3
      have c3b1 : (a0 != 2) = false := bne_eq_false_iff_eq.mpr c3
      clear c3
      obtain rfl := Option.some.inj H
      go_enter Tryz.func44, Tryz.ntmps44
      go_wp2
      go_ret
      exact ⟨by first | rfl | (simp; done) | (simp [*]; done), by repeat (first | exact Drawn0.refl _ | apply Drawn0.step)⟩
    · rw [if_neg c3] at H
      have c3b0 : (a0 == 2) = false := beq_eq_false_iff_ne.mpr c3
      have c3b1 : (a0 != 2) = true := bne_iff_ne.mpr c3
      obtain rfl := Option.some.inj H
      go_enter Tryz.func44, Tryz.ntmps44
      go_wp2
      go_ret
      exact ⟨by first | rfl | (simp; done) | (simp [*]; done), by repeat (first | exact Drawn0.refl _ | apply Drawn0.step)⟩
end
-- YtknanbnjbilciaaGreatDoorP48
section
attribute [local go_sem] max2_int min2_int max_two min_two max_three min_three max_four min_four
set_option linter.unusedVariables false
set_option linter.unusedSimpArgs false

/-! ### bits_Weight: function 64 -/
def bits_Weight.l0 : Nat → Int → List Int → Int → Int → Option (Int)
  | 0, _, _, _, _ => none
  | k + 1, x3, x6, x7, x8 => if x8 < x7 then (if 0 ≤ x8 then (if x8 < (x6.length : Int) then (if (rd x6 x8) = 0 then (bits_Weight.l0 k x3 x6 x7 (wrap64 (x8 + 1))) else (bits_Weight.l0 k (wrap64 (x3 + 1)) x6 x7 (wrap64 (x8 + 1)))) else (none)) else (none)) else (some x3)
def bits_Weight.f (k : Nat) (l0 : List Int) : Option (Int) := bits_Weight.l0 k 0 l0 (l0.length : Int) 0
theorem bits_Weight.mono_l : ∀ k, (∀ y0 y1 y2 y3, LeO (bits_Weight.l0 k y0 y1 y2 y3) (bits_Weight.l0 (k + 1) y0 y1 y2 y3))
  | 0 => fun _ _ _ _ r h => by simp [bits_Weight.l0] at h
  | k + 1 => by
    have ih0 := bits_Weight.mono_l k
    · intro y0 y1 y2 y3
      unfold bits_Weight.l0
      repeat' first
      | (with_reducible exact ih0 _ _ _ _)
      | (with_reducible exact LeO.refl _)
      | (with_reducible exact LeO.none _)
      | (with_reducible refine LeO.ite ?_ ?_)
      | (with_reducible refine LeO.bind ?_ (fun _ => ?_))
      | exact ih0 _ _ _ _
      | exact LeO.none _
      | refine LeO.ite ?_ ?_
      | refine LeO.bind ?_ (fun _ => ?_)
theorem bits_Weight.mono : ∀ a0 k, LeO (bits_Weight.f k a0) (bits_Weight.f (k + 1) a0) := by
  intro a0 k
  have ih0 := bits_Weight.mono_l k
  unfold bits_Weight.f
  repeat' first
      | (with_reducible exact ih0 _ _ _ _)
      | (with_reducible exact LeO.refl _)
      | (with_reducible exact LeO.none _)
      | (with_reducible refine LeO.ite ?_ ?_)
      | (with_reducible refine LeO.bind ?_ (fun _ => ?_))
      | exact ih0 _ _ _ _
      | exact LeO.none _
      | refine LeO.ite ?_ ?_
      | refine LeO.bind ?_ (fun _ => ?_)
set_option maxHeartbeats 8000000 in
set_option maxRecDepth 100000 in
theorem bits_Weight.calls (k : Nat) (A0 : Option Addr) (c0 : Nat) (l0 : List Int) (r : Int) (w : World) (hr0 : Kd.C (Kd.int .u8) w A0 l0.length l0) (hc0 : l0.length ≤ c0) (h : bits_Weight.f k l0 = some r) :
    Calls Tryz.prog 64 #[.slice A0 l0.length c0] w fun e w' => e = .returned (.int .i64 r) ∧ Drawn0 w w' := by
  have HR0 := Aside0.mk hr0
  have HC0 := Aside0.mk hc0
  clear hr0 hc0
  have H : (bits_Weight.l0 k 0 l0 (l0.length : Int) 0) = some r := h
  clear h
  have H' := Aside0.mk H
  clear H
  go_enter Tryz.func64, Tryz.ntmps64
  go_wp2
  go_loopg [3, 8] k (fun kq v3 v8 w' => ∃ (x3_1 : Int) (x8_1 : Int), v3 = .int .i64 x3_1 ∧ v8 = .int .i64 x8_1 ∧ Aside0 (bits_Weight.l0 kq x3_1 l0 (l0.length : Int) x8_1 = some r) ∧ Aside0 (kq ≤ k) ∧ Drawn0 w w')
  case atStart => exact ⟨(0), (0), (by first | rfl | (simp; done) | (simp [*]; done)), (by first | rfl | (simp; done) | (simp [*]; done)), H', ⟨Nat.le_refl _⟩, by repeat (first | exact Drawn0.refl _ | apply Drawn0.step)⟩
  case round =>
    clear H'
    obtain ⟨x3_1, x8_1, rfl, rfl, HA, HK1, ⟨m1, rfl⟩⟩ := hrel
    cases gk with
    | zero => exact absurd HA.out (by simp [bits_Weight.l0])
    | succ k1 =>
      have H := HA.out
      clear HA
      simp only [bits_Weight.l0] at H
      by_cases c2 : x8_1 < (l0.length : Int)
      · rw [if_pos c2] at H
        have c2b0 : decide (x8_1 < (l0.length : Int)) = true := decide_eq_true c2
        clear c2
        by_cases c3 : 0 ≤ x8_1
        · rw [if_pos c3] at H
          have c3b0 : decide (0 ≤ x8_1) = true := decide_eq_true c3
          clear c3
          by_cases c4 : x8_1 < (l0.length : Int)
          · rw [if_pos c4] at H
            have c4b0 : decide (x8_1 < (l0.length : Int)) = true := decide_eq_true c4
            clear c4
            by_cases c5 : (rd l0 x8_1) = 0
            · rw [if_pos c5] at H
              have c5b0 : ((rd l0 x8_1) == 0) = true := beq_iff_eq.mpr c5
              have c5b1 : ((rd l0 x8_1) != 0) = false := bne_eq_false_iff_eq.mpr c5
              clear c5
              have H' := Aside0.mk H
              clear H
              have p243 : 0 ≤ (x8_1 : Int) := of_decide_eq_true (by first | (with_reducible assumption) | assumption)
              have q243 : x8_1 < (l0.length : Int) := of_decide_eq_true (by first | (with_reducible assumption) | assumption)
              obtain ⟨ad243, e243, hx243_0⟩ := Kd.at_int HR0.out x8_1 p243 q243
              cases e243
              replace p243 := eq_true p243
              replace q243 := eq_true q243
              go_wp2
              go_roundg k1
              case measure => have := HK1.out; omega
              case rel => exact ⟨(x3_1), (wrap64 (x8_1 + 1)), (by first | rfl | (simp; done) | (simp [*]; done)), (by first | rfl | (simp; done) | (simp [*]; done)), H', ⟨by have := HK1.out; omega⟩, by repeat (first | exact Drawn0.refl _ | apply Drawn0.step)⟩
            · rw [if_neg c5] at H
              have c5b0 : ((rd l0 x8_1) == 0) = false := beq_eq_false_iff_ne.mpr c5
              have c5b1 : ((rd l0 x8_1) != 0) = true := bne_iff_ne.mpr c5
              have H' := Aside0.mk H
              clear H
              have p243 : 0 ≤ (x8_1 : Int) := of_decide_eq_true (by first | (with_reducible assumption) | assumption)
              have q243 : x8_1 < (l0.length : Int) := of_decide_eq_true (by first | (with_reducible assumption) | assumption)
              obtain ⟨ad243, e243, hx243_0⟩ := Kd.at_int HR0.out x8_1 p243 q243
              cases e243
              replace p243 := eq_true p243
              replace q243 := eq_true q243
              go_wp2
              go_roundg k1
              case measure => have := HK1.out; omega
              case rel => exact ⟨(wrap64 (x3_1 + 1)), (wrap64 (x8_1 + 1)), (by first | rfl | (simp; done) | (simp [*]; done)), (by first | rfl | (simp; done) | (simp [*]; done)), H', ⟨by have := HK1.out; omega⟩, by repeat (first | exact Drawn0.refl _ | apply Drawn0.step)⟩
          · rw [if_neg c4] at H
            exact absurd H (by simp)
        · rw [if_neg c3] at H
          exact absurd H (by simp)
      · rw [if_neg c2] at H
        have c2b0 : decide (x8_1 < (l0.length : Int)) = false := decide_eq_false c2
        clear c2
        obtain rfl := Option.some.inj H
        go_wp2
        go_ret
        exact ⟨by first | rfl | (simp; done) | (simp [*]; done), by repeat (first | exact Drawn0.refl _ | apply Drawn0.step)⟩
end
end Go.Proofs.YtknanbnjbilciaaGreatDoor.P
namespace Go.Proofs.YtknanbnjbilciaaGreatDoor.P
open Go Go.Proofs Go.RowKit Go.Proofs.YtknanbnjbilciaaGreatDoorW.PrintWords Go.Proofs.YtknanbnjbilciaaGreatDoorW.PrintLast Go.Proofs.YtknanbnjbilciaaGreatDoorW.PrintMore
set_option linter.unusedVariables false
set_option linter.unusedSimpArgs false
-- YtknanbnjbilciaaGreatDoorPKRead
theorem Fg.below_far {gr g : Nat} {w w' : World} {o : Obj} (h : Fg gr w w') (hg : w.heap[g]? = some o) (hne : g ≠ gr) : w'.heap[g]? = some o := (h.at g (blk_lt hg) hne).trans hg
/-- But for block gr and what is new nothing has turned: behind n₀. -/
theorem Fg.lower {gr : Nat} {w w1 w2 : World} (h : Below w.heap.size w w1) (k : Fg gr w1 w2) : Fg gr w w2 := Fg.trans (Fg.of_below h) k
theorem Fg.put {gr a : Nat} {w w1 w2 : World} (h : Fg gr w w1) (p : Put1 a w1 w2) (ha : w.heap.size ≤ a) : Fg gr w w2 :=
  ⟨p.os.trans h.os, p.tape.trans h.tape, p.output.trans h.output, Nat.le_trans h.size (Nat.le_of_eq p.size.symm), fun k hk hg hv => (p.block k (by omega)).trans (h.block k hk hg hv)⟩
theorem PP.put {w w' : World} {lo gr g a : Nat} {v : Value} {xs : List Int} (h : PP w lo gr g v xs) (p : Put1 a w w') (ha : g < a) : PP w' lo gr g v xs :=
  ⟨(p.block g (by omega)).trans h.box, h.rd.kept (fun k _ hk => p.block k (by have := h.lt; omega)) h.low, h.low, h.lt⟩
/-- Nothing older than n₀ has turned. -/
theorem Fg.to_below {gr n₀ : Nat} {w w' : World} (h : Fg gr w w') (hn : n₀ ≤ gr) (hs : n₀ ≤ w.heap.size) : Below n₀ w w' :=
  ⟨h.os, h.tape, h.output, h.size, fun k hk => h.at k (by omega) (by omega)⟩
/-- An empty frame's cells, and one with no body yet. -/
def f0 (kind q v n : Int) : Array Value := #[.int .i64 kind, .int .u16 q, .int .i64 v, .int .i64 n, .slice none 0 0, .int .u16 0, .int .u32 0]
theorem f0_one (k q v n : Int) : (f0 k q v n).all (·.oneCell') = true := by simp [f0, Value.oneCell']
set_option maxRecDepth 100000 in
set_option maxHeartbeats 8000000 in
theorem pdata_read {w : World} {lo gr g : Nat} {v0 : Value} {xs : List Int} (h : PP w lo gr g v0 xs) (q : Int) (v n r : Nat) (hq : 0 ≤ q ∧ q ≤ 65535) (hv : v < 4) (hn : n ≤ 64) (hr : r = (nb n + 7) / 8) (h1 : tkE xs 2 = 0 ∧ tkN xs 2 = v) (h2 : tkE (tkL xs 2) 2 = 0 ∧ tkN (tkL xs 2) 2 = 0)
    (h3 : tkE (tkL (tkL xs 2) 2) 8 = 0 ∧ tkN (tkL (tkL xs 2) 2) 8 = n) (h4 : tkE (tkL (tkL (tkL xs 2) 2) 8) 16 = 0 ∧ tkN (tkL (tkL (tkL xs 2) 2) 8) 16 = q) :
    Calls Tryz.prog 48 #[.pointer (some ⟨g, 0, none⟩), .int .i64 (r : Int)] w fun e w' => e = .returned (.agg (f0 1 q v n)) ∧ (∃ v' xs', PP w' lo gr g v' xs') ∧ Fg gr w w' := by
  have HH := Aside0.mk h
  have H1 := Aside0.mk h1
  have H2 := Aside0.mk h2
  have H3 := Aside0.mk h3
  have H4 := Aside0.mk h4
  have HR := Aside0.mk hr
  have hxc : IntKind.u16.wrap q = q := by rw [IntKind.wrap_u16]; omega
  have HWI := Aside0.mk (fun w => frame_within.calls (n : Int) _ w (within_f n hn))
  have HBT := Aside0.mk (fun w => frame_Bits.calls (n : Int) _ w (fbits_f n hn))
  have hmb : ((nb n : Nat) : Int) ≤ 1000 := by unfold nb; omega
  have hm0 : (0 : Int) ≤ ((nb n : Nat) : Int) := by omega
  have hyt : Int.tdiv (((nb n : Nat) : Int) + 8 - 1) 8 = (r : Int) := by rw [Int.tdiv_eq_ediv_of_nonneg (by omega)]; omega
  have hye : (((nb n : Nat) : Int) + 8 - 1) / 8 = (r : Int) := by omega
  obtain ⟨m, hm⟩ : ∃ m : Int, m = ((nb n : Nat) : Int) := ⟨_, rfl⟩
  rw [← hm] at HBT hmb hm0 hyt hye
  clear h h1 h2 h3 h4 hq hv hn hr hm
  go_enter Tryz.func48, Tryz.ntmps48
  go_wp2_with (first
    | (go_at_call 43; refine Aside0.out ?_)
    | fail)
  refine Aside0.mk ?_
  have hba := below_alloc (Below.refl w.heap.size w) (.cells (f0 0 0 0 0) 44)
  have hbb := blk_new w (.cells (f0 0 0 0 0) 44)
  obtain ⟨a4, ha4⟩ : ∃ a4, a4 = w.heap.size := ⟨_, rfl⟩
  have HW := Aside0.mk (show w.heap.size ≤ a4 by rw [ha4]; exact Nat.le_refl _)
  have HG := Aside0.mk (show gr < g ∧ g < a4 from ⟨HH.out.lt, by rw [ha4]; exact HH.out.size⟩)
  rw [← ha4] at hbb ⊢
  refine (ptake_calls (HH.out.below hba) _ 2 H1.out.1).mono ?_
  rintro e w1 ⟨rfl, ⟨v1, hp⟩, hf⟩
  have HP1 := Aside0.mk hp
  have HF1 := Aside0.mk (Fg.lower hba hf)
  have HA1 := Aside0.mk (hf.below_far hbb (by have := HG.out; omega))
  rw [H1.out.2]
  clear hba hbb ha4 hp hf
  go_wp2_with (first
    | (go_at_call 43; refine Aside0.out ?_)
    | fail)
  refine Aside0.mk ?_
  have hba := below_alloc (Below.refl w1.heap.size w1) (.cells (f0 1 0 v 0) 44)
  have hbb := blk_new w1 (.cells (f0 1 0 v 0) 44)
  obtain ⟨w2, hw2⟩ : ∃ w2, w2 = w1.alloc (.cells (f0 1 0 v 0) 44) := ⟨_, rfl⟩
  obtain ⟨a5, ha5⟩ : ∃ a5, a5 = w1.heap.size := ⟨_, rfl⟩
  have HL := Aside0.mk (show a4 < a5 by rw [ha5]; exact blk_lt HA1.out)
  rw [← hw2] at hba hbb
  rw [← ha5] at hbb
  have HP2 := Aside0.mk (HP1.out.below hba)
  have HF2 := Aside0.mk (Fg.trans HF1.out (Fg.of_below hba))
  have HA2 := Aside0.mk ((hba.block a4 (blk_lt HA1.out)).trans HA1.out)
  have HC2 := Aside0.mk hbb
  show Calls _ _ _ (w1.alloc (.cells (f0 1 0 v 0) 44)) _
  rw [← hw2, ← ha5]
  clear hba hbb hw2 ha5 HP1 HF1 HA1
  refine (ptake_calls HP2.out _ 2 H2.out.1).mono ?_
  rintro e w3 ⟨rfl, ⟨v3, hp⟩, hf⟩
  have HP3 := Aside0.mk hp
  have HF3 := Aside0.mk (Fg.trans HF2.out hf)
  have HA3 := Aside0.mk (hf.below_far HA2.out (by have := HG.out; omega))
  have HC3 := Aside0.mk (hf.below_far HC2.out (by have := HG.out; have := HL.out; omega))
  rw [H2.out.2]
  clear hp hf HP2 HF2 HA2 HC2
  go_wp2_with (first
    | (go_at_call 45; refine Aside0.out ?_)
    | fail)
  refine Aside0.mk ?_
  refine (pneed_calls HP3.out _ _).mono ?_
  rintro e w4 ⟨rfl, hb⟩
  have HP4 := Aside0.mk (HP3.out.below hb)
  have HF4 := Aside0.mk (Fg.trans HF3.out (Fg.of_below hb))
  have HA4 := Aside0.mk ((hb.block a4 (blk_lt HA3.out)).trans HA3.out)
  have HC4 := Aside0.mk ((hb.block a5 (blk_lt HC3.out)).trans HC3.out)
  clear hb HP3 HF3 HA3 HC3
  go_wp2_with (first
    | (go_at_call 43; refine Aside0.out ?_)
    | fail)
  refine Aside0.mk ?_
  refine (ptake_calls HP4.out _ 8 H3.out.1).mono ?_
  rintro e w5 ⟨rfl, ⟨v5, hp⟩, hf⟩
  have HP5 := Aside0.mk hp
  have HF5 := Aside0.mk (Fg.trans HF4.out hf)
  have HA5 := Aside0.mk (hf.below_far HA4.out (by have := HG.out; omega))
  have HC5 := Aside0.mk (hf.below_far HC4.out (by have := HG.out; have := HL.out; omega))
  rw [H3.out.2]
  clear hp hf HP4 HF4 HA4 HC4
  have hfz := blk_frozen HC5.out 3
  have hfc : w5.cell? ⟨a5, 3, none⟩ = some (.int .i64 0) := blk_cell HC5.out 3
  go_wp2_with (first
    | ((with_reducible refine gate_ (.load 3 (.tmp 19)) rfl ?_); refine Aside0.out ?_)
    | fail)
  refine Aside0.mk ?_
  have hpt := Put1.set a5 3 w5 (.int .i64 n)
  have HC6 := Aside0.mk (show (w5.setCell ⟨a5, 3, none⟩ (.int .i64 n)).heap[a5]? = some (.cells (f0 1 0 v n) 44 (0, 0)) from blk_put HC5.out 3 _ rfl)
  have HA6 := Aside0.mk ((hpt.block a4 (by have := HL.out; omega)).trans HA5.out)
  have HP6 := Aside0.mk (HP5.out.put hpt (by have := HG.out; have := HL.out; omega))
  have HF6 := Aside0.mk (HF5.out.put hpt (by have := HL.out; have := HW.out; omega))
  obtain ⟨w6, hw6⟩ : ∃ w6, w6 = w5.setCell ⟨a5, 3, none⟩ (.int .i64 n) := ⟨_, rfl⟩
  rw [← hw6] at HC6 HA6 HP6 HF6 ⊢
  clear hpt hw6 hfz hfc HP5 HF5 HA5 HC5
  have hc3 : w6.cell? ⟨a5, 3, none⟩ = some (.int .i64 n) := blk_cell HC6.out 3
  go_wp2_with (first
    | (go_at_call 36; refine Aside0.out ?_)
    | fail)
  refine Aside0.mk ?_
  refine (HWI.out w6).mono ?_
  rintro e w7 ⟨rfl, hd⟩
  have HP7 := Aside0.mk (HP6.out.below hd.below)
  have HF7 := Aside0.mk (Fg.trans HF6.out (Fg.of_below hd.below))
  have HA7 := Aside0.mk ((hd.below.block a4 (blk_lt HA6.out)).trans HA6.out)
  have HC7 := Aside0.mk ((hd.below.block a5 (blk_lt HC6.out)).trans HC6.out)
  clear hc3 hd HWI HP6 HF6 HA6 HC6
  go_wp2_with (first
    | (go_at_call 45; refine Aside0.out ?_)
    | fail)
  refine Aside0.mk ?_
  refine (pneed_calls HP7.out _ _).mono ?_
  rintro e w8 ⟨rfl, hb⟩
  have HP8 := Aside0.mk (HP7.out.below hb)
  have HF8 := Aside0.mk (Fg.trans HF7.out (Fg.of_below hb))
  have HA8 := Aside0.mk ((hb.block a4 (blk_lt HA7.out)).trans HA7.out)
  have HC8 := Aside0.mk ((hb.block a5 (blk_lt HC7.out)).trans HC7.out)
  clear hb HP7 HF7 HA7 HC7
  go_wp2_with (first
    | (go_at_call 43; refine Aside0.out ?_)
    | fail)
  refine Aside0.mk ?_
  refine (ptake_calls HP8.out _ 16 H4.out.1).mono ?_
  rintro e w9 ⟨rfl, ⟨v9, hp⟩, hf⟩
  have HP9 := Aside0.mk hp
  have HF9 := Aside0.mk (Fg.trans HF8.out hf)
  have HA9 := Aside0.mk (hf.below_far HA8.out (by have := HG.out; omega))
  have HC9 := Aside0.mk (hf.below_far HC8.out (by have := HG.out; have := HL.out; omega))
  rw [H4.out.2]
  clear hp hf HP8 HF8 HA8 HC8
  have hfz := blk_frozen HC9.out 1
  have hfc : w9.cell? ⟨a5, 1, none⟩ = some (.int .u16 0) := blk_cell HC9.out 1
  go_wp2_with (first
    | ((with_reducible refine gate_ (.load 3 (.tmp 27)) rfl ?_); refine Aside0.out ?_)
    | fail)
  refine Aside0.mk ?_
  have hpt := Put1.set a5 1 w9 (.int .u16 q)
  have HC10 := Aside0.mk (show (w9.setCell ⟨a5, 1, none⟩ (.int .u16 q)).heap[a5]? = some (.cells (f0 1 q v n) 44 (0, 0)) from blk_put HC9.out 1 _ rfl)
  have HA10 := Aside0.mk ((hpt.block a4 (by have := HL.out; omega)).trans HA9.out)
  have HP10 := Aside0.mk (HP9.out.put hpt (by have := HG.out; have := HL.out; omega))
  have HF10 := Aside0.mk (HF9.out.put hpt (by have := HL.out; have := HW.out; omega))
  obtain ⟨w10, hw10⟩ : ∃ w10, w10 = w9.setCell ⟨a5, 1, none⟩ (.int .u16 q) := ⟨_, rfl⟩
  rw [← hw10] at HC10 HA10 HP10 HF10 ⊢
  clear hpt hw10 hfz hfc HP9 HF9 HA9 HC9
  have hc3 : w10.cell? ⟨a5, 3, none⟩ = some (.int .i64 n) := blk_cell HC10.out 3
  go_wp2_with (first
    | (go_at_call 37; refine Aside0.out ?_)
    | fail)
  refine Aside0.mk ?_
  refine (HBT.out w10).mono ?_
  rintro e w11 ⟨rfl, hd⟩
  have HP11 := Aside0.mk (HP10.out.below hd.below)
  have HF11 := Aside0.mk (Fg.trans HF10.out (Fg.of_below hd.below))
  have HA11 := Aside0.mk ((hd.below.block a4 (blk_lt HA10.out)).trans HA10.out)
  have HC11 := Aside0.mk ((hd.below.block a5 (blk_lt HC10.out)).trans HC10.out)
  clear hc3 hd HBT HP10 HF10 HA10 HC10
  go_wp2_with (first
    | (go_at_call 45; refine Aside0.out ?_)
    | fail)
  refine Aside0.mk ?_
  refine (pneed_calls HP11.out _ _).mono ?_
  rintro e w12 ⟨rfl, hb⟩
  have HP12 := Aside0.mk (HP11.out.below hb)
  have HF12 := Aside0.mk (Fg.trans HF11.out (Fg.of_below hb))
  have HA12 := Aside0.mk ((hb.block a4 (blk_lt HA11.out)).trans HA11.out)
  have HC12 := Aside0.mk ((hb.block a5 (blk_lt HC11.out)).trans HC11.out)
  clear hb HP11 HF11 HA11 HC11
  go_wp2_with (first
    | (go_at_call 45; refine Aside0.out ?_)
    | fail)
  refine Aside0.mk ?_
  refine (pneed_calls HP12.out _ _).mono ?_
  rintro e w13 ⟨rfl, hb⟩
  have HP13 := Aside0.mk (HP12.out.below hb)
  have HF13 := Aside0.mk (Fg.trans HF12.out (Fg.of_below hb))
  have HA13 := Aside0.mk ((hb.block a4 (blk_lt HA12.out)).trans HA12.out)
  have HC13 := Aside0.mk ((hb.block a5 (blk_lt HC12.out)).trans HC12.out)
  clear hb HP12 HF12 HA12 HC12
  have huF := Tryz.underlying44
  go_wp2_with (first
    | (refine wpList_load_row rfl 44 (.tmp 5) rfl a5 rfl 44 (f0 1 q v n) (0, 0) _ HC13.out huF rfl fr_size ?_)
    | (refine wpList_store_row rfl 44 (.tmp 4) (.tmp 43) rfl a4 (f0 1 q v n) rfl rfl 44 _ HA13.out fr_size rfl (f0_one 1 q v n) ?_)
    | fail)
  refine bodyPost_ret (results_cell_row rfl _ _ a4 44 (f0 1 q v n) (0, 0) _ rfl (setRow_heap _ _ _ _ _ _ HA13.out) huF rfl fr_size) rfl ?_
  have hpr := Put1.row a4 w13 (f0 1 q v n)
  exact ⟨rfl, ⟨_, _, HP13.out.put hpr HG.out.2⟩, HF13.out.put hpr HW.out⟩
theorem weight_two : bits_Weight.f 3 [0, 0] = some 0 := by decide +kernel
theorem cut3 (A : Option Addr) (L c m : Nat) (hm : m ≤ c) : ∀ W : World, (Instr.slice 31 (.slice A L c) none (some (.int .i64 (m : Int))) (some (.int .i64 (m : Int)))).run Tryz.prog W = .ok (.slice A m m) W := by
  intro W
  have hu : Tryz.prog.underlying 31 = some (.slice (Tryz.prog.elem 31)) := by kernel_rfl
  obtain ⟨i0, hi0, _, hsz, _⟩ := info_parts u8_info
  have hel : Tryz.prog.elem 31 = 5 := by kernel_rfl
  have ha : (A.map fun x => x.add 0) = A := by cases A <;> simp [Addr.add]
  have h0 : (0 : Int) ≤ (m : Int) := by omega
  have h1 : (m : Int) ≤ (c : Int) := by omega
  simp [Instr.slice, run_underlying hu, Instr.sliceBounds, run_sliceBound, sizeOf, typeInfo, hel, hi0, hsz, sliced, Result.andThen, ha, h0, h1, hm]
set_option maxRecDepth 100000 in
set_option maxHeartbeats 8000000 in
theorem pbody_read {w : World} {lo gr g : Nat} {v0 : Value} {xs : List Int} (h : PP w lo gr g v0 xs) {A : Option Addr} {c : Nat} {B P : List Int} (hB : Kd.C (Kd.int .u8) w A B.length B) (hc : B.length ≤ c) (k : Nat) (hof : bits_Of.f k B = some (P ++ [0, 0])) (m : Nat) (hm : P.length = m) (hm1 : m ≤ 1000) :
    Calls Tryz.prog 49 #[.pointer (some ⟨g, 0, none⟩), .slice A B.length c, .int .i64 (m : Int)] w fun e w' => ∃ A', e = .returned (.slice A' m m) ∧ Kd.C (Kd.int .u8) w' A' P.length P ∧ (∀ d, A' = some d → w.heap.size ≤ d.block ∧ d.block < w'.heap.size) ∧ Below w.heap.size w w' := by
  have HH := Aside0.mk h
  have HOC := Aside0.mk (bits_Of.calls k A c B _ w hB hc hof)
  have HM := Aside0.mk (And.intro hm hm1)
  have hc1 := blk_cell h.box 1
  clear h hB hc hof hm hm1
  obtain ⟨b, hb⟩ : ∃ b, b = B.length := ⟨_, rfl⟩
  rw [← hb] at HOC ⊢
  clear hb
  go_enter Tryz.func49, Tryz.ntmps49
  go_wp2_with (first
    | (go_at_call 15; refine Aside0.out ?_)
    | fail)
  refine Aside0.mk ?_
  refine HOC.out.mono ?_
  rintro e w1 ⟨v7, rfl, hv, hb⟩
  obtain ⟨A7, c7, rfl⟩ := Kd.R_slice hv
  have hX : (P ++ [0, 0]).length = m + 2 := by rw [List.length_append, HM.out.1]; rfl
  have hrd := Kd.R_reads' hv
  obtain ⟨i0, hi0, hz0, hz1, hz2⟩ := info_parts u8_info
  have ht := (print_take_of (P := Tryz.prog) (Value.int .u8) 0 31 5 .i64 Tryz.underlying31 hi0 hz1 A7 c7 (P ++ [0, 0]) (m : Int) (by omega) (by omega) hrd.2.1).2.1 w1 (Kd.reads_of_C hrd.2.2)
  obtain ⟨A', hcut0, hA2, hC2⟩ := print_drop_of (P := Tryz.prog) (Value.int .u8) 0 31 5 .i64 Tryz.underlying31 hi0 hz1 A7 c7 (P ++ [0, 0]) (m : Int) (by omega) (by omega) hrd.2.1
  have hA2 := hA2 w1 (Kd.reads_of_C hrd.2.2)
  have hcut3 := cut3 A7 (m + 2) c7 m (by omega)
  have e1 : (P ++ [0, 0]).take m = P := by rw [← HM.out.1, List.take_left]
  have e2 : (P ++ [0, 0]).drop m = [0, 0] := by rw [← HM.out.1, List.drop_left]
  simp only [Int.toNat_natCast] at ht hcut0 hA2 hC2
  rw [e1] at ht
  rw [e2] at hA2 hC2 hcut0
  rw [hX] at hcut0 ⊢
  have hcut : ∀ W : World, (Instr.slice 31 (.slice A7 (m + 2) c7) (some (.int .i64 (m : Int))) none none).run Tryz.prog W = .ok (.slice A' 2 (c7 - m)) W := hcut0
  have HWT := Aside0.mk (bits_Weight.calls 3 A' (c7 - m) [0, 0] 0 w1 (Kd.C_of_reads hA2) hC2 weight_two)
  have HPC := Aside0.mk (Kd.C_of_reads (h1 := fun _ => rfl) ht)
  have HBD := Aside0.mk (show ∀ d, A7 = some d → w.heap.size ≤ d.block ∧ d.block < w1.heap.size from by
    obtain ⟨g7, c7', he, h1, h2, _⟩ := Kd.R_form hv (by omega)
    cases he
    intro d hd; cases hd; exact ⟨h1, h2⟩)
  have HB1 := Aside0.mk hb
  have HP1 := Aside0.mk (HH.out.below hb)
  clear hv hb hX hrd ht hcut0 hA2 hC2 e1 e2 HOC HH hc1 hz0 hz1 hz2 hi0
  go_wp2_with (first
    | (go_at_call 64; refine Aside0.out ?_)
    | fail)
  refine Aside0.mk ?_
  refine HWT.out.mono ?_
  rintro e w2 ⟨rfl, hd⟩
  have HP2 := Aside0.mk (HP1.out.below hd.below)
  have HPC2 := Aside0.mk (Kd.C_below HPC.out hd.below)
  have HB2 := Aside0.mk (below_step HB1.out hd.below)
  have HS2 := Aside0.mk hd.below.size
  clear hd HWT HP1 HPC HB1
  go_wp2_with (first
    | (go_at_call 45; refine Aside0.out ?_)
    | fail)
  refine Aside0.mk ?_
  refine (pneed_calls HP2.out _ _).mono ?_
  rintro e w3 ⟨rfl, hb⟩
  have HPC3 := Aside0.mk (Kd.C_below HPC2.out hb)
  have HB3 := Aside0.mk (below_step HB2.out hb)
  have HS3 := Aside0.mk (Nat.le_trans HS2.out hb.size)
  clear hb HP2 HPC2 HB2
  go_wp2_with fail
  have hrs : (Tryz.f49).results = #[.tmp 6] := by kernel_rfl
  refine bodyPost_ret (results_tmp hrs _ _ _) rfl ?_
  exact ⟨A7, rfl, HPC3.out, fun d hd => by have := HBD.out d hd; have := HS3.out; omega, HB3.out⟩
-- YtknanbnjbilciaaGreatDoorPKParse
/-- What a data frame's bytes come to. -/
structure DF (k : Nat) (q : Int) (v n : Nat) (l xs P : List Int) : Prop where
  of : bits_Of.f k l = some xs
  right : crc16_Right.f k (l.take 6) = some true
  body : bits_Of.f k (l.drop 6) = some (P ++ [0, 0])
  len : P.length = nb n
  all : l.length = 6 + (nb n + 7) / 8
  q0 : 0 ≤ q ∧ q ≤ 65535
  v4 : v < 4
  n64 : n ≤ 64
  t0 : tkE xs 4 = 0 ∧ tkN xs 4 = 1
  t1 : tkE (tkL xs 4) 2 = 0 ∧ tkN (tkL xs 4) 2 = v
  t2 : tkE (tkL (tkL xs 4) 2) 2 = 0 ∧ tkN (tkL (tkL xs 4) 2) 2 = 0
  t3 : tkE (tkL (tkL (tkL xs 4) 2) 2) 8 = 0 ∧ tkN (tkL (tkL (tkL xs 4) 2) 2) 8 = n
  t4 : tkE (tkL (tkL (tkL (tkL xs 4) 2) 2) 8) 16 = 0 ∧ tkN (tkL (tkL (tkL (tkL xs 4) 2) 2) 8) 16 = q
def kparse16.T : Bool × List (List Nat × List Nat) := (true, [([], []), ([], []), ([], []), ([1, 2], [1, 2]), ([], []), ([4], [4]), ([5], [5]), ([0, 3, 6, 6], [0, 3, 6]), ([0, 1, 2, 3, 4, 5, 6, 7], []), ([8, 7, 7, 0, 1, 2, 3, 4, 5, 6, 7], [7, 8])])
def kparse16.B : List Nat := [0, 0, 0, 6, 0, 16, 48, 127, 255, 511]
theorem kparse16.tab : rtab .any (opsOf Tryz.f20 16) = kparse16.T := by kernel_rfl
theorem kparse16.bits : waitsOk kparse16.T.2 kparse16.B = true := by kernel_rfl
def kread2.T : Bool × List (List Nat × List Nat) := (true, [([], []), ([], []), ([1], [1]), ([0, 2, 0], [0]), ([2, 3, 0, 1, 2, 3], [2])])
def kread2.B : List Nat := [0, 0, 2, 7, 15]
theorem kread2.tab : rtab .any (opsOf Tryz.f9 2) = kread2.T := by kernel_rfl
theorem kread2.bits : waitsOk kread2.T.2 kread2.B = true := by kernel_rfl
set_option maxRecDepth 100000 in
set_option maxHeartbeats 8000000 in
theorem parsed_calls {w : World} {A : Option Addr} {c : Nat} {l xs P : List Int} (hr : Kd.C (Kd.int .u8) w A l.length l) (hc : l.length ≤ c) {k : Nat} {q : Int} {v n : Nat} (hd : DF k q v n l xs P) :
    Calls Tryz.prog 20 #[.slice A l.length c] w fun e w' => ∃ A', e = .returned (.tuple #[.agg (fr 1 q v n (.slice A' (nb n) (nb n))), .nilIface]) ∧ Kd.C (Kd.int .u8) w' A' P.length P ∧ (∀ d, A' = some d → w.heap.size ≤ d.block ∧ d.block < w'.heap.size) ∧ Below w.heap.size w w' := by
  have HR := Aside0.mk hr
  have HC := Aside0.mk hc
  have HD := Aside0.mk hd
  obtain ⟨r, hrd⟩ : ∃ r, r = (nb n + 7) / 8 := ⟨_, rfl⟩
  obtain ⟨m, hm⟩ : ∃ m, m = nb n := ⟨_, rfl⟩
  obtain ⟨L, hL⟩ : ∃ L, L = l.length := ⟨_, rfl⟩
  have HM := Aside0.mk (show m = nb n ∧ L = l.length ∧ r = (nb n + 7) / 8 ∧ L = 6 + r ∧ r ≤ 100 ∧ m ≤ 1000 from ⟨hm, hL, hrd, by rw [hL, hrd]; exact hd.all, by have := hd.n64; rw [hrd]; unfold nb; omega, by have := hd.n64; rw [hm]; unfold nb; omega⟩)
  have hL6 : (6 : Int) ≤ (L : Int) := by have := HM.out; omega
  have hLb : (L : Int) ≤ 200 := by have := HM.out; omega
  have hrb : (r : Int) ≤ 100 := by have := HM.out; omega
  have hL7 : (L : Int) - 6 = (r : Int) := by have := HM.out; omega
  rw [← hL, ← hm]
  clear hr hc hd hrd hm hL
  go_enter Tryz.func20, Tryz.ntmps20
  go_wp2_with (first
    | (go_at_call 42; refine Aside0.out ?_)
    | fail)
  refine Aside0.mk ?_
  have hba := below_alloc (Below.refl w.heap.size w) (.cells (f0 0 0 0 0) 44)
  have hbb := blk_new w (.cells (f0 0 0 0 0) 44)
  obtain ⟨w1, hw1⟩ : ∃ w1, w1 = w.alloc (.cells (f0 0 0 0 0) 44) := ⟨_, rfl⟩
  obtain ⟨a2, ha2⟩ : ∃ a2, a2 = w.heap.size := ⟨_, rfl⟩
  have HA0 := Aside0.mk (show w.heap.size ≤ a2 by rw [ha2]; exact Nat.le_refl _)
  rw [← hw1] at hba hbb
  rw [← ha2] at hbb
  show Calls _ _ _ (w.alloc (.cells (f0 0 0 0 0) 44)) _
  rw [← hw1, ← ha2]
  have hof := bitioOf_calls A c l w1 (Kd.C_below HR.out hba) HC.out k xs HD.out.of
  rw [← HM.out.2.1] at hof
  refine hof.mono ?_
  rintro e w2 ⟨gr, v2, rfl, hgr, hrs, hb⟩
  have HRS := Aside0.mk hrs
  have HB2 := Aside0.mk (below_step hba hb)
  have HA2 := Aside0.mk ((hb.block a2 (blk_lt hbb)).trans hbb)
  have HGR := Aside0.mk (show w1.heap.size ≤ gr ∧ a2 < gr ∧ w.heap.size ≤ gr from ⟨hgr, by have := blk_lt hbb; omega, by have := hba.size; omega⟩)
  clear hba hbb hw1 ha2 hof hrs hgr hb
  go_wp2_with (first
    | (go_at_call 43; refine Aside0.out ?_)
    | fail)
  refine Aside0.mk ?_
  have hba := below_alloc (Below.refl w2.heap.size w2) (.cells #[.pointer (some ⟨gr, 0, none⟩), .nilIface] 99)
  have hbb := blk_new w2 (.cells #[.pointer (some ⟨gr, 0, none⟩), .nilIface] 99)
  obtain ⟨w3, hw3⟩ : ∃ w3, w3 = w2.alloc (.cells #[.pointer (some ⟨gr, 0, none⟩), .nilIface] 99) := ⟨_, rfl⟩
  obtain ⟨g, hg⟩ : ∃ g, g = w2.heap.size := ⟨_, rfl⟩
  rw [← hw3] at hba hbb
  rw [← hg] at hbb
  rw [← hw3, ← hg]
  have hpp : PP w3 w1.heap.size gr g v2 xs := ⟨hbb, HRS.out.below hba HGR.out.1, HGR.out.1, by rw [hg]; exact HRS.out.lt⟩
  have HB3 := Aside0.mk (below_step HB2.out hba)
  have HA3 := Aside0.mk ((hba.block a2 (blk_lt HA2.out)).trans HA2.out)
  clear hba hbb hw3 hg HRS HB2 HA2
  refine (ptake_calls hpp _ 4 HD.out.t0.1).mono ?_
  rintro e w4 ⟨rfl, ⟨v4, hp⟩, hf⟩
  have HP4 := Aside0.mk hp
  have HB4 := Aside0.mk (HB3.out.trans (hf.to_below HGR.out.2.2 HB3.out.size))
  have HA4 := Aside0.mk (hf.below_far HA3.out (by have := HGR.out; omega))
  rw [HD.out.t0.2]
  clear hp hf hpp HB3 HA3
  have HHD := Aside0.mk (frame_Head.calls 1 6 w4 rfl)
  go_wp2_with (first
    | (go_at_call 44; refine Aside0.out ?_)
    | fail)
  refine Aside0.mk ?_
  refine HHD.out.mono ?_
  rintro e w5 ⟨rfl, hd⟩
  have HP5 := Aside0.mk (HP4.out.below hd.below)
  have HB5 := Aside0.mk (below_step HB4.out hd.below)
  have HA5 := Aside0.mk ((hd.below.block a2 (blk_lt HA4.out)).trans HA4.out)
  clear hd HP4 HB4 HA4 HHD
  go_wp2_with (first
    | (go_at_call 45; refine Aside0.out ?_)
    | fail)
  refine Aside0.mk ?_
  refine (pneed_calls HP5.out _ _).mono ?_
  rintro e w6 ⟨rfl, hb⟩
  have HP6 := Aside0.mk (HP5.out.below hb)
  have HB6 := Aside0.mk (below_step HB5.out hb)
  have HA6 := Aside0.mk ((hb.block a2 (blk_lt HA5.out)).trans HA5.out)
  clear hb HP5 HB5 HA5
  go_wp2_with (first
    | (go_at_call 45; refine Aside0.out ?_)
    | fail)
  refine Aside0.mk ?_
  refine (pneed_calls HP6.out _ _).mono ?_
  rintro e w7 ⟨rfl, hb⟩
  have HP7 := Aside0.mk (HP6.out.below hb)
  have HB7 := Aside0.mk (below_step HB6.out hb)
  have HA7 := Aside0.mk ((hb.block a2 (blk_lt HA6.out)).trans HA6.out)
  clear hb HP6 HB6 HA6
  have hc0 := blk_cell HP7.out.box 0
  have hc1 := blk_cell HP7.out.box 1
  obtain ⟨i0, hi0, hz0, hz1, hz2⟩ := info_parts u8_info
  have hA6 := (print_take_of (P := Tryz.prog) (Value.int .u8) 0 31 5 .i64 Tryz.underlying31 hi0 hz1 A c l 6 (by decide) (by have := HM.out; omega) HC.out).2
  have hcut : ∀ W : World, (Instr.slice 31 (.slice A L c) none (some (.int .i64 6)) none).run Tryz.prog W = .ok (.slice A 6 c) W :=
    cut_to (P := Tryz.prog) 31 5 .i64 Tryz.underlying31 hi0 A L c 6 (by decide) (by have := HM.out; omega) (by have := HC.out; have := HM.out; omega)
  have e6 : ((6 : Int).toNat) = 6 := rfl
  rw [e6] at hA6
  have l6 : (l.take 6).length = 6 := by rw [List.length_take]; have := HM.out; omega
  have hrt := crc16_Right.calls k A c (l.take 6) true w7 (Kd.C_of_reads (hA6.1 w7 (Kd.reads_of_C (Kd.C_below HR.out HB7.out)))) hA6.2 HD.out.right
  rw [l6] at hrt
  have HRT := Aside0.mk hrt
  clear hrt hA6 hi0 hz0 hz1 hz2 e6 l6
  go_wp2_with (first
    | (go_at_call 46; refine Aside0.out ?_)
    | fail)
  refine Aside0.mk ?_
  refine HRT.out.mono ?_
  rintro e w8 ⟨rfl, hd⟩
  have HP8 := Aside0.mk (HP7.out.below hd.below)
  have HB8 := Aside0.mk (below_step HB7.out hd.below)
  have HA8 := Aside0.mk ((hd.below.block a2 (blk_lt HA7.out)).trans HA7.out)
  clear hd HP7 HB7 HA7 HRT hc0 hc1 hcut
  go_wp2_with (first
    | (go_at_call 45; refine Aside0.out ?_)
    | fail)
  refine Aside0.mk ?_
  refine (pneed_calls HP8.out _ _).mono ?_
  rintro e w9 ⟨rfl, hb⟩
  have HP9 := Aside0.mk (HP8.out.below hb)
  have HB9 := Aside0.mk (below_step HB8.out hb)
  have HA9 := Aside0.mk ((hb.block a2 (blk_lt HA8.out)).trans HA8.out)
  clear hb HP8 HB8 HA8
  have hc0 := blk_cell HP9.out.box 0
  have hc1 := blk_cell HP9.out.box 1
  go_wp2_with (first
    | (go_at_call 48; refine Aside0.out ?_)
    | fail)
  refine Aside0.mk ?_
  have hba := below_alloc (Below.refl w9.heap.size w9) (.cells (f0 0 0 0 0) 44)
  have hbb := blk_new w9 (.cells (f0 0 0 0 0) 44)
  obtain ⟨w10, hw10⟩ : ∃ w10, w10 = w9.alloc (.cells (f0 0 0 0 0) 44) := ⟨_, rfl⟩
  obtain ⟨a7, ha7⟩ : ∃ a7, a7 = w9.heap.size := ⟨_, rfl⟩
  have HG := Aside0.mk (show g < a7 ∧ a2 < a7 ∧ w.heap.size ≤ a7 from ⟨by rw [ha7]; exact HP9.out.size, by rw [ha7]; exact blk_lt HA9.out, by rw [ha7]; exact HB9.out.size⟩)
  rw [← hw10] at hba hbb
  rw [← ha7] at hbb
  show Calls _ _ _ (w9.alloc (.cells (f0 0 0 0 0) 44)) _
  rw [← hw10, ← ha7]
  have hpp := HP9.out.below hba
  have HB10 := Aside0.mk (below_step HB9.out hba)
  have HA10 := Aside0.mk ((hba.block a2 (blk_lt HA9.out)).trans HA9.out)
  refine (pdata_read hpp q v n r HD.out.q0 HD.out.v4 HD.out.n64 HM.out.2.2.1 HD.out.t1 HD.out.t2 HD.out.t3 HD.out.t4).mono ?_
  rintro e w11 ⟨rfl, ⟨v11, xs11, hp⟩, hf⟩
  have HP11 := Aside0.mk hp
  have HB11 := Aside0.mk (HB10.out.trans (hf.to_below HGR.out.2.2 HB10.out.size))
  have HA11 := Aside0.mk (hf.below_far HA10.out (by have := HGR.out; omega))
  have HC11 := Aside0.mk (hf.below_far hbb (by have := HG.out; have := HP9.out.lt; omega))
  clear hba hbb hw10 ha7 hpp hp hf HP9 HB9 HA9 HB10 HA10 hc0 hc1
  have hu := Tryz.underlying44
  go_wp2_with (first
    | (refine wpList_store_row rfl 44 (.tmp 7) (.tmp 63) rfl a7 (f0 1 q v n) rfl rfl 44 _ HC11.out fr_size rfl (f0_one 1 q v n) ?_; refine Aside0.out ?_)
    | fail)
  refine Aside0.mk ?_
  have hpr := Put1.row a7 w11 (f0 1 q v n)
  have HP12 := Aside0.mk (HP11.out.put hpr HG.out.1)
  have HB12 := Aside0.mk (below_setRow HB11.out HG.out.2.2 (f0 1 q v n))
  have HA12 := Aside0.mk ((hpr.block a2 (by have := HG.out; omega)).trans HA11.out)
  have HC12 := Aside0.mk (setRow_heap w11 a7 _ (f0 1 q v n) _ _ HC11.out)
  obtain ⟨w12, hw12⟩ : ∃ w12, w12 = w11.setRow a7 (f0 1 q v n) := ⟨_, rfl⟩
  rw [← hw12] at HP12 HB12 HA12 HC12 ⊢
  clear hw12 hpr HP11 HB11 HA11 HC11
  obtain ⟨i0, hi0, hz0, hz1, hz2⟩ := info_parts u8_info
  obtain ⟨A', hcut0, hA2, hC2⟩ := print_drop_of (P := Tryz.prog) (Value.int .u8) 0 31 5 .i64 Tryz.underlying31 hi0 hz1 A c l 6 (by decide) (by have := HM.out; omega) HC.out
  have e6 : ((6 : Int).toNat) = 6 := rfl
  rw [← HM.out.2.1, e6] at hcut0
  rw [e6] at hA2 hC2
  have l6 : (l.drop 6).length = r := by rw [List.length_drop]; have := HM.out; omega
  have HBD := Aside0.mk (fun w' (hb : Below w.heap.size w w') => Kd.C_of_reads (h1 := fun _ => rfl) (hA2 w' (Kd.reads_of_C (Kd.C_below HR.out hb))))
  have HC6 := Aside0.mk hC2
  rw [l6] at hcut0
  have HCT := Aside0.mk hcut0
  have HBT := Aside0.mk (fun w => frame_Bits.calls (n : Int) _ w (fbits_f n HD.out.n64))
  rw [← HM.out.1] at HBT
  have HS := Aside0.mk (show w12.drew.cell? ⟨a7, 3, none⟩ = some (.int .i64 n) from blk_cell HC12.out 3)
  have HL6 := Aside0.mk l6
  clear hcut0 hA2 hC2 e6 l6 hi0 hz0 hz1 hz2
  go_wp2_with fail
  refine start_ (n := 10) (S := (fun w' => w'.cell? ⟨a7, 3, none⟩ = some (.int .i64 n))) (ds := [9]) #[false, false, false, false, false, false, false, false, false, false] (by kernel_rfl) rfl rfl HS.out (fun hHeld => ?_)
  refine with_tabW kparse16.tab kparse16.bits (fun HT_ HW_ => ?_)
  refine pure_ (i := 0) (N := some 64) (v := ?_) (a' := ?_) #[true, false, false, false, false, false, false, false, false, false] rfl rfl (any_of HT_.out (by kernel_rfl)) (fun _ _ _ h => h) (Or.inl ⟨by rfl, ?_⟩) ?_ ?_
  rotate_left
  · intro w'
    go_simp
    with_reducible rfl
  rotate_left
  · simp only [Act.put, List.setIfInBounds_toArray, List.set_cons_zero, List.set_cons_succ, i64_w, i32_w]
    rfl
  refine pure_ (i := 1) (N := some 65) (v := ?_) (a' := ?_) #[true, true, false, false, false, false, false, false, false, false] rfl rfl (any_of HT_.out (by kernel_rfl)) (fun _ _ _ h => h) (Or.inl ⟨by rfl, ?_⟩) ?_ ?_
  rotate_left
  · intro w'
    go_simp
    with_reducible rfl
  rotate_left
  · simp only [Act.put, List.setIfInBounds_toArray, List.set_cons_zero, List.set_cons_succ, i64_w, i32_w]
    rfl
  refine pure_ (i := 2) (N := some 66) (v := ?_) (a' := ?_) #[true, true, true, false, false, false, false, false, false, false] rfl rfl (any_of HT_.out (by kernel_rfl)) (fun _ _ _ h => h) (Or.inl ⟨by rfl, ?_⟩) ?_ ?_
  rotate_left
  · intro w'
    go_simp
    with_reducible rfl
  rotate_left
  · simp only [Act.put, List.setIfInBounds_toArray, List.set_cons_zero, List.set_cons_succ, i64_w, i32_w]
    rfl
  refine take_ (i := 3) (N := some 67) (v := ?_) (a' := ?_) #[true, true, true, true, false, false, false, false, false, false] rfl rfl (take_ofW HT_.out HW_.out (by kernel_rfl)) (fun _ _ _ h => h) (Or.inl ⟨by rfl, ?_⟩) hHeld ?_ ?_
  rotate_left
  · rintro w' s0
    have hcv := HCT.out; go_simp; with_reducible rfl
  rotate_left
  · simp only [Act.put, List.setIfInBounds_toArray, List.set_cons_zero, List.set_cons_succ, i64_w, i32_w]
    rfl
  refine pure_ (i := 4) (N := some 68) (v := ?_) (a' := ?_) #[true, true, true, true, true, false, false, false, false, false] rfl rfl (any_of HT_.out (by kernel_rfl)) (fun _ _ _ h => h) (Or.inl ⟨by rfl, ?_⟩) ?_ ?_
  rotate_left
  · intro w'
    go_simp
    with_reducible rfl
  rotate_left
  · simp only [Act.put, List.setIfInBounds_toArray, List.set_cons_zero, List.set_cons_succ, i64_w, i32_w]
    rfl
  refine take_ (i := 5) (N := some 69) (v := ?_) (a' := ?_) #[true, true, true, true, true, true, false, false, false, false] rfl rfl (take_ofW HT_.out HW_.out (by kernel_rfl)) (fun _ _ _ h => h) (Or.inl ⟨by rfl, ?_⟩) hHeld ?_ ?_
  rotate_left
  · rintro w' s0
    go_simp
    with_reducible rfl
  rotate_left
  · simp only [Act.put, List.setIfInBounds_toArray, List.set_cons_zero, List.set_cons_succ, i64_w, i32_w]
    rfl
  refine one_ (i := 6) (N := some 70) #[true, true, true, true, true, true, true, false, false, false] rfl rfl (one_of HT_.out (by kernel_rfl)) (by decide) (fun K hK => ?_)
  refine goes_ Tryz.func37 (by kernel_rfl) rfl _ (by rfl) rfl rfl (by (try simp only [List.map_toArray, List.map_cons, List.map_nil]); first | done | rfl | (go_simp; done) | simp [Act.eval]) ?_
  refine (HBT.out _).mono ?_
  rintro e w14 ⟨rfl, hd⟩
  have HP14 := Aside0.mk (HP12.out.below (below_step (below_drew1 (Below.refl _ _)) hd.below))
  have HB14 := Aside0.mk (below_step HB12.out (below_step (below_drew1 (Below.refl _ _)) hd.below))
  have HA14 := Aside0.mk (((below_step (below_drew1 (Below.refl _ _)) hd.below).block a2 (blk_lt HA12.out)).trans HA12.out)
  have HC14 := Aside0.mk (((below_step (below_drew1 (Below.refl _ _)) hd.below).block a7 (blk_lt HC12.out)).trans HC12.out)
  clear hd HBT HP12 HB12 HA12 HC12
  refine ⟨_, rfl, ?_⟩
  refine hK.out _ _ (blk_cell HC14.out 3) (fun hHeld => ?_)
  clear hK K
  refine norm_ (a' := ?_) ?_ ?_
  rotate_left
  · show Act.put _ (some 70) _ = _
    simp only [Act.put, List.setIfInBounds_toArray, List.set_cons_zero, List.set_cons_succ, i64_w, i32_w]
    rfl
  refine one_ (i := 7) (N := some 71) #[true, true, true, true, true, true, true, true, false, false] rfl rfl (one_of HT_.out (by kernel_rfl)) (by decide) (fun K hK => ?_)
  refine goes_ Tryz.func49 (by kernel_rfl) rfl #[.pointer (some ⟨g, 0, none⟩), .slice A' r (c - 6), .int .i64 m] (by rfl) rfl rfl (by (try simp only [List.map_toArray, List.map_cons, List.map_nil]); first | done | rfl | (go_simp; done) | simp [Act.eval]) ?_
  have hpb := pbody_read HP14.out (HBD.out w14 HB14.out) HC6.out k HD.out.body m (by rw [HD.out.len]; exact HM.out.1.symm) HM.out.2.2.2.2.2
  rw [HL6.out] at hpb
  refine hpb.mono ?_
  rintro e w15 ⟨A8, rfl, hpc, hbd, hb⟩
  have HPC15 := Aside0.mk hpc
  have HBD15 := Aside0.mk (show ∀ d, A8 = some d → d.block ≠ a7 ∧ d.block ≠ a2 ∧ w.heap.size ≤ d.block ∧ d.block < w15.heap.size from fun d hd => by have := hbd d hd; have := blk_lt HC14.out; have := blk_lt HA14.out; have := HB14.out.size; omega)
  have HP15 := Aside0.mk (HP14.out.below hb)
  have HB15 := Aside0.mk (below_step HB14.out hb)
  have HA15 := Aside0.mk ((hb.block a2 (blk_lt HA14.out)).trans HA14.out)
  have HC15 := Aside0.mk ((hb.block a7 (blk_lt HC14.out)).trans HC14.out)
  clear hpc hbd hb hpb HP14 HB14 HA14 HC14
  refine ⟨_, rfl, ?_⟩
  refine hK.out _ _ (blk_cell HC15.out 3) (fun hHeld => ?_)
  clear hK K
  refine norm_ (a' := ?_) ?_ ?_
  rotate_left
  · show Act.put _ (some 71) _ = _
    simp only [Act.put, List.setIfInBounds_toArray, List.set_cons_zero, List.set_cons_succ, i64_w, i32_w]
    rfl
  refine pure_ (i := 8) (N := some 72) (v := ?_) (a' := ?_) #[true, true, true, true, true, true, true, true, true, false] rfl rfl (any_of HT_.out (by kernel_rfl)) (fun _ _ _ h => h) (Or.inl ⟨by rfl, ?_⟩) ?_ ?_
  rotate_left
  · intro w'
    go_simp
    with_reducible rfl
  rotate_left
  · simp only [Act.put, List.setIfInBounds_toArray, List.set_cons_zero, List.set_cons_succ, i64_w, i32_w]
    rfl
  refine last_ (i := 9) (N := none) #[true, true, true, true, true, true, true, true, true, true] rfl rfl (one_of HT_.out (by kernel_rfl)) (by decide) (fun K hK => ?_)
  have hcl : w15.cell? ⟨a7, 4, none⟩ = some (.slice none 0 0) := blk_cell HC15.out 4
  have hfz := blk_frozen HC15.out 4
  refine skip_ (w1 := ?_) (by rfl) rfl ?_ ?_
  rotate_left 1
  · go_simp
    rfl
  refine hK.out _ _ ?_
  clear hK K
  refine done_ (done_of HT_.out (by kernel_rfl)) ?_
  clear hHeld hcl hfz
  have hpt := Put1.set a7 4 w15 (.slice A8 m m)
  have HC16 := Aside0.mk (show (w15.setCell ⟨a7, 4, none⟩ (.slice A8 m m)).heap[a7]? = some (.cells (fr 1 q v n (.slice A8 m m)) 44 (0, 0)) from blk_put HC15.out 4 _ rfl)
  have HA16 := Aside0.mk ((hpt.block a2 (by have := HG.out; omega)).trans HA15.out)
  have HB16 := Aside0.mk (HB15.out.trans (hpt.below HG.out.2.2))
  have HP16 := Aside0.mk (HP15.out.put hpt HG.out.1)
  have HPC16 := Aside0.mk (C_put HPC15.out hpt (fun d hd => (HBD15.out d hd).1))
  have HS16 := Aside0.mk hpt.size
  obtain ⟨w16, hw16⟩ : ∃ w16, w16 = w15.setCell ⟨a7, 4, none⟩ (.slice A8 m m) := ⟨_, rfl⟩
  rw [← hw16] at HC16 HA16 HB16 HP16 HPC16 HS16 ⊢
  clear hw16 hpt HC15 HA15 HB15 HP15 HPC15
  have hc0 := blk_cell HP16.out.box 0
  have hc1 := blk_cell HP16.out.box 1
  go_wp2_with (first
    | (refine wpList_load_row rfl 44 (.tmp 7) rfl a7 rfl 44 (fr 1 q v n (.slice A8 m m)) (0, 0) _ HC16.out hu rfl fr_size ?_)
    | (refine wpList_store_row rfl 44 (.tmp 2) (.tmp 83) rfl a2 (fr 1 q v n (.slice A8 m m)) rfl rfl 44 _ HA16.out fr_size rfl (fr_one 1 q v n A8 m m) ?_)
    | fail)
  refine bodyPost_ret (results_ct rfl _ _ a2 44 (fr 1 q v n (.slice A8 m m)) (0, 0) _ rfl (setRow_heap _ _ _ _ _ _ HA16.out) hu rfl fr_size) rfl ?_
  have hpr := Put1.row a2 w16 (fr 1 q v n (.slice A8 m m))
  refine ⟨A8, rfl, C_put HPC16.out hpr (fun d hd => (HBD15.out d hd).2.1), fun d hd => ?_, below_setRow HB16.out HA0.out _⟩
  have h1 := HBD15.out d hd
  have h2 := hpr.size
  have h3 := HS16.out
  exact ⟨h1.2.2.1, by omega⟩
set_option maxRecDepth 100000 in
set_option maxHeartbeats 8000000 in
theorem readd_calls {w : World} {A : Option Addr} {c : Nat} {l xs P : List Int} (hr : Kd.C (Kd.int .u8) w A l.length l) (hc : l.length ≤ c) {k : Nat} {q : Int} {v n : Nat} (hd : DF k q v n l xs P) :
    Calls Tryz.prog 9 #[.slice A l.length c] w fun e w' => ∃ A', e = .returned (.tuple #[.agg (fr 1 q v n (.slice A' (nb n) (nb n))), .int .i64 0]) ∧ Kd.C (Kd.int .u8) w' A' P.length P ∧ (∀ d, A' = some d → w.heap.size ≤ d.block ∧ d.block < w'.heap.size) ∧ Below w.heap.size w w' := by
  have hba := below_alloc (Below.refl w.heap.size w) (.cells (f0 0 0 0 0) 44)
  have hbb := blk_new w (.cells (f0 0 0 0 0) 44)
  have HPC := Aside0.mk (parsed_calls (Kd.C_below hr hba) hc hd)
  obtain ⟨m, hm⟩ : ∃ m, m = nb n := ⟨_, rfl⟩
  obtain ⟨L, hL⟩ : ∃ L, L = l.length := ⟨_, rfl⟩
  rw [← hm] at HPC ⊢
  rw [← hL] at HPC ⊢
  clear hr hc hd hm hL
  obtain ⟨w1, hw1⟩ : ∃ w1, w1 = w.alloc (.cells (f0 0 0 0 0) 44) := ⟨_, rfl⟩
  obtain ⟨a2, ha2⟩ : ∃ a2, a2 = w.heap.size := ⟨_, rfl⟩
  rw [← hw1] at hba hbb HPC
  rw [← ha2] at hbb
  have HB1 := Aside0.mk hba
  have HA1 := Aside0.mk hbb
  have HA0 := Aside0.mk (show w.heap.size ≤ a2 by rw [ha2]; exact Nat.le_refl _)
  have HU := Aside0.mk Tryz.underlying44
  clear hba hbb
  go_enter Tryz.func9, Tryz.ntmps9
  go_wp2_with (first
    | (go_at_call 20; refine Aside0.out ?_)
    | fail)
  refine Aside0.mk ?_
  show Calls _ _ _ (w.alloc (.cells (f0 0 0 0 0) 44)) _
  rw [← hw1, ← ha2]
  clear hw1 ha2
  refine HPC.out.mono ?_
  rintro e w2 ⟨A8, rfl, hpc, hbd, hb⟩
  have HB2 := Aside0.mk (below_step HB1.out hb)
  have HA2 := Aside0.mk ((hb.block a2 (blk_lt HA1.out)).trans HA1.out)
  have HPC2 := Aside0.mk hpc
  have HBD := Aside0.mk (show ∀ d, A8 = some d → d.block ≠ a2 ∧ w.heap.size ≤ d.block ∧ d.block < w2.heap.size from fun d hd => by have := hbd d hd; have := blk_lt HA1.out; have := HB1.out.size; omega)
  clear hb hpc hbd HB1 HA1 HPC
  go_wp2_with (first
    | (refine wpList_store_row rfl 44 (.tmp 4) (.tmp 9) rfl w2.heap.size (fr 1 q v n (.slice A8 m m)) rfl rfl 44 _ (blk_new w2 _) fr_size rfl (fr_one 1 q v n A8 m m) ?_; refine Aside0.out ?_)
    | fail)
  refine Aside0.mk ?_
  have hba := below_alloc (Below.refl w2.heap.size w2) (.cells (f0 0 0 0 0) 44)
  have hbb := setRow_heap (w2.alloc (.cells (f0 0 0 0 0) 44)) w2.heap.size _ (fr 1 q v n (.slice A8 m m)) _ _ (blk_new w2 (.cells (f0 0 0 0 0) 44))
  have hbs := below_setRow hba (Nat.le_refl _) (fr 1 q v n (.slice A8 m m))
  obtain ⟨a4, ha4⟩ : ∃ a4, a4 = w2.heap.size := ⟨_, rfl⟩
  obtain ⟨w3, hw3⟩ : ∃ w3, w3 = (w2.alloc (.cells (f0 0 0 0 0) 44)).setRow w2.heap.size (fr 1 q v n (.slice A8 m m)) := ⟨_, rfl⟩
  rw [← hw3] at hbs hbb
  show wpList _ _ _ _ _ ((w2.alloc (.cells (f0 0 0 0 0) 44)).setRow w2.heap.size (fr 1 q v n (.slice A8 m m)))
  rw [← hw3]
  have hbs : Below w2.heap.size w2 w3.drew := below_drew1 hbs
  have HB3 := Aside0.mk (below_step HB2.out hbs)
  have HA3 := Aside0.mk ((hbs.block a2 (blk_lt HA2.out)).trans HA2.out)
  have HPC3 := Aside0.mk (Kd.C_below HPC2.out hbs)
  have HS3 := Aside0.mk hbs.size
  rw [← ha4] at hbb ⊢
  have hcc := fun i => blk_cell (show w3.drew.heap[a4]? = some (.cells (fr 1 q v n (.slice A8 m m)) 44 (0, 0)) from hbb) i
  have HS := Aside0.mk (show w3.drew.cell? ⟨a4, 0, none⟩ = some (.int .i64 1) ∧ w3.drew.cell? ⟨a4, 1, none⟩ = some (.int .u16 q) ∧ w3.drew.cell? ⟨a4, 2, none⟩ = some (.int .i64 v) ∧ w3.drew.cell? ⟨a4, 3, none⟩ = some (.int .i64 n) ∧ w3.drew.cell? ⟨a4, 4, none⟩ = some (.slice A8 m m) ∧ w3.drew.cell? ⟨a4, 5, none⟩ = some (.int .u16 0) ∧ w3.drew.cell? ⟨a4, 6, none⟩ = some (.int .u32 0) from ⟨hcc 0, hcc 1, hcc 2, hcc 3, hcc 4, hcc 5, hcc 6⟩)
  have HM := Aside0.mk (show w3.drew.heap[a4]? = some (.cells (fr 1 q v n (.slice A8 m m)) 44 (0, 0)) from hbb)
  clear hba hbb hbs ha4 hw3 hcc HB2 HA2 HPC2
  go_wp2_with fail
  refine start_ (n := 5) (S := (fun w' => w'.cell? ⟨a4, 0, none⟩ = some (.int .i64 1) ∧ w'.cell? ⟨a4, 1, none⟩ = some (.int .u16 q) ∧ w'.cell? ⟨a4, 2, none⟩ = some (.int .i64 v) ∧ w'.cell? ⟨a4, 3, none⟩ = some (.int .i64 n) ∧ w'.cell? ⟨a4, 4, none⟩ = some (.slice A8 m m) ∧ w'.cell? ⟨a4, 5, none⟩ = some (.int .u16 0) ∧ w'.cell? ⟨a4, 6, none⟩ = some (.int .u32 0))) (ds := [3]) #[false, false, false, false, false] (by kernel_rfl) rfl rfl HS.out (fun hHeld => ?_)
  refine with_tabW kread2.tab kread2.bits (fun HT_ HW_ => ?_)
  refine take_ (i := 0) (N := some 11) (v := ?_) (a' := ?_) #[true, false, false, false, false] rfl rfl (take_ofW HT_.out HW_.out (by kernel_rfl)) (fun _ _ _ h => h) (Or.inl ⟨by rfl, ?_⟩) hHeld ?_ ?_
  rotate_left
  · rintro w' ⟨s0, s1, s2, s3, s4, s5, s6⟩
    go_simp
    with_reducible rfl
  rotate_left
  · simp only [Act.put, List.setIfInBounds_toArray, List.set_cons_zero, List.set_cons_succ, i64_w, i32_w]
    rfl
  refine pure_ (i := 1) (N := some 12) (v := ?_) (a' := ?_) #[true, true, false, false, false] rfl rfl (any_of HT_.out (by kernel_rfl)) (fun _ _ _ h => h) (Or.inl ⟨by rfl, ?_⟩) ?_ ?_
  rotate_left
  · intro w'
    go_simp
    with_reducible rfl
  rotate_left
  · simp only [Act.put, List.setIfInBounds_toArray, List.set_cons_zero, List.set_cons_succ, i64_w, i32_w]
    rfl
  refine one_ (i := 2) (N := some 13) #[true, true, true, false, false] rfl rfl (one_of HT_.out (by kernel_rfl)) (by decide) (fun K hK => ?_)
  refine goes_ Tryz.func21 (by kernel_rfl) rfl _ (by rfl) rfl rfl (by (try simp only [List.map_toArray, List.map_cons, List.map_nil]); first | done | rfl | (go_simp; done) | simp [Act.eval]) ?_
  refine (told_nil _).mono ?_
  rintro e w4 ⟨rfl, hb⟩
  have HB4 := Aside0.mk (below_step HB3.out hb)
  have HA4 := Aside0.mk ((hb.block a2 (blk_lt HA3.out)).trans HA3.out)
  have HPC4 := Aside0.mk (Kd.C_below HPC3.out hb)
  have HS4 := Aside0.mk (Nat.le_trans HS3.out hb.size)
  have hm := (hb.block a4 (blk_lt HM.out)).trans HM.out
  have hcc := fun i => blk_cell hm i
  refine ⟨_, rfl, ?_⟩
  refine hK.out _ _ ⟨hcc 0, hcc 1, hcc 2, hcc 3, hcc 4, hcc 5, hcc 6⟩ (fun hHeld => ?_)
  clear hK K
  refine norm_ (a' := ?_) ?_ ?_
  rotate_left
  · show Act.put _ (some 13) _ = _
    simp only [Act.put, List.setIfInBounds_toArray, List.set_cons_zero, List.set_cons_succ, i64_w, i32_w]
    rfl
  refine last_ (i := 3) (N := none) #[true, true, true, true, false] rfl rfl (one_of HT_.out (by kernel_rfl)) (by decide) (fun K hK => ?_)
  rw [if_pos (by rfl)]
  refine wp_store_row 44 (.tmp 2) (.tmp 11) rfl a2 (fr 1 q v n (.slice A8 m m)) (by rfl) (by rfl) 44 _ HA4.out fr_size (by rfl) (fr_one 1 q v n A8 m m) ?_
  refine hK.out _ _ ?_
  clear hK K
  refine pure_ (i := 4) (N := some 3) (v := ?_) (a' := ?_) #[true, true, true, true, true] rfl rfl (any_of HT_.out (by kernel_rfl)) (fun _ _ _ h => h) (Or.inl ⟨by rfl, ?_⟩) ?_ ?_
  rotate_left
  · intro w'
    go_simp
    with_reducible rfl
  rotate_left
  · simp only [Act.put, List.setIfInBounds_toArray, List.set_cons_zero, List.set_cons_succ, i64_w, i32_w]
    rfl
  refine done_ (done_of HT_.out (by kernel_rfl)) ?_
  have HF := Aside0.mk (below_setRow HB4.out HA0.out (fr 1 q v n (.slice A8 m m)))
  have HFH := Aside0.mk (setRow_heap w4 a2 _ (fr 1 q v n (.slice A8 m m)) _ _ HA4.out)
  have hpr := Put1.row a2 w4 (fr 1 q v n (.slice A8 m m))
  have HPF := Aside0.mk (C_put HPC4.out hpr (fun d hd => (HBD.out d hd).1))
  have HSF := Aside0.mk hpr.size
  obtain ⟨w5, hw5⟩ : ∃ w5, w5 = w4.setRow a2 (fr 1 q v n (.slice A8 m m)) := ⟨_, rfl⟩
  rw [← hw5] at HF HFH HPF HSF ⊢
  clear hw5 hcc hm hpr
  go_wp2_with fail
  refine bodyPost_ret (results_ct rfl _ _ a2 44 (fr 1 q v n (.slice A8 m m)) (0, 0) _ rfl HFH.out HU.out rfl fr_size) rfl ?_
  exact ⟨A8, rfl, HPF.out, fun d hd => by have := HBD.out d hd; have := HS4.out; have := HSF.out; omega, HF.out⟩
-- YtknanbnjbilciaaGreatDoorPKTrip
theorem bytes_in (l : List Int) (h : ∀ x ∈ l, bit x) (m : Nat) : ∀ x ∈ (List.range m).map (byte l), 0 ≤ x ∧ x ≤ 255 := by
  intro x hx
  simp only [List.mem_map, List.mem_range] at hx
  obtain ⟨j, _, rfl⟩ := hx
  rw [byte_rb l h j]
  exact rb_256 l h j 8 (Nat.le_refl _)
theorem ofl_app (a b : List Int) : ofl (a ++ b) = ofl a ++ ofl b := by unfold ofl; rw [List.flatMap_append]
/-- What a data frame's bytes come to. -/
structure DTrip (q : Int) (v n : Nat) (P bs S BB xs : List Int) : Prop where
  body : bits_Bytes.f 2000 P = some (BB, 0)
  head : bits_Bytes.f 2000 (hk v n q 5) = some (bs, 0)
  seal_ : crc16_Seal.f 2000 bs = some S
  len : S.length + BB.length ≤ 1000
  df : DF 2000 q v n (S ++ BB) xs P
theorem dtrip (q : Int) (v n : Nat) (P : List Int) (hq : 0 ≤ q ∧ q ≤ 65535) (hv : v < 4) (hn : n ≤ 64) (hP : ∀ x ∈ P, isb x) (hl : P.length = nb n) : ∃ bs S BB xs, DTrip q v n P bs S BB xs := by
  obtain ⟨u, rfl⟩ := Int.eq_ofNat_of_zero_le hq.1
  have p0 : putE 1 4 = 0 := putE_ok 1 4 (by decide) (by decide) (by decide)
  have p1 : putE (v : Int) 2 = 0 := putE_ok v 2 (by decide) (by decide) (by omega)
  have p2 : putE 0 2 = 0 := putE_ok 0 2 (by decide) (by decide) (by decide)
  have p3 : putE (n : Int) 8 = 0 := putE_ok n 8 (by decide) (by decide) (by omega)
  have p4 : putE (u : Int) 16 = 0 := putE_ok u 16 (by decide) (by decide) (by have := hq.2; omega)
  have l0 := putL_len 1 4 p0
  have l1 := putL_len (v : Int) 2 p1
  have l2 := putL_len 0 2 p2
  have l3 := putL_len (n : Int) 8 p3
  have l4 := putL_len (u : Int) 16 p4
  obtain ⟨H, hH⟩ : ∃ H, H = hk (v : Int) (n : Int) (u : Int) 5 := ⟨_, rfl⟩
  have hH2 : H = putL 1 4 ++ putL (v : Int) 2 ++ putL 0 2 ++ putL (n : Int) 8 ++ putL (u : Int) 16 := hH
  have hb : ∀ z ∈ H, bit z := by
    intro z hz
    rw [hH2] at hz
    rcases List.mem_append.1 hz with hz | hz
    · rcases List.mem_append.1 hz with hz | hz
      · rcases List.mem_append.1 hz with hz | hz
        · rcases List.mem_append.1 hz with hz | hz
          · exact putL_bit 1 4 (by decide) z hz
          · exact putL_bit (v : Int) 2 (by omega) z hz
        · exact putL_bit 0 2 (by decide) z hz
      · exact putL_bit (n : Int) 8 (by omega) z hz
    · exact putL_bit (u : Int) 16 (by have := hq.2; omega) z hz
  have hlen : H.length = 32 := by rw [hH2]; simp only [List.length_append]; omega
  obtain ⟨bs, hbs⟩ : ∃ bs, bs = (List.range ((H.length + 7) / 8)).map (byte H) := ⟨_, rfl⟩
  have hbl : bs.length = 4 := by rw [hbs, List.length_map, List.length_range, hlen]
  have hbi : ∀ z ∈ bs, 0 ≤ z ∧ z ≤ 255 := by rw [hbs]; exact bytes_in H hb _
  obtain ⟨z, hz, hof⟩ := ofl_bytes H hb
  rw [← hbs] at hof
  have hz0 : z = 0 := by
    have := congrArg List.length hof
    rw [ofl_length, List.length_append, List.length_replicate, hbl, hlen] at this
    omega
  subst hz0
  rw [List.replicate_zero, List.append_nil] at hof
  have hPl : P.length ≤ 600 := by rw [hl]; unfold nb; omega
  obtain ⟨BB, hBB⟩ : ∃ BB, BB = (List.range ((P.length + 7) / 8)).map (byte P) := ⟨_, rfl⟩
  have hBl : BB.length = (nb n + 7) / 8 := by rw [hBB, List.length_map, List.length_range, hl]
  have hBi : ∀ z ∈ BB, 0 ≤ z ∧ z ≤ 255 := by rw [hBB]; exact bytes_in P hP _
  obtain ⟨y, hy, hoB⟩ := ofl_bytes P hP
  rw [← hBB] at hoB
  have hy2 : y = 2 := by
    have := congrArg List.length hoB
    rw [ofl_length, List.length_append, List.length_replicate, hBl, hl] at this
    unfold nb at this
    omega
  subst hy2
  obtain ⟨S, hS⟩ : ∃ S, S = bs ++ two (sum16 bs) := ⟨_, rfl⟩
  have hSl : S.length = 6 := by rw [hS, List.length_append, hbl]; rfl
  have hSi : ∀ z ∈ S, 0 ≤ z ∧ z ≤ 255 := by rw [hS]; exact fun z hz => (List.mem_append.1 hz).elim (hbi z) (two_in _ z)
  have hAi : ∀ z ∈ S ++ BB, 0 ≤ z ∧ z ≤ 255 := fun z hz => (List.mem_append.1 hz).elim (hSi z) (hBi z)
  have hAl : (S ++ BB).length = 6 + (nb n + 7) / 8 := by rw [List.length_append, hSl, hBl]
  have hnb : nb n ≤ 600 := by omega
  have hxs : ofl (S ++ BB) = putL 1 4 ++ (putL (v : Int) 2 ++ (putL 0 2 ++ (putL (n : Int) 8 ++ (putL (u : Int) 16 ++ (ofl (two (sum16 bs)) ++ ofl BB))))) := by
    rw [ofl_app, hS, ofl_app, hof, hH2]; simp only [List.append_assoc]
  obtain ⟨R, hR⟩ : ∃ R, R = ofl (two (sum16 bs)) ++ ofl BB := ⟨_, rfl⟩
  rw [← hR] at hxs
  have t0 := take_put 1 4 (putL (v : Int) 2 ++ (putL 0 2 ++ (putL (n : Int) 8 ++ (putL (u : Int) 16 ++ R)))) p0
  have t1 := take_put (v : Int) 2 (putL 0 2 ++ (putL (n : Int) 8 ++ (putL (u : Int) 16 ++ R))) p1
  have t2 := take_put 0 2 (putL (n : Int) 8 ++ (putL (u : Int) 16 ++ R)) p2
  have t3 := take_put (n : Int) 8 (putL (u : Int) 16 ++ R) p3
  have t4 := take_put (u : Int) 16 R p4
  rw [← hxs] at t0
  have hk6 : (S ++ BB).take 6 = S := by rw [← hSl, List.take_left]
  have hd6 : (S ++ BB).drop 6 = BB := by rw [← hSl, List.drop_left]
  refine ⟨bs, S, BB, ofl (S ++ BB), ?_, ?_, ?_, by rw [hSl, hBl]; omega, ?_⟩
  · rw [hBB]; exact bytes_some hP (by omega) 2000 (by omega)
  · rw [← hH, hbs]; exact bytes_some hb (by omega) 2000 (by omega)
  · rw [hS]; exact seal_f bs (by omega) hbi 2000 (by omega)
  · refine ⟨bof_f _ hAi (by omega) 2000 (by omega), ?_, ?_, hl, hAl, hq, hv, hn, ⟨t0.1, t0.2.1⟩, ?_, ?_, ?_, ?_⟩
    · rw [hk6, rightc_f _ (by omega) hSi 2000 (by omega)]
      refine congrArg some (decide_eq_true ⟨by omega, (sum_end _ hSi (by omega)).2 ?_⟩)
      rw [hSl, hS, List.take_append_of_le_length (by omega), List.take_of_length_le (by omega)]
    · rw [hd6, bof_f _ hBi (by omega) 2000 (by omega), hoB]; rfl
    · rw [t0.2.2]; exact ⟨t1.1, t1.2.1⟩
    · rw [t0.2.2, t1.2.2]; exact ⟨t2.1, t2.2.1⟩
    · rw [t0.2.2, t1.2.2, t2.2.2]; exact ⟨t3.1, t3.2.1⟩
    · rw [t0.2.2, t1.2.2, t2.2.2, t3.2.2]; exact ⟨t4.1, t4.2.1⟩
-- YtknanbnjbilciaaGreatDoorPKLaw
section
section
attribute [local go_sem] run_index_arr

/-- A row of messages. -/
structure Msgs (w : World) (A : Option Addr) (ms : List (List Int)) : Prop where
  len : ms.length ≤ 9223372036854775807
  at_ : ∀ i (h : i < ms.length), ∃ a Ai ci, A = some a ∧ w.cell? (a.add i) = some (.slice Ai ms[i].length ci) ∧ Kd.C (Kd.int .u8) w Ai ms[i].length ms[i] ∧ ms[i].length ≤ ci ∧ byt ms[i]
theorem Msgs.below {w w' : World} {A : Option Addr} {ms : List (List Int)} (h : Msgs w A ms) (hb : Below w.heap.size w w') : Msgs w' A ms := by
  refine ⟨h.len, fun i hi => ?_⟩
  obtain ⟨a, Ai, ci, h1, h2, h3, h4⟩ := h.at_ i hi
  exact ⟨a, Ai, ci, h1, (hb.cell (World.block_lt_of_cell? w _ h2)).trans h2, Kd.C_below h3 hb, h4⟩
/-- Which are done. -/
def dn (ds : List Nat) : Array Value := ((List.range 6).map fun j => Value.bool (decide (j ∈ ds))).toArray
theorem dn_get (ds : List Nat) (j : Nat) (h : j < 6) : (dn ds)[j]? = some (.bool (decide (j ∈ ds))) := by
  unfold dn
  rw [List.getElem?_toArray, List.getElem?_map, List.getElem?_range h]; rfl
theorem dn_set (ds : List Nat) (n : Nat) (h : n < 6) : (dn ds).setIfInBounds n (.bool true) = dn (ds ++ [n]) := by
  apply Array.ext_getElem?
  intro j
  rw [Array.getElem?_setIfInBounds]
  by_cases e : n = j
  · subst e
    rw [if_pos rfl, if_pos (by simp [dn, h]), dn_get _ _ h]; simp
  · rw [if_neg e]
    by_cases c : j < 6
    · rw [dn_get _ _ c, dn_get _ _ c]
      have : (j ∈ ds ++ [n]) ↔ j ∈ ds := by simp [Ne.symm e]
      simp [this, e, Ne.symm e]
    · rw [Array.getElem?_eq_none (by simp [dn]; omega), Array.getElem?_eq_none (by simp [dn]; omega)]
theorem u64_small (n : Nat) (h : n ≤ 1000) : IntKind.u64.wrap (n : Int) = (n : Int) := by unfold IntKind.wrap; simp [IntKind.signed, IntKind.bits]; omega
theorem u64_in (x : Int) : 0 ≤ IntKind.u64.wrap x := by unfold IntKind.wrap; simp [IntKind.signed, IntKind.bits]; omega
theorem key_of (x : Int) (n : Nat) (h : 0 < n) (hn : n ≤ 1000) : ∃ k : Nat, wrap64 (Int.tmod (IntKind.u64.wrap x) (n : Int)) = (k : Int) ∧ k < n := by
  have h0 := u64_in x
  have h1 : Int.tmod (IntKind.u64.wrap x) (n : Int) = IntKind.u64.wrap x % (n : Int) := Int.tmod_eq_emod_of_nonneg h0
  have h2 := Int.emod_nonneg (IntKind.u64.wrap x) (show (n : Int) ≠ 0 by omega)
  have h3 := Int.emod_lt_of_pos (IntKind.u64.wrap x) (show (0 : Int) < (n : Int) by omega)
  rw [h1]
  generalize IntKind.u64.wrap x % (n : Int) = y at h2 h3
  refine ⟨y.toNat, ?_, by omega⟩
  unfold wrap64; omega
theorem C_fg {w w' : World} {A : Option Addr} {P : List Int} {a : Nat} (h : Kd.C (Kd.int .u8) w A P.length P) (hf : Fg a w w') (hA : ∀ d, A = some d → d.block < w.heap.size ∧ d.block ≠ a) : Kd.C (Kd.int .u8) w' A P.length P := by
  have r := Kd.reads_of_C (enc := Value.int .u8) (d := (0 : Int)) (h1 := fun _ => rfl) h
  refine Kd.C_of_reads (enc := Value.int .u8) (d := (0 : Int)) (h1 := fun _ => rfl) ⟨r.1, r.2.1, fun hq => ?_⟩
  obtain ⟨d, hd, hr⟩ := r.2.2 hq
  exact ⟨d, hd, fun j hj => (World.cell?_of_block (a := d.add j) (hf.at _ (by rw [add_block]; exact (hA d hd).1) (by rw [add_block]; exact (hA d hd).2))).trans (hr j hj)⟩
set_option maxRecDepth 100000 in
set_option maxHeartbeats 8000000 in
theorem lawPools.walk {w : World} (A0 : Option Addr) (c0 : Nat) (ms : List (List Int)) (hms : Msgs w A0 ms) 
    (A1 : Option Addr) (c1 : Nat) (l1 : List Int) (hr1 : Kd.C (Kd.int .i64) w A1 l1.length l1) (hc1 : l1.length ≤ c1) (hw1 : ∀ x ∈ l1, (Lit.int .i64 x).wf = true) (_w : World) (hT : TP w := by assumption) :
    Calls Tryz.prog 3 #[.slice A0 ms.length c0, .slice A1 l1.length c1] w fun e w' => e = .returned (.bool true) ∧ Below w.heap.size w w' := by
  have HT := Aside0.mk hT
  have HM := Aside0.mk hms
  have HR1 := Aside0.mk hr1
  have HN := Aside0.mk (show l1.length ≤ 9223372036854775807 by
    have r := Kd.reads_of_C (enc := Value.int .i64) (d := (0 : Int)) (h1 := fun _ => rfl) hr1
    have := r.2.1
    omega)
  obtain ⟨nm, hnm⟩ : ∃ nm, nm = min ms.length 6 := ⟨_, rfl⟩
  have hif : (if (6 : Int) < (ms.length : Int) then (6 : Int) else (ms.length : Int)) = (nm : Int) := by split <;> omega
  have HNM := Aside0.mk (show nm ≤ ms.length ∧ nm ≤ 6 by omega)
  clear hT hms hr1 hc1 hw1 hnm
  go_enter Tryz.func3, Tryz.ntmps3
  go_wp2_with (first
    | (go_at_call 4; refine Aside0.out ?_)
    | fail)
  refine Aside0.mk ?_
  refine (poolNew_calls (w := w) 4 (by decide) (by decide)).mono ?_
  rintro e w1 ⟨gp, mp, rfl, hp, h1, h2, hb⟩
  have HP1 := Aside0.mk hp
  have HG := Aside0.mk (And.intro h1 h2)
  have HB1 := Aside0.mk hb
  have HST := Aside0.mk (shuttletop_stands.calls true w1 stands_ok)
  clear hp h1 h2 hb hif
  go_wp2_with (first
    | (go_at_call 5; refine Aside0.out ?_)
    | fail)
  refine Aside0.mk ?_
  refine HST.out.mono ?_
  rintro e w2 ⟨rfl, hb⟩
  have HP2 := Aside0.mk (HP1.out.below hb)
  have HB2 := Aside0.mk (below_step HB1.out hb)
  clear hb HST HP1 HB1
  go_wp2_with fail
  have hba := below_alloc (Below.refl w2.heap.size w2) (.cells #[.bool false, .bool false, .bool false, .bool false, .bool false, .bool false] 29)
  have hbb : (w2.alloc (.cells #[.bool false, .bool false, .bool false, .bool false, .bool false, .bool false] 29)).heap[w2.heap.size]? = some (.cells (dn []) 29 (0, 0)) := blk_new w2 (.cells #[.bool false, .bool false, .bool false, .bool false, .bool false, .bool false] 29)
  obtain ⟨bd, hbd⟩ : ∃ bd, bd = w2.heap.size := ⟨_, rfl⟩
  obtain ⟨w3, hw3⟩ : ∃ w3, w3 = w2.alloc (.cells #[.bool false, .bool false, .bool false, .bool false, .bool false, .bool false] 29) := ⟨_, rfl⟩
  rw [← hw3] at hba hbb ⊢
  rw [← hbd] at hbb ⊢
  have HP3 := Aside0.mk (HP2.out.below hba)
  have HB3 := Aside0.mk (below_step HB2.out hba)
  have HX3 := Aside0.mk hbb
  have HE := Aside0.mk (show w.heap.size ≤ bd ∧ gp ≠ bd ∧ mp ≠ bd from ⟨by rw [hbd]; exact HB2.out.size, by have := HP2.out.lt; omega, by have := HP2.out.lt; omega⟩)
  clear hba hbb hbd hw3 HP2 HB2
  go_loopw [9] (fun v9 wr => ∃ (i : Nat) (ds : List Nat), v9 = .int .i64 (i : Int) ∧ i ≤ 14 ∧ Aside0 (PO wr gp mp ((4 : Nat) : Int) 0 (.map [])) ∧ Aside0 (wr.heap[bd]? = some (.cells (dn ds) 29 (0, 0))) ∧ Aside0 (Below w.heap.size w wr)) (fun v9 _ => 14 - (intOf v9).toNat)
  case atStart => exact ⟨0, [], by simp, by omega, HP3, HX3, HB3⟩
  case round =>
    clear HP3 HX3 HB3
    obtain ⟨i, ds, rfl, hi, HP, HX, HB⟩ := hrel
    by_cases hlt : i < l1.length
    · have g1 : (i : Int) < (l1.length : Int) := by omega
      by_cases hlt2 : i < 14
      · have g2 : (i : Int) < 14 := by omega
        by_cases hlt3 : 0 < nm
        · have g3 : (0 : Int) < (nm : Int) := by omega
          have hi0 : (0 : Int) ≤ (i : Int) := by omega
          have HI := Aside0.mk hlt2
          obtain ⟨ad, rfl, hcx0⟩ := ReadsOf.at_ (Kd.reads_of_C (enc := Value.int .i64) (d := (0 : Int)) (h1 := fun _ => rfl) (Kd.C_below HR1.out HB.out)) (i : Int) hi0 g1
          rw [Int.toNat_natCast] at hcx0
          obtain ⟨x, hx⟩ : ∃ x, x = rdOf 0 l1 (i : Int) := ⟨_, rfl⟩
          rw [← hx] at hcx0
          obtain ⟨k, hk, hkn⟩ := key_of x nm hlt3 (by have := HNM.out.2; omega)
          have hwn : IntKind.u64.wrap (nm : Int) = (nm : Int) := u64_small nm (by have := HNM.out.2; omega)
          have hnz : ¬ (nm : Int) = 0 := by omega
          have hk0 : (0 : Int) ≤ (k : Int) := by omega
          have hkm : (k : Int) < (ms.length : Int) := by have := HNM.out.1; omega
          have hk6 : (k : Int) < 6 := by have := HNM.out.2; omega
          have hku : IntKind.u16.wrap (k : Int) = (k : Int) := by rw [IntKind.wrap_u16]; omega
          have HK := Aside0.mk (show k < ms.length ∧ k < 6 by have := HNM.out; omega)
          obtain ⟨am, Ak, ck, rfl, hcm, hmC, hmc, hmb⟩ := (HM.out.below HB.out).at_ k HK.out.1
          obtain ⟨mk, hmk⟩ : ∃ mk, mk = ms[k]'HK.out.1 := ⟨_, rfl⟩
          rw [← hmk] at hcm hmC hmc hmb
          have hcut := shuttletop_cut.calls Ak ck mk 5 (mk.take 5) wr hmC hmc (cut_f mk)
          have hMb : byt (mk.take 5) := fun y hy => hmb y (List.mem_of_mem_take hy)
          have hMl : (mk.take 5).length ≤ 5 := by rw [List.length_take]; omega
          obtain ⟨M, hM⟩ : ∃ M, M = mk.take 5 := ⟨_, rfl⟩
          rw [← hM] at hcut hMb hMl
          have HC := Aside0.mk hcut
          have HMM := Aside0.mk (And.intro hMb hMl)
          clear hlt hlt2 hlt3 hi hx hmC hmc hmb hmk hM hcut hMb hMl hkn
          go_wp2_with (first
            | (go_at_call 6; refine Aside0.out ?_)
            | fail)
          refine Aside0.mk ?_
          rw [hk]
          refine HC.out.mono ?_
          rintro e w4 ⟨v11, rfl, hv, hb⟩
          obtain ⟨A11, c11, rfl⟩ := Kd.R_slice hv
          have HVR := Aside0.mk (kversions_calls (TP_of HT.out (below_step HB.out hb)) (Kd.R_reads' hv).2.2 (Kd.R_reads' hv).2.1 HMM.out.1 (by have := HMM.out.2; omega))
          have HV4 := Aside0.mk (Kd.R_mono (Kd.R_bound hv) (ok' := fun k => wr.heap.size ≤ k) (fun k ok => ok.2.1))
          have HP4 := Aside0.mk (HP.out.below hb)
          have HX4 := Aside0.mk ((hb.block bd (blk_lt HX.out)).trans HX.out)
          have HB4 := Aside0.mk (below_step HB.out hb)
          have HBR := Aside0.mk (show mp < wr.heap.size ∧ bd < wr.heap.size from ⟨HP.out.lt.2.1, blk_lt HX.out⟩)
          have HS4 := Aside0.mk hb.size
          obtain ⟨n, hn⟩ : ∃ n, n = M.length := ⟨_, rfl⟩
          rw [← hn] at HVR HV4 ⊢
          have HNN := Aside0.mk hn
          clear hk hv hb hn HC HP HX HB hcx0 hcm hwn hnz
          go_wp2_with (first
            | (go_at_call 7; refine Aside0.out ?_)
            | fail)
          refine Aside0.mk ?_
          refine HVR.out.mono ?_
          rintro e w5 ⟨vs, rfl, hr, hb⟩
          obtain ⟨m, hm⟩ : ∃ m, m = nb n := ⟨_, rfl⟩
          have hm0 : 0 < m := by rw [hm]; unfold nb; omega
          have hone := q4_one (fun u hu => R_one (hr u hu))
          have HPB := Aside0.mk (show ∀ v, v < 4 → ∃ A c, (q4 vs)[v]? = some (.slice A m c) ∧ Kd.C (Kd.int .u8) w5 A m (vp (code (bitsM M)) v m) ∧ m ≤ c from fun v hv => by
            have h := hr v hv
            obtain ⟨g, c, he, h1, h2, _⟩ := Kd.R_form h (by rw [vp_len]; omega)
            rw [he] at h
            have r := Kd.R_reads' h
            rw [vp_len, ← hm] at r
            rw [vp_len, ← hm] at he
            exact ⟨_, c, (q4_get vs hv).trans (congrArg some he), r.2.2, r.2.1⟩)
          have hn5 : n ≤ 5 := by rw [HNN.out]; exact HMM.out.2
          have hm6 : m ≤ 600 := by rw [hm]; unfold nb; omega
          have HMD := Aside0.mk (show m = nb n ∧ n ≤ 5 ∧ m ≤ 600 from ⟨hm, hn5, hm6⟩)
          clear hn5 hm6
          have HP5 := Aside0.mk (HP4.out.below hb)
          have HX5 := Aside0.mk ((hb.block bd (blk_lt HX4.out)).trans HX4.out)
          have HB5 := Aside0.mk (below_step HB4.out hb)
          have HV5 := Aside0.mk (Kd.R_below HV4.out hb)
          have HS5 := Aside0.mk (Nat.le_trans HS4.out hb.size)
          clear hm hm0 hr hb HVR HP4 HX4 HB4 HV4
          go_wp2_with (first
            | (refine wpList_store_row rfl 33 (.tmp 12) (.tmp 67) rfl w5.heap.size (q4 vs) rfl rfl 33 _ (blk_new w5 _) q4_size rfl hone ?_; refine Aside0.out ?_)
            | fail)
          refine Aside0.mk ?_
          have hba := below_alloc (Below.refl w5.heap.size w5) (.cells #[.slice none 0 0, .slice none 0 0, .slice none 0 0, .slice none 0 0] 33)
          have hbb := setRow_heap (w5.alloc (.cells #[.slice none 0 0, .slice none 0 0, .slice none 0 0, .slice none 0 0] 33)) w5.heap.size _ (q4 vs) _ _ (blk_new w5 (.cells #[.slice none 0 0, .slice none 0 0, .slice none 0 0, .slice none 0 0] 33))
          have hbs := below_setRow hba (Nat.le_refl _) (q4 vs)
          obtain ⟨b12, hb12⟩ : ∃ b, b = w5.heap.size := ⟨_, rfl⟩
          obtain ⟨w6, hw6⟩ : ∃ w6, w6 = (w5.alloc (.cells #[.slice none 0 0, .slice none 0 0, .slice none 0 0, .slice none 0 0] 33)).setRow w5.heap.size (q4 vs) := ⟨_, rfl⟩
          rw [← hw6] at hbs hbb ⊢
          rw [← hb12] at hbb ⊢
          obtain ⟨v, hv, hv4⟩ : ∃ v : Nat, Int.tmod (i : Int) 4 = (v : Int) ∧ v < 4 := ⟨i % 4, by rw [Int.tmod_eq_emod_of_nonneg hi0]; omega, by omega⟩
          obtain ⟨Av, cv, hcp, hPC, hPc⟩ := HPB.out v hv4
          have hcv : w6.cell? ⟨b12, v, none⟩ = some (.slice Av m cv) := (blk_cell hbb v).trans hcp
          obtain ⟨P, hP⟩ : ∃ P, P = vp (code (bitsM M)) v m := ⟨_, rfl⟩
          have hPC6 := Kd.C_below hPC hbs
          rw [← hP] at hPC6
          have hPl : P.length = m := by rw [hP, vp_len]
          have hPi : ∀ y ∈ P, isb y := by rw [hP]; exact vp_isb (codeN_isb (bitsM_isb M) _) v m
          obtain ⟨bs, S, BB, xs, HDT⟩ := dtrip (k : Int) v n P (by have := HK.out; omega) hv4 (by have := HMD.out; omega) hPi (by rw [hPl]; exact HMD.out.1)
          rw [← hPl] at hPC6
          have HWR := Aside0.mk (writed_calls hPC6 (by rw [hPl]; exact hPc) hPi (k : Int) (by have := HK.out; omega) v n m hv4 (by have := HMD.out; omega) hPl HMD.out.1 bs S BB 2000 HDT.body HDT.head HDT.seal_ HDT.len (by decide))
          have HP6 := Aside0.mk (HP5.out.below hbs)
          have HX6 := Aside0.mk ((hbs.block bd (blk_lt HX5.out)).trans HX5.out)
          have HB6 := Aside0.mk (below_step HB5.out hbs)
          have HV6 := Aside0.mk (Kd.R_below HV5.out hbs)
          have HS6 := Aside0.mk (Nat.le_trans HS5.out hbs.size)
          have HPP := Aside0.mk (And.intro hP hPl)
          have HDF := Aside0.mk HDT.df
          have HV4' := Aside0.mk hv4
          have hv0 : (0 : Int) ≤ (v : Int) := by omega
          have hv4' : (v : Int) < 4 := by omega
          clear hba hbb hbs hb12 hw6 hone hcp hPC hPc hP hPC6 hPl hPi HDT hv4 HPB HP5 HX5 HB5 HV5 HS5
          go_wp2_with (first
            | (go_at_call 8; refine Aside0.out ?_)
            | fail)
          refine Aside0.mk ?_
          refine HWR.out.mono ?_
          rintro e w7 ⟨u7, rfl, hu, hb⟩
          obtain ⟨FB, hFB⟩ : ∃ FB, FB = S ++ BB := ⟨_, rfl⟩
          rw [← hFB] at hu HDF
          obtain ⟨A15, c15, rfl⟩ := Kd.R_slice hu
          have hrd := readd_calls (Kd.R_reads' hu).2.2 (Kd.R_reads' hu).2.1 HDF.out
          rw [← HMD.out.1] at hrd
          obtain ⟨LF, hLF⟩ : ∃ LF, LF = FB.length := ⟨_, rfl⟩
          rw [← hLF] at hrd ⊢
          have HRD := Aside0.mk hrd
          have HP7 := Aside0.mk (HP6.out.below hb)
          have HX7 := Aside0.mk ((hb.block bd (blk_lt HX6.out)).trans HX6.out)
          have HB7 := Aside0.mk (below_step HB6.out hb)
          have HV7 := Aside0.mk (Kd.R_below HV6.out hb)
          have HS7 := Aside0.mk (Nat.le_trans HS6.out hb.size)
          clear hFB hLF hu hb hrd hcv hv HWR HP6 HX6 HB6 HV6 HS6
          go_wp2_with (first
            | (go_at_call 9; refine Aside0.out ?_)
            | fail)
          refine Aside0.mk ?_
          refine HRD.out.mono ?_
          rintro e w8 ⟨A8, rfl, hpc, hbd, hb⟩
          have HP8 := Aside0.mk (HP7.out.below hb)
          have HX8 := Aside0.mk ((hb.block bd (blk_lt HX7.out)).trans HX7.out)
          have HB8 := Aside0.mk (below_step HB7.out hb)
          have HV8 := Aside0.mk (Kd.R_below HV7.out hb)
          have HS8 := Aside0.mk (Nat.le_trans HS7.out hb.size)
          have HPC8 := Aside0.mk hpc
          have HBD := Aside0.mk (show ∀ d, A8 = some d → wr.heap.size ≤ d.block ∧ d.block < w8.heap.size from fun d hd => by have := hbd d hd; have := HS7.out; omega)
          clear hpc hbd hb HRD HDF HP7 HX7 HB7 HV7 HS7
          go_wp2_with (first
            | (refine wpList_store_row rfl 44 (.tmp 17) (.tmp 89) rfl w8.heap.size (fr 1 k v n (.slice A8 m m)) rfl rfl 44 _ (blk_new w8 _) fr_size rfl (fr_one 1 k v n A8 m m) ?_; refine Aside0.out ?_)
            | fail)
          refine Aside0.mk ?_
          have hba := below_alloc (Below.refl w8.heap.size w8) (.cells (f0 0 0 0 0) 44)
          have hbb := setRow_heap (w8.alloc (.cells (f0 0 0 0 0) 44)) w8.heap.size _ (fr 1 k v n (.slice A8 m m)) _ _ (blk_new w8 (.cells (f0 0 0 0 0) 44))
          have hbs := below_setRow hba (Nat.le_refl _) (fr 1 k v n (.slice A8 m m))
          obtain ⟨b17, hb17⟩ : ∃ b17, b17 = w8.heap.size := ⟨_, rfl⟩
          obtain ⟨w9, hw9⟩ : ∃ w9, w9 = (w8.alloc (.cells (f0 0 0 0 0) 44)).setRow w8.heap.size (fr 1 k v n (.slice A8 m m)) := ⟨_, rfl⟩
          rw [← hw9] at hbs hbb
          show wpList _ _ _ _ _ ((w8.alloc (.cells (f0 0 0 0 0) 44)).setRow w8.heap.size (fr 1 k v n (.slice A8 m m)))
          rw [← hw9]
          rw [← hb17] at hbb ⊢
          have HP9 := Aside0.mk (HP8.out.below hbs)
          have HX9 := Aside0.mk ((hbs.block bd (blk_lt HX8.out)).trans HX8.out)
          have HB9 := Aside0.mk (below_step HB8.out hbs)
          have HV9 := Aside0.mk (Kd.R_below HV8.out hbs)
          have HS9 := Aside0.mk (Nat.le_trans HS8.out hbs.size)
          have HPC9 := Aside0.mk (Kd.C_below HPC8.out hbs)
          have HBD9 := Aside0.mk (show ∀ d, A8 = some d → wr.heap.size ≤ d.block ∧ d.block < w9.heap.size from fun d hd => by have := HBD.out d hd; have := hbs.size; omega)
          have HF9 := Aside0.mk hbb
          have HG17 := Aside0.mk (show wr.heap.size ≤ b17 ∧ b17 < w9.heap.size from ⟨by rw [hb17]; exact HS8.out, blk_lt hbb⟩)
          clear hba hbb hbs hb17 hw9 HP8 HX8 HB8 HV8 HS8 HPC8 HBD
          by_cases hdn : k ∈ ds
          · have hcd : w9.cell? ⟨bd, k, none⟩ = some (.bool true) := by rw [blk_cell HX9.out, dn_get _ _ HK.out.2, decide_eq_true hdn]
            have HFIN := Aside0.mk (And.intro HP9.out (And.intro HX9.out HB9.out))
            clear hdn
            go_wp2_with fail
            exact ⟨⟨i + 1, ds, by simp, by have := HI.out; omega, HP9, HX9, HB9⟩, by
              have hz : ∀ z : Int, intOf (Value.int IntKind.i64 z) = z := fun z => rfl
              have := HI.out
              rw [hz, hz]; omega⟩
          · have hcd : w9.cell? ⟨bd, k, none⟩ = some (.bool false) := by rw [blk_cell HX9.out, dn_get _ _ HK.out.2, decide_eq_false hdn]
            have hc1 : w9.cell? ⟨b17, 1, none⟩ = some (.int .u16 k) := blk_cell HF9.out 1
            have hc3 : w9.cell? ⟨b17, 3, none⟩ = some (.int .i64 n) := blk_cell HF9.out 3
            clear hdn
            go_wp2_with (first
              | (go_at_call 10; refine Aside0.out ?_)
              | fail)
            refine Aside0.mk ?_
            have hgv := give_calls HP9.out (by decide) 0 (k : Int) (by have := HK.out; omega) (n := n) (N := 8 * (n + 4)) (by have := HMD.out; omega) rfl
            have HL9 := Aside0.mk (show gp < w9.heap.size ∧ mp < w9.heap.size ∧ bd < w9.heap.size ∧ 2 < w9.heap.size ∧ w.heap.size ≤ w9.heap.size from ⟨HP9.out.lt.1, HP9.out.lt.2.1, blk_lt HX9.out, Nat.lt_of_lt_of_le HT.out.lt HB9.out.size, HB9.out.size⟩)
            have HV9' := Aside0.mk (Kd.R_mono (Kd.R_bound HV9.out) (ok' := fun k => wr.heap.size ≤ k ∧ k < w9.heap.size) (fun k ok => ⟨ok.1, ok.2.2.1⟩))
            refine hgv.mono ?_
            rintro e w10 ⟨q, g, h, rfl, hpo, hq, hbu, h1, h2, h3, hf⟩
            have HP10 := Aside0.mk hpo
            have HS10 := Aside0.mk hf.size
            have HF10 := Aside0.mk (hf.below_far HF9.out (by have := HG17.out; have := HBR.out; omega))
            have HX10 := Aside0.mk (hf.below_far HX9.out (by have := HE.out; omega))
            have HB10 := Aside0.mk (HB9.out.trans (hf.to_below HG.out.2 HB9.out.size))
            have HV10 := Aside0.mk (Kd.R_step HV9'.out (fun j ok hj => hf.at j hj (by have := ok.1; have := HBR.out; omega)))
            have HPC10 := Aside0.mk (C_fg HPC9.out hf (fun d hd => by have := HBD9.out d hd; have := HBR.out; omega))
            have ho := offer_calls (w := w10) (TP_of HT.out HB10.out) (S := w9.heap.size) HL9.out.2.2.2.1 hf.size (q := q) (g := g) (h := h) (M := M) HMM.out.1 (by have := HMM.out.2; omega) (by rw [← HNN.out]; exact hq) (by rw [← HNN.out]; exact hbu) ⟨h1, h2, h3⟩ v HV4'.out (A := A8) (P := P) (c := m) HPC10.out (by rw [HPP.out.2]; exact Nat.le_refl _) (by rw [← HNN.out, ← HMD.out.1]; exact HPP.out.1) (fun d hd => by have := HBD9.out d hd; have := hbu.lo; omega)
            rw [← HNN.out, ← HMD.out.1] at ho
            have HOF := Aside0.mk ho
            have hc2 : w10.cell? ⟨b17, 2, none⟩ = some (.int .i64 v) := blk_cell HF10.out 2
            have hc3' : w10.cell? ⟨b17, 3, none⟩ = some (.int .i64 n) := blk_cell HF10.out 3
            have hc4 : w10.cell? ⟨b17, 4, none⟩ = some (.slice A8 m m) := blk_cell HF10.out 4
            clear hgv hpo hq hbu h1 h2 h3 hf ho hc1 hc3 hcd HP9 HX9 HF9 HB9 HV9 HV9' HPC9
            go_wp2_with (first
              | (go_at_call 11; refine Aside0.out ?_)
              | fail)
            refine Aside0.mk ?_
            refine HOF.out.mono ?_
            rintro e w11 ⟨u21, rfl, hu, hb⟩
            have HP11 := Aside0.mk (HP10.out.low HL9.out.1 HL9.out.2.1 hb)
            have HF11 := Aside0.mk ((hb.block b17 HG17.out.2).trans HF10.out)
            have HX11 := Aside0.mk ((hb.block bd HL9.out.2.2.1).trans HX10.out)
            have hv11 := Kd.R_step HV10.out (fun j ok hj => hb.block j ok.2)
            have HB11 := Aside0.mk (HB10.out.trans (below_less hb HL9.out.2.2.2.2))
            obtain ⟨u5, hu5⟩ : ∃ u5, u5 = u21 := ⟨_, rfl⟩
            rw [← hu5] at hu ⊢
            have hcva := own_string (P := Tryz.prog) Tryz.underlying31 Tryz.underlying5 Tryz.underlying9 (Kd.own_of_R hu)
            have hcvb := own_string (P := Tryz.prog) Tryz.underlying31 Tryz.underlying5 Tryz.underlying9 (Kd.own_of_R hv11)
            have hc1 : w11.cell? ⟨b17, 1, none⟩ = some (.int .u16 k) := blk_cell HF11.out 1
            have HDP := Aside0.mk (drop_calls (k : Int) (by have := HK.out; omega) HP11.out)
            clear hu5 hu hv11 hb HOF hc2 hc3' hc4 HP10 HF10 HX10 HB10 HV10 HPC10 HS10
            go_wp2_with (first
              | (go_at_call 12; refine Aside0.out ?_)
              | fail)
            refine Aside0.mk ?_
            refine HDP.out.mono ?_
            rintro e w12 ⟨rfl, hpo, hpt⟩
            have HP12 := Aside0.mk hpo
            have HX12 := Aside0.mk ((hpt.block bd (by have := HE.out; omega)).trans HX11.out)
            have HB12 := Aside0.mk (HB11.out.trans (hpt.below HG.out.2))
            clear hpo hpt HDP hcva hcvb hc1 HP11 HF11 HX11 HB11
            have hcd : w12.cell? ⟨bd, k, none⟩ = some (.bool (decide (k ∈ ds))) := (blk_cell HX12.out k).trans (dn_get _ _ HK.out.2)
            have hfd := blk_frozen HX12.out k
            go_wp2_with fail
            have hpt := Put1.set bd k w12 (.bool true)
            exact ⟨⟨i + 1, ds ++ [k], by simp, by have := HI.out; omega, ⟨HP12.out.keep (hpt.block gp HE.out.2.1) (hpt.block mp HE.out.2.2)⟩, ⟨blk_put HX12.out k _ (dn_set ds k HK.out.2)⟩, ⟨HB12.out.trans (hpt.below HE.out.1)⟩⟩, by
              have hz : ∀ z : Int, intOf (Value.int IntKind.i64 z) = z := fun z => rfl
              have := HI.out
              rw [hz, hz]; omega⟩
        · have g3 : ¬ (0 : Int) < (nm : Int) := by omega
          clear hlt hlt2 hlt3 hi
          have HLN := Aside0.mk (plen_calls HP.out)
          go_wp2_with (first
            | (go_at_call 13; refine Aside0.out ?_)
            | fail)
          refine Aside0.mk ?_
          refine HLN.out.mono ?_
          rintro e w9 ⟨rfl, hb⟩
          have HB9 := Aside0.mk (below_step HB.out hb)
          clear hb HLN HP HB
          go_wp2_with fail
          have hrs : (Tryz.f3).results = #[.tmp 4] := by kernel_rfl
          refine bodyPost_ret (results_tmp hrs _ _ _) rfl ?_
          exact ⟨by simp, HB9.out⟩
      · have g2 : ¬ (i : Int) < 14 := by omega
        clear hlt hlt2 hi
        have HLN := Aside0.mk (plen_calls HP.out)
        go_wp2_with (first
          | (go_at_call 13; refine Aside0.out ?_)
          | fail)
        refine Aside0.mk ?_
        refine HLN.out.mono ?_
        rintro e w9 ⟨rfl, hb⟩
        have HB9 := Aside0.mk (below_step HB.out hb)
        clear hb HLN HP HB
        go_wp2_with fail
        have hrs : (Tryz.f3).results = #[.tmp 4] := by kernel_rfl
        refine bodyPost_ret (results_tmp hrs _ _ _) rfl ?_
        exact ⟨by simp, HB9.out⟩
    · have g1 : ¬ (i : Int) < (l1.length : Int) := by omega
      clear hlt hi
      have HLN := Aside0.mk (plen_calls HP.out)
      go_wp2_with (first
        | (go_at_call 13; refine Aside0.out ?_)
        | fail)
      refine Aside0.mk ?_
      refine HLN.out.mono ?_
      rintro e w9 ⟨rfl, hb⟩
      have HB9 := Aside0.mk (below_step HB.out hb)
      clear hb HLN HP HB
      go_wp2_with fail
      have hrs : (Tryz.f3).results = #[.tmp 4] := by kernel_rfl
      refine bodyPost_ret (results_tmp hrs _ _ _) rfl ?_
      exact ⟨by simp, HB9.out⟩
end
end
end Go.Proofs.YtknanbnjbilciaaGreatDoor.P
namespace Go.Proofs.YtknanbnjbilciaaGreatDoor.P
open Go Go.RowKit Go.ChangeShapes Go.WideShapes Go.Deep Go.ChangeAt Go.Proofs.YtknanbnjbilciaaGreatDoorW.PrintWords Go.Proofs.YtknanbnjbilciaaGreatDoorW.PrintLast Go.Proofs.YtknanbnjbilciaaGreatDoorW.PrintMore
set_option linter.unusedVariables false
set_option linter.unusedSimpArgs false
-- YtknanbnjbilciaaGreatDoorPMsgRow
theorem list_of {α : Type} {p : Nat → α → Prop} (n : Nat) (h : ∀ i, i < n → ∃ x, p i x) : ∃ l : List α, l.length = n ∧ ∀ i (hi : i < l.length), p i l[i] := by
  induction n with
  | zero => exact ⟨[], rfl, fun i hi => absurd hi (by simp)⟩
  | succ n ih =>
    obtain ⟨l, hl, hp⟩ := ih (fun i hi => h i (by omega))
    obtain ⟨x, hx⟩ := h n (by omega)
    refine ⟨l ++ [x], by simp [hl], fun i hi => ?_⟩
    rw [List.length_append, List.length_singleton] at hi
    by_cases e : i < l.length
    · rw [List.getElem_append_left e]; exact hp i e
    · have : i = n := by omega
      subst this
      rw [List.getElem_append_right (by omega)]
      simpa [hl] using hx
theorem open_text {H : Type} {enc : TypeId × Value → H} {W : World} {base fuel : Nat} {held : Bool} {v : Value} {y : DataW H × List MemPlace}
    (h : DataW.trod enc Tryz.prog W base (fun _ => true) held fuel 31 [v] = some y) :
    ∃ l : List Int, ∃ A c, v = .slice A l.length c ∧ Kd.C (Kd.int .u8) W A l.length l ∧ l.length ≤ c ∧ byt l := by
  rcases open_ints Tryz.underlying31 Tryz.underlying5 (by kernel_rfl) h with ⟨hcs, _⟩ | ⟨x, len, cap, zs, hcs, _, hl, hm, hz, _, hcell, hwz⟩
  · injection hcs with hcs
    subst hcs
    exact ⟨[], none, 0, rfl, Kd.C_of_reads (enc := Value.int .u8) (d := (0 : Int)) (h1 := fun _ => rfl) ⟨rfl, by simp, fun h => absurd h (Nat.lt_irrefl 0)⟩, Nat.le_refl _, fun x hx => nomatch hx⟩
  · injection hcs with hcs
    subst hcs
    have hz' : zs.length = cap := by simpa using hz
    obtain ⟨l, e, hr, hm2, hw, hc⟩ := ReadsInt.ofRowC (a := some x) (len := len) (cap := cap) (k := .u8) (w := W) (zs := zs) (.inr ⟨x, rfl, hl, hm, hz', hcell, hwz⟩)
    subst e
    exact ⟨l, some x, cap, rfl, Kd.C_of_reads (d := (0 : Int)) (h1 := fun _ => rfl) hr, hc, u8_of_wf hw⟩
theorem open_msgs {H : Type} {enc : TypeId × Value → H} {W : World} {base : Nat} {held : Bool} {a : Option Addr} {len cap : Nat} {d : DataW H} {ps : List MemPlace}
    (h : DataW.Trod enc Tryz.prog W base (fun _ => true) held 22 (.slice a len cap) d ps) :
    ∃ ms : List (List Int), len = ms.length ∧ Msgs W a ms := by
  obtain ⟨fuel, hf⟩ := h
  rcases open_slice1 Tryz.underlying22 (by kernel_rfl) hf with ⟨hcs, _⟩ | ⟨x, l, c, m, n, V, D, Pl, hcs, _, hl, hm, hmm, _, hc⟩
  · simp [Value.cells] at hcs
    obtain ⟨rfl, rfl, rfl⟩ := hcs
    exact ⟨[], rfl, ⟨by simp, fun i hi => absurd hi (by simp)⟩⟩
  · simp [Value.cells] at hcs
    obtain ⟨rfl, rfl, rfl⟩ := hcs
    have hlm : len ≤ m := by rw [hmm]; split <;> omega
    obtain ⟨L, hL, hp⟩ := list_of (p := fun i (q : List Int) => ∃ A c, W.cell? (x.add i) = some (.slice A q.length c) ∧ Kd.C (Kd.int .u8) W A q.length q ∧ q.length ≤ c ∧ byt q) len (fun i hi => by
      obtain ⟨h0, t0⟩ := hc i (by omega)
      obtain ⟨q, A, c, rfl', h1, h2, h3⟩ := open_text t0
      exact ⟨q, A, c, by rw [h0, rfl'], h1, h2, h3⟩)
    refine ⟨L, hL.symm, ⟨by unfold maxLen at hm; omega, fun i hi => ?_⟩⟩
    obtain ⟨A, c, h1, h2, h3, h4⟩ := hp i hi
    exact ⟨x, A, c, rfl, h1, h2, h3, h4⟩
end Go.Proofs.YtknanbnjbilciaaGreatDoor.P
