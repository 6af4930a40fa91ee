-- Made by xprint.py (an own driver round the kit's print.py), with contracts of this session's own. Lean checks it.
import Derived.Test.YtkhpgjojbdgkfaaCPlain
import Derived.Test.YtkhpgjojbdgkfaaC0
import Derived.Test.YtkhpgjojbdgkfaaC3
import Derived.Test.YtkhpgjojbdgkfaaC7
import Derived.Test.YtkhpgjojbdgkfaaC9
namespace Go.Proofs.Ytkhpgjojbdgkfaa.C
open Go.RowKit Go.Proofs.YtkhpgjojbdgkfaaW.PrintWords Go.Proofs.YtkhpgjojbdgkfaaW.PrintLast Go.Proofs.YtkhpgjojbdgkfaaW.PrintMore
attribute [local go_sem] max2_int min2_int max_two min_two max_three min_three max_four min_four   -- for this text's walks alone
set_option linter.unusedVariables false
set_option linter.unusedSimpArgs false

/-! ### shuttlelaw04_Crc32Bursts: function 10 -/
def shuttlelaw04_Crc32Bursts.l0 : Nat → Int → List Int → Int → Int → Option (Bool)
  | 0, _, _, _, _ => none
  | k + 1, x2, x7, x10, x11 => if x11 < 32 then (if 0 ≤ x11 then (if (Go.bits .and .u32 (shr .u32 x2 x11) 1) = 1 then (if 0 ≤ (wrap64 (Int.tdiv (wrap64 (x10 + x11)) 8)) then (if (wrap64 (Int.tdiv (wrap64 (x10 + x11)) 8)) < (x7.length : Int) then (if 0 ≤ (Int.tmod (wrap64 (x10 + x11)) 8) then (shuttlelaw04_Crc32Bursts.l0 k x2 (x7.set ((wrap64 (Int.tdiv (wrap64 (x10 + x11)) 8)) : Int).toNat (Go.bits .xor .u8 (rd x7 (wrap64 (Int.tdiv (wrap64 (x10 + x11)) 8))) (shl .u8 1 (Int.tmod (wrap64 (x10 + x11)) 8)))) x10 (wrap64 (x11 + 1))) else (none)) else (none)) else (none)) else (shuttlelaw04_Crc32Bursts.l0 k x2 x7 x10 (wrap64 (x11 + 1)))) else (none)) else ((crc32_Open.f k x7).bind fun bt191 => (some (!bt191.2)))
def shuttlelaw04_Crc32Bursts.f (k : Nat) (l0 : List Int) (a1 : Int) (a2 : Int) : Option (Bool) := if 0 ≤ (mn (l0.length : Int) 100) then (if (mn (l0.length : Int) 100) ≤ (l0.length : Int) then ((crc32_Close.f k (l0.take ((mn (l0.length : Int) 100) : Int).toNat)).bind fun t181 => ((crc32_Open.f k t181).bind fun bt184 => ((shuttlelaw04_sums.f).bind fun t188 => (if t188 = true then (if bt184.2 = true then (if (strOfNums bt184.1).toList = (strOfNums (l0.take ((mn (l0.length : Int) 100) : Int).toNat)).toList then (if (t181.length : Int) = (wrap64 (((l0.take ((mn (l0.length : Int) 100) : Int).toNat).length : Int) + 4)) then (if a2 = 0 then (some true) else (if (IntKind.u64.wrap (wrap64 ((wrap64 (8 * (t181.length : Int))) - 31))) = 0 then (none) else (shuttlelaw04_Crc32Bursts.l0 k a2 t181 (wrap64 (Int.tmod (IntKind.u64.wrap (a1)) (IntKind.u64.wrap (wrap64 ((wrap64 (8 * (t181.length : Int))) - 31))))) 0))) else (none)) else (none)) else (none)) else (none))))) else (none)) else (none)
theorem shuttlelaw04_Crc32Bursts.mono_l : ∀ k, (∀ y0 y1 y2 y3, LeO (shuttlelaw04_Crc32Bursts.l0 k y0 y1 y2 y3) (shuttlelaw04_Crc32Bursts.l0 (k + 1) y0 y1 y2 y3))
  | 0 => fun _ _ _ _ r h => by simp [shuttlelaw04_Crc32Bursts.l0] at h
  | k + 1 => by
    have ih0 := shuttlelaw04_Crc32Bursts.mono_l k
    · intro y0 y1 y2 y3
      unfold shuttlelaw04_Crc32Bursts.l0
      repeat' first
      | (with_reducible exact ih0 _ _ _ _)
      | (with_reducible exact crc32_Close.mono _ _)
      | (with_reducible exact crc32_Open.mono _ _)
      | (with_reducible exact LeO.refl _)
      | (with_reducible exact LeO.none _)
      | (with_reducible refine LeO.ite ?_ ?_)
      | (with_reducible refine LeO.bind ?_ (fun _ => ?_))
      | exact ih0 _ _ _ _
      | exact crc32_Close.mono _ _
      | exact crc32_Open.mono _ _
      | exact LeO.none _
      | refine LeO.ite ?_ ?_
      | refine LeO.bind ?_ (fun _ => ?_)
theorem shuttlelaw04_Crc32Bursts.mono : ∀ a0 a1 a2 k, LeO (shuttlelaw04_Crc32Bursts.f k a0 a1 a2) (shuttlelaw04_Crc32Bursts.f (k + 1) a0 a1 a2) := by
  intro a0 a1 a2 k
  have ih0 := shuttlelaw04_Crc32Bursts.mono_l k
  unfold shuttlelaw04_Crc32Bursts.f
  repeat' first
      | (with_reducible exact ih0 _ _ _ _)
      | (with_reducible exact crc32_Close.mono _ _)
      | (with_reducible exact crc32_Open.mono _ _)
      | (with_reducible exact LeO.refl _)
      | (with_reducible exact LeO.none _)
      | (with_reducible refine LeO.ite ?_ ?_)
      | (with_reducible refine LeO.bind ?_ (fun _ => ?_))
      | exact ih0 _ _ _ _
      | exact crc32_Close.mono _ _
      | exact crc32_Open.mono _ _
      | exact LeO.none _
      | refine LeO.ite ?_ ?_
      | refine LeO.bind ?_ (fun _ => ?_)
def shuttlelaw04_Crc32Bursts.T13 : Bool × List (List Nat × List Nat) := (true, [([], []), ([], []), ([], []), ([1, 2], [1, 2]), ([3], [3]), ([0, 4], [0, 4]), ([5], [5]), ([], []), ([], []), ([7, 8], [7, 8]), ([9], [9]), ([10], [10]), ([6, 11], [6, 11]), ([0, 4, 0, 1, 2, 3, 4, 5, 6, 7, 8, 9, 10, 11, 12], [0, 4]), ([13, 12, 0, 1, 2, 3, 4, 5, 6, 7, 8, 9, 10, 11, 12], [12, 13])])
def shuttlelaw04_Crc32Bursts.B13 : List Nat := [0, 0, 0, 6, 14, 31, 63, 0, 0, 384, 896, 1920, 4095, 8191, 16383]
theorem shuttlelaw04_Crc32Bursts.tab13 : rtab .any (opsOf Try.f10 13) = shuttlelaw04_Crc32Bursts.T13 := by kernel_rfl
theorem shuttlelaw04_Crc32Bursts.bits13 : waitsOk shuttlelaw04_Crc32Bursts.T13.2 shuttlelaw04_Crc32Bursts.B13 = true := by kernel_rfl
set_option maxHeartbeats 8000000 in
set_option maxRecDepth 100000 in
theorem shuttlelaw04_Crc32Bursts.calls (k : Nat) (A0 : Option Addr) (c0 : Nat) (l0 : List Int) (a1 : Int) (a2 : Int) (r : Bool) (w : World) (hr0 : Kd.C (Kd.int .u8) w A0 l0.length l0) (hc0 : l0.length ≤ c0) (h : shuttlelaw04_Crc32Bursts.f k l0 a1 a2 = some r) :
    Calls Try.prog 10 #[.slice A0 l0.length c0, .int .i64 a1, .int .u32 a2] w fun e w' => e = .returned (.bool r) ∧ Below w.heap.size w w' := by
  have HR0 := Aside0.mk hr0
  have HC0 := Aside0.mk hc0
  clear hr0 hc0
  have HB := Aside0.mk (Below.refl w.heap.size w)
  have H : (if 0 ≤ (mn (l0.length : Int) 100) then (if (mn (l0.length : Int) 100) ≤ (l0.length : Int) then ((crc32_Close.f k (l0.take ((mn (l0.length : Int) 100) : Int).toNat)).bind fun t181 => ((crc32_Open.f k t181).bind fun bt184 => ((shuttlelaw04_sums.f).bind fun t188 => (if t188 = true then (if bt184.2 = true then (if (strOfNums bt184.1).toList = (strOfNums (l0.take ((mn (l0.length : Int) 100) : Int).toNat)).toList then (if (t181.length : Int) = (wrap64 (((l0.take ((mn (l0.length : Int) 100) : Int).toNat).length : Int) + 4)) then (if a2 = 0 then (some true) else (if (IntKind.u64.wrap (wrap64 ((wrap64 (8 * (t181.length : Int))) - 31))) = 0 then (none) else (shuttlelaw04_Crc32Bursts.l0 k a2 t181 (wrap64 (Int.tmod (IntKind.u64.wrap (a1)) (IntKind.u64.wrap (wrap64 ((wrap64 (8 * (t181.length : Int))) - 31))))) 0))) else (none)) else (none)) else (none)) else (none))))) else (none)) else (none)) = some r := h
  clear h
  obtain ⟨ji4, hji4⟩ : ∃ j_ : Int, (mn (l0.length : Int) 100) = j_ := ⟨_, rfl⟩
  replace H : (if 0 ≤ (ji4) then (if (ji4) ≤ (l0.length : Int) then ((crc32_Close.f k (l0.take ((ji4) : Int).toNat)).bind fun t181 => ((crc32_Open.f k t181).bind fun bt184 => ((shuttlelaw04_sums.f).bind fun t188 => (if t188 = true then (if bt184.2 = true then (if (strOfNums bt184.1).toList = (strOfNums (l0.take ((ji4) : Int).toNat)).toList then (if (t181.length : Int) = (wrap64 (((l0.take ((ji4) : Int).toNat).length : Int) + 4)) then (if a2 = 0 then (some true) else (if (IntKind.u64.wrap (wrap64 ((wrap64 (8 * (t181.length : Int))) - 31))) = 0 then (none) else (shuttlelaw04_Crc32Bursts.l0 k a2 t181 (wrap64 (Int.tmod (IntKind.u64.wrap (a1)) (IntKind.u64.wrap (wrap64 ((wrap64 (8 * (t181.length : Int))) - 31))))) 0))) else (none)) else (none)) else (none)) else (none))))) else (none)) else (none)) = some r := by first | (rw [hji4] at H; exact H) | (simp only [hji4] at H ⊢; exact H)
  (try (have hji4h : ji4 ≤ 100 := by (rw [← hji4]; unfold mn; (repeat' split) <;> omega)))
  (try (have hji4g : ji4 ≤ 64 := by omega))
  (try (have hji4l : 0 ≤ ji4 := by (rw [← hji4]; unfold mn; (repeat' split) <;> omega)))
  (try (have hji4m : 0 ≤ ji4 := by omega))
  have hji4_ : (if 100 < (l0.length : Int) then 100 else (l0.length : Int)) = ji4 := hji4
  by_cases c5 : 0 ≤ (ji4)
  · rw [if_pos c5] at H
    have c5b0 := eq_true c5
    have c5b1 : decide (0 ≤ (ji4)) = true := decide_eq_true c5
    clear c5
    by_cases c6 : (ji4) ≤ (l0.length : Int)
    · rw [if_pos c6] at H
      have c6b0 := eq_true c6
      have c6b1 : decide ((ji4) ≤ (l0.length : Int)) = true := decide_eq_true c6
      clear c6
      replace H := Option.bind_eq_some_iff.mp H
      obtain ⟨t181, A70, H⟩ := H
      replace H : ((crc32_Open.f k t181).bind fun bt184 => ((shuttlelaw04_sums.f).bind fun t188 => (if t188 = true then (if bt184.2 = true then (if (strOfNums bt184.1).toList = (strOfNums (l0.take ((ji4) : Int).toNat)).toList then (if (t181.length : Int) = (wrap64 (((l0.take ((ji4) : Int).toNat).length : Int) + 4)) then (if a2 = 0 then (some true) else (if (IntKind.u64.wrap (wrap64 ((wrap64 (8 * (t181.length : Int))) - 31))) = 0 then (none) else (shuttlelaw04_Crc32Bursts.l0 k a2 t181 (wrap64 (Int.tmod (IntKind.u64.wrap (a1)) (IntKind.u64.wrap (wrap64 ((wrap64 (8 * (t181.length : Int))) - 31))))) 0))) else (none)) else (none)) else (none)) else (none)))) = some r := H
      have A7 := Aside0.mk A70
      clear A70
      replace H := Option.bind_eq_some_iff.mp H
      obtain ⟨⟨t184, t185⟩, A80, H⟩ := H
      replace H : ((shuttlelaw04_sums.f).bind fun t188 => (if t188 = true then (if t185 = true then (if (strOfNums t184).toList = (strOfNums (l0.take ((ji4) : Int).toNat)).toList then (if (t181.length : Int) = (wrap64 (((l0.take ((ji4) : Int).toNat).length : Int) + 4)) then (if a2 = 0 then (some true) else (if (IntKind.u64.wrap (wrap64 ((wrap64 (8 * (t181.length : Int))) - 31))) = 0 then (none) else (shuttlelaw04_Crc32Bursts.l0 k a2 t181 (wrap64 (Int.tmod (IntKind.u64.wrap (a1)) (IntKind.u64.wrap (wrap64 ((wrap64 (8 * (t181.length : Int))) - 31))))) 0))) else (none)) else (none)) else (none)) else (none))) = some r := H
      have A8 := Aside0.mk A80
      clear A80
      replace H := Option.bind_eq_some_iff.mp H
      obtain ⟨t188, A90, H⟩ := H
      replace H : (if t188 = true then (if t185 = true then (if (strOfNums t184).toList = (strOfNums (l0.take ((ji4) : Int).toNat)).toList then (if (t181.length : Int) = (wrap64 (((l0.take ((ji4) : Int).toNat).length : Int) + 4)) then (if a2 = 0 then (some true) else (if (IntKind.u64.wrap (wrap64 ((wrap64 (8 * (t181.length : Int))) - 31))) = 0 then (none) else (shuttlelaw04_Crc32Bursts.l0 k a2 t181 (wrap64 (Int.tmod (IntKind.u64.wrap (a1)) (IntKind.u64.wrap (wrap64 ((wrap64 (8 * (t181.length : Int))) - 31))))) 0))) else (none)) else (none)) else (none)) else (none)) = some r := H
      have A9 := Aside0.mk A90
      clear A90
      by_cases c10 : t188 = true
      · subst c10
        have H1 : (if t185 = true then (if (strOfNums t184).toList = (strOfNums (l0.take ((ji4) : Int).toNat)).toList then (if (t181.length : Int) = (wrap64 (((l0.take ((ji4) : Int).toNat).length : Int) + 4)) then (if a2 = 0 then (some true) else (if (IntKind.u64.wrap (wrap64 ((wrap64 (8 * (t181.length : Int))) - 31))) = 0 then (none) else (shuttlelaw04_Crc32Bursts.l0 k a2 t181 (wrap64 (Int.tmod (IntKind.u64.wrap (a1)) (IntKind.u64.wrap (wrap64 ((wrap64 (8 * (t181.length : Int))) - 31))))) 0))) else (none)) else (none)) else (none)) = some r := by rw [if_pos rfl] at H; exact H
        clear H
        have H := H1
        clear H1
        by_cases c11 : t185 = true
        · subst c11
          have H1 : (if (strOfNums t184).toList = (strOfNums (l0.take ((ji4) : Int).toNat)).toList then (if (t181.length : Int) = (wrap64 (((l0.take ((ji4) : Int).toNat).length : Int) + 4)) then (if a2 = 0 then (some true) else (if (IntKind.u64.wrap (wrap64 ((wrap64 (8 * (t181.length : Int))) - 31))) = 0 then (none) else (shuttlelaw04_Crc32Bursts.l0 k a2 t181 (wrap64 (Int.tmod (IntKind.u64.wrap (a1)) (IntKind.u64.wrap (wrap64 ((wrap64 (8 * (t181.length : Int))) - 31))))) 0))) else (none)) else (none)) = some r := by rw [if_pos rfl] at H; exact H
          clear H
          have H := H1
          clear H1
          by_cases c12 : (strOfNums t184).toList = (strOfNums (l0.take ((ji4) : Int).toNat)).toList
          · rw [if_pos c12] at H
            have c12b0 : ((strOfNums t184).toList == (strOfNums (l0.take ((ji4) : Int).toNat)).toList) = true := beq_iff_eq.mpr c12
            have c12b1 : ((strOfNums t184).toList != (strOfNums (l0.take ((ji4) : Int).toNat)).toList) = false := bne_eq_false_iff_eq.mpr c12
            clear c12
            by_cases c13 : (t181.length : Int) = (wrap64 (((l0.take ((ji4) : Int).toNat).length : Int) + 4))
            · rw [if_pos c13] at H
              have c13b0 : ((t181.length : Int) == (wrap64 (((l0.take ((ji4) : Int).toNat).length : Int) + 4))) = true := beq_iff_eq.mpr c13
              have c13b1 : ((t181.length : Int) != (wrap64 (((l0.take ((ji4) : Int).toNat).length : Int) + 4))) = false := bne_eq_false_iff_eq.mpr c13
              have c13z : ((t181.length : Int) != max ji4 0 + 4) = false := by
                have hz : (l0.take ((ji4) : Int).toNat).length = ji4.toNat := by rw [List.length_take]; have h_ : ((ji4) : Int) ≤ (l0.length : Int) := of_decide_eq_true (by first | (with_reducible assumption) | assumption); omega
                have hy := bne_eq_false_iff_eq.mp c13b1
                rw [hz, Go.Proofs.Ytkhpgjojbdgkfaa.C.wrap_in (by omega) (by omega)] at hy
                rw [bne_eq_false_iff_eq]; omega
              clear c13
              by_cases c14 : a2 = 0
              · rw [if_pos c14] at H
                have c14b0 : (a2 == 0) = true := beq_iff_eq.mpr c14
                have c14b1 : (a2 != 0) = false := bne_eq_false_iff_eq.mpr c14
                clear c14
                obtain rfl := Option.some.inj H
                obtain ⟨i015, hi015, _, hsz15, _⟩ := info_parts info5
                obtain ⟨hcut15, hA15, hC15⟩ := print_take_of (P := Try.prog) (Value.int .u8) 0 22 5 .i64 Try.underlying22 hi015 hsz15 A0 c0 l0 (ji4) (of_decide_eq_true (by first | (with_reducible assumption) | assumption)) (of_decide_eq_true (by first | (with_reducible assumption) | assumption)) HC0.out
                have HR180 := Aside0.mk (Kd.C_of_reads (h1 := fun _ => rfl) (hA15 _ (Kd.reads_of_C HR0.out)))
                have HC180 := Aside0.mk hC15
                clear hA15 hC15 hi015 hsz15
                go_enter Try.func10, Try.ntmps10
                go_wp2_with (first | ((with_reducible refine gate_callee (f := 26) rfl ?_); refine goesL_ (some 20) rfl rfl Try.func26 (by kernel_rfl) rfl #[.slice A0 (l0.take ((ji4) : Int).toNat).length c0] rfl (by (try simp only [List.map_toArray, List.map_cons, List.map_nil]); first | done | (rw [show (l0.take ((ji4) : Int).toNat).length = (ji4).toNat from (by rw [List.length_take]; have h_ : ((ji4) : Int) ≤ (l0.length : Int) := of_decide_eq_true (by first | (with_reducible assumption) | assumption); omega)] <;> rfl) | (simp only [hji4]; rfl) | rfl | (simp only [List.length_drop, List.length_take]; rfl)) ?_; (with_reducible refine (crc32_Close.calls k _ _ (l0.take ((ji4) : Int).toNat) t181 _ ?side1 ?side2 A7.out).mono ?_); (case side1 => repeat (first | exact HR180.out | (with_reducible refine Kd.C_alloc ?_ _) | (with_reducible refine Kd.C_drewN ?_ _) | (with_reducible refine Kd.C_drew ?_))); (case side2 => exact HC180.out); rintro e w16 ⟨v182, rfl, ho0, hb⟩; refine ⟨_, rfl, ?_⟩; have n0_ := Aside0.mk (Kd.R_lower ho0 (below_size (by repeat (first | (with_reducible first | exact HB.out | apply below_alloc | apply pw_below_drewN | apply below_drew1) | exact HB.out)))); have n1_ := Aside0.mk (below_step (by repeat (first | (with_reducible first | exact HB.out | apply below_alloc | apply pw_below_drewN | apply below_drew1) | exact HB.out)) hb); clear HB; have HO183 := n0_; have HB := n1_; clear n0_ n1_; (try clear hb); (try clear hb2); (try clear hk); (try clear hi); (try clear ho0); obtain ⟨Ao17, co17, eo17⟩ := Kd.R_slice HO183.out; subst eo17) | ((with_reducible refine gate_callee (f := 27) rfl ?_); refine goesL_ (some 23) rfl rfl Try.func27 (by kernel_rfl) rfl #[.slice Ao17 t181.length co17] rfl (by (try simp only [List.map_toArray, List.map_cons, List.map_nil]); first | done | rfl | (simp only [List.length_drop, List.length_take]; rfl)) ?_; (with_reducible refine (crc32_Open.calls k _ _ t181 t184 true _ ?side1 ?side2 A8.out).mono ?_); (case side1 => repeat (first | exact (Kd.R_reads' HO183.out).2.2 | (with_reducible refine Kd.C_alloc ?_ _) | (with_reducible refine Kd.C_drewN ?_ _) | (with_reducible refine Kd.C_drew ?_))); (case side2 => exact (Kd.R_reads' HO183.out).2.1); rintro e w18 ⟨v186, rfl, ho0, hb⟩; refine ⟨_, rfl, ?_⟩; have n0_ := Aside0.mk (Kd.R_elder' (by (with_reducible repeat (first | apply Kd.R_alloc | apply Kd.R_drewN | apply Kd.R_drew)); exact HO183.out) (Kd.R_base ho0) hb); have n1_ := Aside0.mk (Kd.R_lower (Kd.R_new' ho0 (Kd.R_lt (by (with_reducible repeat (first | apply Kd.R_alloc | apply Kd.R_drewN | apply Kd.R_drew)); exact HO183.out))) (below_size (by repeat (first | (with_reducible first | exact HB.out | apply below_alloc | apply pw_below_drewN | apply below_drew1) | exact HB.out)))); have n2_ := Aside0.mk (below_step (by repeat (first | (with_reducible first | exact HB.out | apply below_alloc | apply pw_below_drewN | apply below_drew1) | exact HB.out)) hb); clear HO183; clear HB; have HO183 := n0_; have HO187 := n1_; have HB := n2_; clear n0_ n1_ n2_; (try clear hb); (try clear hb2); (try clear hk); (try clear hi); (try clear ho0)) | ((with_reducible refine gate_callee (f := 14) rfl ?_); refine goesL_ (some 26) rfl rfl Try.func14 (by kernel_rfl) rfl #[] rfl (by (try simp only [List.map_toArray, List.map_cons, List.map_nil]); first | done | rfl | (simp only [List.length_drop, List.length_take]; rfl)) ?_; (with_reducible refine (shuttlelaw04_sums.calls  true _ A9.out).mono ?_); rintro e w19 ⟨rfl, hb⟩; refine ⟨_, rfl, ?_⟩; have n0_ := Aside0.mk (Kd.R_below (by (with_reducible repeat (first | apply Kd.R_alloc | apply Kd.R_drewN | apply Kd.R_drew)); exact HO183.out) hb); have n1_ := Aside0.mk (Kd.R_below (by (with_reducible repeat (first | apply Kd.R_alloc | apply Kd.R_drewN | apply Kd.R_drew)); exact HO187.out) hb); have n2_ := Aside0.mk (below_step (by repeat (first | (with_reducible first | exact HB.out | apply below_alloc | apply pw_below_drewN | apply below_drew1) | exact HB.out)) hb); clear HO183; clear HO187; clear HB; have HO183 := n0_; have HO187 := n1_; have HB := n2_; clear n0_ n1_ n2_; (try clear hb); (try clear hb2); (try clear hk); (try clear hi); have hcv20 := own_string (P := Try.prog) Try.underlying22 Try.underlying5 Try.underlying9 (Kd.own_of_R HO187.out); have hcv21 := Kd.C_string (P := Try.prog) (A := A0) (c := c0) Try.underlying22 Try.underlying5 Try.underlying9 (Kd.C_below HR180.out HB.out); rw [show (l0.take ((ji4) : Int).toNat).length = (ji4).toNat from (by rw [List.length_take]; have h_ : ((ji4) : Int) ≤ (l0.length : Int) := of_decide_eq_true (by first | (with_reducible assumption) | assumption); omega)] at hcv21))
                go_ret
                exact ⟨by first | rfl | (simp [errW_none, errW_some] <;> rfl) | (simp only [← hji4]; first | rfl | (simp [errW_none, errW_some] <;> rfl)) | (simp [*, errW_none, errW_some] <;> rfl), by repeat (first | (with_reducible first | exact HB.out | apply below_alloc | apply pw_below_drewN | apply below_drew1) | exact HB.out)⟩
              · rw [if_neg c14] at H
                have c14b0 : (a2 == 0) = false := beq_eq_false_iff_ne.mpr c14
                have c14b1 : (a2 != 0) = true := bne_iff_ne.mpr c14
                by_cases c22 : (IntKind.u64.wrap (wrap64 ((wrap64 (8 * (t181.length : Int))) - 31))) = 0
                · rw [if_pos c22] at H
                  exact absurd H (by simp)
                · rw [if_neg c22] at H
                  have c22b0 : ((IntKind.u64.wrap (wrap64 ((wrap64 (8 * (t181.length : Int))) - 31))) == 0) = false := beq_eq_false_iff_ne.mpr c22
                  have c22b1 : ((IntKind.u64.wrap (wrap64 ((wrap64 (8 * (t181.length : Int))) - 31))) != 0) = true := bne_iff_ne.mpr c22
                  have H' := Aside0.mk H
                  clear H
                  obtain ⟨i023, hi023, _, hsz23, _⟩ := info_parts info5
                  obtain ⟨hcut23, hA23, hC23⟩ := print_take_of (P := Try.prog) (Value.int .u8) 0 22 5 .i64 Try.underlying22 hi023 hsz23 A0 c0 l0 (ji4) (of_decide_eq_true (by first | (with_reducible assumption) | assumption)) (of_decide_eq_true (by first | (with_reducible assumption) | assumption)) HC0.out
                  have HR180 := Aside0.mk (Kd.C_of_reads (h1 := fun _ => rfl) (hA23 _ (Kd.reads_of_C HR0.out)))
                  have HC180 := Aside0.mk hC23
                  clear hA23 hC23 hi023 hsz23
                  go_enter Try.func10, Try.ntmps10
                  go_wp2_with (first | ((with_reducible refine gate_callee (f := 26) rfl ?_); refine goesL_ (some 20) rfl rfl Try.func26 (by kernel_rfl) rfl #[.slice A0 (l0.take ((ji4) : Int).toNat).length c0] rfl (by (try simp only [List.map_toArray, List.map_cons, List.map_nil]); first | done | (rw [show (l0.take ((ji4) : Int).toNat).length = (ji4).toNat from (by rw [List.length_take]; have h_ : ((ji4) : Int) ≤ (l0.length : Int) := of_decide_eq_true (by first | (with_reducible assumption) | assumption); omega)] <;> rfl) | (simp only [hji4]; rfl) | rfl | (simp only [List.length_drop, List.length_take]; rfl)) ?_; (with_reducible refine (crc32_Close.calls k _ _ (l0.take ((ji4) : Int).toNat) t181 _ ?side1 ?side2 A7.out).mono ?_); (case side1 => repeat (first | exact HR180.out | (with_reducible refine Kd.C_alloc ?_ _) | (with_reducible refine Kd.C_drewN ?_ _) | (with_reducible refine Kd.C_drew ?_))); (case side2 => exact HC180.out); rintro e w24 ⟨v182, rfl, ho0, hb⟩; refine ⟨_, rfl, ?_⟩; have n0_ := Aside0.mk (Kd.R_lower ho0 (below_size (by repeat (first | (with_reducible first | exact HB.out | apply below_alloc | apply pw_below_drewN | apply below_drew1) | exact HB.out)))); have n1_ := Aside0.mk (below_step (by repeat (first | (with_reducible first | exact HB.out | apply below_alloc | apply pw_below_drewN | apply below_drew1) | exact HB.out)) hb); clear HB; have HO183 := n0_; have HB := n1_; clear n0_ n1_; (try clear hb); (try clear hb2); (try clear hk); (try clear hi); (try clear ho0); obtain ⟨Ao25, co25, eo25⟩ := Kd.R_slice HO183.out; subst eo25) | ((with_reducible refine gate_callee (f := 27) rfl ?_); refine goesL_ (some 23) rfl rfl Try.func27 (by kernel_rfl) rfl #[.slice Ao25 t181.length co25] rfl (by (try simp only [List.map_toArray, List.map_cons, List.map_nil]); first | done | rfl | (simp only [List.length_drop, List.length_take]; rfl)) ?_; (with_reducible refine (crc32_Open.calls k _ _ t181 t184 true _ ?side1 ?side2 A8.out).mono ?_); (case side1 => repeat (first | exact (Kd.R_reads' HO183.out).2.2 | (with_reducible refine Kd.C_alloc ?_ _) | (with_reducible refine Kd.C_drewN ?_ _) | (with_reducible refine Kd.C_drew ?_))); (case side2 => exact (Kd.R_reads' HO183.out).2.1); rintro e w26 ⟨v186, rfl, ho0, hb⟩; refine ⟨_, rfl, ?_⟩; have n0_ := Aside0.mk (Kd.R_elder' (by (with_reducible repeat (first | apply Kd.R_alloc | apply Kd.R_drewN | apply Kd.R_drew)); exact HO183.out) (Kd.R_base ho0) hb); have n1_ := Aside0.mk (Kd.R_lower (Kd.R_new' ho0 (Kd.R_lt (by (with_reducible repeat (first | apply Kd.R_alloc | apply Kd.R_drewN | apply Kd.R_drew)); exact HO183.out))) (below_size (by repeat (first | (with_reducible first | exact HB.out | apply below_alloc | apply pw_below_drewN | apply below_drew1) | exact HB.out)))); have n2_ := Aside0.mk (below_step (by repeat (first | (with_reducible first | exact HB.out | apply below_alloc | apply pw_below_drewN | apply below_drew1) | exact HB.out)) hb); clear HO183; clear HB; have HO183 := n0_; have HO187 := n1_; have HB := n2_; clear n0_ n1_ n2_; (try clear hb); (try clear hb2); (try clear hk); (try clear hi); (try clear ho0)) | ((with_reducible refine gate_callee (f := 14) rfl ?_); refine goesL_ (some 26) rfl rfl Try.func14 (by kernel_rfl) rfl #[] rfl (by (try simp only [List.map_toArray, List.map_cons, List.map_nil]); first | done | rfl | (simp only [List.length_drop, List.length_take]; rfl)) ?_; (with_reducible refine (shuttlelaw04_sums.calls  true _ A9.out).mono ?_); rintro e w27 ⟨rfl, hb⟩; refine ⟨_, rfl, ?_⟩; have n0_ := Aside0.mk (Kd.R_below (by (with_reducible repeat (first | apply Kd.R_alloc | apply Kd.R_drewN | apply Kd.R_drew)); exact HO183.out) hb); have n1_ := Aside0.mk (Kd.R_below (by (with_reducible repeat (first | apply Kd.R_alloc | apply Kd.R_drewN | apply Kd.R_drew)); exact HO187.out) hb); have n2_ := Aside0.mk (below_step (by repeat (first | (with_reducible first | exact HB.out | apply below_alloc | apply pw_below_drewN | apply below_drew1) | exact HB.out)) hb); clear HO183; clear HO187; clear HB; have HO183 := n0_; have HO187 := n1_; have HB := n2_; clear n0_ n1_ n2_; (try clear hb); (try clear hb2); (try clear hk); (try clear hi); have hcv28 := own_string (P := Try.prog) Try.underlying22 Try.underlying5 Try.underlying9 (Kd.own_of_R HO187.out); have hcv29 := Kd.C_string (P := Try.prog) (A := A0) (c := c0) Try.underlying22 Try.underlying5 Try.underlying9 (Kd.C_below HR180.out HB.out); rw [show (l0.take ((ji4) : Int).toNat).length = (ji4).toNat from (by rw [List.length_take]; have h_ : ((ji4) : Int) ≤ (l0.length : Int) := of_decide_eq_true (by first | (with_reducible assumption) | assumption); omega)] at hcv29))
                  go_loopg [11] k (fun kq v11 w' => ∃ (x7_1 : List Int) (x11_1 : Int), v11 = .int .i64 x11_1 ∧ Aside0 (shuttlelaw04_Crc32Bursts.l0 kq a2 x7_1 (wrap64 (Int.tmod (IntKind.u64.wrap (a1)) (IntKind.u64.wrap (wrap64 ((wrap64 (8 * (t181.length : Int))) - 31))))) x11_1 = some r) ∧ Aside0 (kq ≤ k) ∧ Aside0 (Kd.R (Kd.int .u8) 5 w' w.heap.size (fun _ => True) (.slice Ao25 t181.length co25) x7_1) ∧ Aside0 (Below w.heap.size w w'))
                  case atStart => exact ⟨(t181), (0), (by first | rfl | (simp; done) | (simp [*]; done)), H', ⟨Nat.le_refl _⟩, ⟨by (with_reducible repeat (first | apply Kd.R_alloc | apply Kd.R_drewN | apply Kd.R_drew)); exact Kd.R_mono HO183.out (fun _ hk => trivial)⟩, ⟨by repeat (first | (with_reducible first | exact HB.out | apply below_alloc | apply pw_below_drewN | apply below_drew1) | exact HB.out)⟩⟩
                  case round =>
                    clear H'
                    try clear c1
                    try clear c2
                    try clear p2
                    try clear hcv2
                    try clear c3
                    try clear c5
                    try clear c5b0
                    try clear c5b1
                    try clear c6
                    try clear c6b0
                    try clear c6b1
                    try clear p6
                    try clear c10
                    try clear c11
                    try clear c12
                    try clear c12b0
                    try clear c12b1
                    try clear c13
                    try clear c13b0
                    try clear c13b1
                    try clear c14
                    try clear c14b0
                    try clear c14b1
                    try clear hcv20
                    try clear hcv21
                    try clear c22
                    try clear c22b0
                    try clear c22b1
                    try clear c26
                    try clear c27
                    try clear hcv28
                    try clear hcv29
                    obtain ⟨x7_1, x11_1, rfl, HA, HK1, HO_7, HB⟩ := hrel
                    have hl7_1 := (Kd.R_reads' HO_7.out).1
                    rw [hl7_1] at HO_7
                    (try simp only [hl7_1])
                    cases gk with
                    | zero => exact absurd HA.out (by simp [shuttlelaw04_Crc32Bursts.l0])
                    | succ k1 =>
                      have H := HA.out
                      clear HA
                      simp only [shuttlelaw04_Crc32Bursts.l0] at H
                      by_cases c30 : x11_1 < 32
                      · rw [if_pos c30] at H
                        have c30b0 : decide (x11_1 < 32) = true := decide_eq_true c30
                        clear c30
                        by_cases c31 : 0 ≤ x11_1
                        · rw [if_pos c31] at H
                          have c31b0 := eq_true c31
                          have c31b1 : decide (0 ≤ x11_1) = true := decide_eq_true c31
                          clear c31
                          obtain ⟨ji32, hji32⟩ : ∃ j_ : Int, (shr .u32 a2 x11_1) = j_ := ⟨_, rfl⟩
                          replace H : (if (Go.bits .and .u32 (ji32) 1) = 1 then (if 0 ≤ (wrap64 (Int.tdiv (wrap64 ((wrap64 (Int.tmod (IntKind.u64.wrap (a1)) (IntKind.u64.wrap (wrap64 ((wrap64 (8 * (t181.length : Int))) - 31))))) + x11_1)) 8)) then (if (wrap64 (Int.tdiv (wrap64 ((wrap64 (Int.tmod (IntKind.u64.wrap (a1)) (IntKind.u64.wrap (wrap64 ((wrap64 (8 * (t181.length : Int))) - 31))))) + x11_1)) 8)) < (x7_1.length : Int) then (if 0 ≤ (Int.tmod (wrap64 ((wrap64 (Int.tmod (IntKind.u64.wrap (a1)) (IntKind.u64.wrap (wrap64 ((wrap64 (8 * (t181.length : Int))) - 31))))) + x11_1)) 8) then (shuttlelaw04_Crc32Bursts.l0 k1 a2 (x7_1.set ((wrap64 (Int.tdiv (wrap64 ((wrap64 (Int.tmod (IntKind.u64.wrap (a1)) (IntKind.u64.wrap (wrap64 ((wrap64 (8 * (t181.length : Int))) - 31))))) + x11_1)) 8)) : Int).toNat (Go.bits .xor .u8 (rd x7_1 (wrap64 (Int.tdiv (wrap64 ((wrap64 (Int.tmod (IntKind.u64.wrap (a1)) (IntKind.u64.wrap (wrap64 ((wrap64 (8 * (t181.length : Int))) - 31))))) + x11_1)) 8))) (shl .u8 1 (Int.tmod (wrap64 ((wrap64 (Int.tmod (IntKind.u64.wrap (a1)) (IntKind.u64.wrap (wrap64 ((wrap64 (8 * (t181.length : Int))) - 31))))) + x11_1)) 8)))) (wrap64 (Int.tmod (IntKind.u64.wrap (a1)) (IntKind.u64.wrap (wrap64 ((wrap64 (8 * (t181.length : Int))) - 31))))) (wrap64 (x11_1 + 1))) else (none)) else (none)) else (none)) else (shuttlelaw04_Crc32Bursts.l0 k1 a2 x7_1 (wrap64 (Int.tmod (IntKind.u64.wrap (a1)) (IntKind.u64.wrap (wrap64 ((wrap64 (8 * (t181.length : Int))) - 31))))) (wrap64 (x11_1 + 1)))) = some r := by first | (rw [hji32] at H; exact H) | (simp only [hji32] at H ⊢; exact H)
                          have hji32_ : (a2 / 2 ^ min x11_1.toNat 32) = ji32 := hji32
                          have hji32z : x11_1 ≤ 32 → (a2 / 2 ^ x11_1.toNat) = ji32 := shr_small hji32
                          by_cases c33 : (Go.bits .and .u32 (ji32) 1) = 1
                          · rw [if_pos c33] at H
                            have c33b0 : ((Go.bits .and .u32 (ji32) 1) == 1) = true := beq_iff_eq.mpr c33
                            have c33b1 : ((Go.bits .and .u32 (ji32) 1) != 1) = false := bne_eq_false_iff_eq.mpr c33
                            clear c33
                            obtain ⟨ji34, hji34⟩ : ∃ j_ : Int, (wrap64 (Int.tdiv (wrap64 ((wrap64 (Int.tmod (IntKind.u64.wrap (a1)) (IntKind.u64.wrap (wrap64 ((wrap64 (8 * (t181.length : Int))) - 31))))) + x11_1)) 8)) = j_ := ⟨_, rfl⟩
                            replace H : (if 0 ≤ (ji34) then (if (ji34) < (x7_1.length : Int) then (if 0 ≤ (Int.tmod (wrap64 ((wrap64 (Int.tmod (IntKind.u64.wrap (a1)) (IntKind.u64.wrap (wrap64 ((wrap64 (8 * (t181.length : Int))) - 31))))) + x11_1)) 8) then (shuttlelaw04_Crc32Bursts.l0 k1 a2 (x7_1.set ((ji34) : Int).toNat (Go.bits .xor .u8 (rd x7_1 (ji34)) (shl .u8 1 (Int.tmod (wrap64 ((wrap64 (Int.tmod (IntKind.u64.wrap (a1)) (IntKind.u64.wrap (wrap64 ((wrap64 (8 * (t181.length : Int))) - 31))))) + x11_1)) 8)))) (wrap64 (Int.tmod (IntKind.u64.wrap (a1)) (IntKind.u64.wrap (wrap64 ((wrap64 (8 * (t181.length : Int))) - 31))))) (wrap64 (x11_1 + 1))) else (none)) else (none)) else (none)) = some r := by first | (rw [hji34] at H; exact H) | (simp only [hji34] at H ⊢; exact H)
                            have hji34w : (IntKind.i64.wrap (Int.tdiv (wrap64 ((wrap64 (Int.tmod (IntKind.u64.wrap (a1)) (IntKind.u64.wrap (wrap64 ((wrap64 (8 * (t181.length : Int))) - 31))))) + x11_1)) 8)) = ji34 := (i64_w _).trans hji34
                            by_cases c35 : 0 ≤ (ji34)
                            · rw [if_pos c35] at H
                              have c35b0 : decide (0 ≤ (ji34)) = true := decide_eq_true c35
                              clear c35
                              by_cases c36 : (ji34) < (x7_1.length : Int)
                              · rw [if_pos c36] at H
                                have c36b0 : decide ((ji34) < (x7_1.length : Int)) = true := decide_eq_true c36
                                clear c36
                                obtain ⟨ji37, hji37⟩ : ∃ j_ : Int, (Int.tmod (wrap64 ((wrap64 (Int.tmod (IntKind.u64.wrap (a1)) (IntKind.u64.wrap (wrap64 ((wrap64 (8 * (t181.length : Int))) - 31))))) + x11_1)) 8) = j_ := ⟨_, rfl⟩
                                replace H : (if 0 ≤ (ji37) then (shuttlelaw04_Crc32Bursts.l0 k1 a2 (x7_1.set ((ji34) : Int).toNat (Go.bits .xor .u8 (rd x7_1 (ji34)) (shl .u8 1 (ji37)))) (wrap64 (Int.tmod (IntKind.u64.wrap (a1)) (IntKind.u64.wrap (wrap64 ((wrap64 (8 * (t181.length : Int))) - 31))))) (wrap64 (x11_1 + 1))) else (none)) = some r := by first | (rw [hji37] at H; exact H) | (simp only [hji37] at H ⊢; exact H)
                                by_cases c38 : 0 ≤ (ji37)
                                · rw [if_pos c38] at H
                                  have c38b0 := eq_true c38
                                  have c38b1 : decide (0 ≤ (ji37)) = true := decide_eq_true c38
                                  clear c38
                                  obtain ⟨ji39, hji39⟩ : ∃ j_ : Int, (shl .u8 1 (ji37)) = j_ := ⟨_, rfl⟩
                                  replace H : (shuttlelaw04_Crc32Bursts.l0 k1 a2 (x7_1.set ((ji34) : Int).toNat (Go.bits .xor .u8 (rd x7_1 (ji34)) (ji39))) (wrap64 (Int.tmod (IntKind.u64.wrap (a1)) (IntKind.u64.wrap (wrap64 ((wrap64 (8 * (t181.length : Int))) - 31))))) (wrap64 (x11_1 + 1))) = some r := by first | (rw [hji39] at H; exact H) | (simp only [hji39] at H ⊢; exact H)
                                  have hji39_ : (IntKind.u8.wrap (1 * 2 ^ min (ji37).toNat 8)) = ji39 := hji39
                                  have hji39z : (ji37) ≤ 8 → (IntKind.u8.wrap (1 * 2 ^ (ji37).toNat)) = ji39 := shl_small hji39
                                  have hji39u : (IntKind.u8.wrap (2 ^ min (ji37).toNat 8)) = ji39 := by have h_ := hji39_; rw [Int.one_mul] at h_; exact h_
                                  have hji39v : (ji37) ≤ 8 → (IntKind.u8.wrap (2 ^ (ji37).toNat)) = ji39 := fun hle_ => by have h_ := hji39z hle_; rw [Int.one_mul] at h_; exact h_
                                  obtain ⟨y190, hy190⟩ : ∃ y_ : List Int, y_ = (x7_1.set ((ji34) : Int).toNat (Go.bits .xor .u8 (rd x7_1 (ji34)) (ji39))) := ⟨_, rfl⟩
                                  replace H : (shuttlelaw04_Crc32Bursts.l0 k1 a2 y190 (wrap64 (Int.tmod (IntKind.u64.wrap (a1)) (IntKind.u64.wrap (wrap64 ((wrap64 (8 * (t181.length : Int))) - 31))))) (wrap64 (x11_1 + 1))) = some r := by first | (rw [hy190]; with_reducible exact H) | (have H2_ := (Option.bind_some _ _).symm.trans H; rw [hy190]; with_reducible exact H2_) | (have H2_ := (Option.bind_some _ _).symm.trans H; with_reducible exact H2_) | with_reducible exact H | (rw [hy190]; exact H) | exact H
                                  have Ny190 := Aside0.mk hy190
                                  clear hy190
                                  have H' := Aside0.mk H
                                  clear H
                                  (try simp only [hl7_1] at hji32 hji32_ hji32z hji34 hji34w hji37 hji39 hji39_ hji39z hji39u hji39v)
                                  try go_wp2
                                  have n0_ := Aside0.mk (Kd.R_drew HO_7.out)
                                  have n1_ := Aside0.mk (below_drew1 HB.out)
                                  clear HO_7
                                  clear HB
                                  have HO_7 := n0_
                                  have HB := n1_
                                  clear n0_ n1_
                                  have p189 : 0 ≤ ((ji34) : Int) := of_decide_eq_true (by first | (with_reducible assumption) | assumption)
                                  have q189 : (ji34) < (x7_1.length : Int) := of_decide_eq_true (by first | (with_reducible assumption) | assumption)
                                  obtain ⟨ad189, e189, hx189_0⟩ := Kd.at_int (Kd.R_reads' HO_7.out).2.2 (ji34) p189 q189
                                  cases e189
                                  replace p189 := eq_true p189
                                  replace q189 := eq_true q189
                                  have p40 : 0 ≤ ((ji34) : Int) := of_decide_eq_true (by first | (with_reducible assumption) | assumption)
                                  have q40 : ((ji34) : Int) < ((x7_1.length : Int) : Int) := of_decide_eq_true (by first | (with_reducible assumption) | assumption)
                                  obtain ⟨go40, co40, eo40, gb40, gl40, cl40, HG40⟩ := Kd.R_form HO_7.out (by omega)
                                  (first | cases eo40 | (injection eo40 with ea_ en_ ec_; (first | subst ea_ | (injection ea_ with ea_; subst ea_)); subst ec_; clear en_))
                                  have GB40 := Aside0.mk gb40
                                  have GG40 := Aside0.mk HG40
                                  clear gb40 gl40 HG40
                                  (first | simp only [add_plain] at hx189_0 | skip)
                                  obtain ⟨hx40_0, hf40_0⟩ := Kd.R_celln 0 HO_7.out ((ji34) : Int) p40 q40
                                  replace p40 := eq_true p40
                                  replace q40 := eq_true q40
                                  have HP42 := Kd.R_putn HO_7.out ((ji34) : Int) (Go.bits .xor .u8 (rd x7_1 (ji34)) (ji39))
                                  rw [← Ny190.out] at HP42
                                  have HQ42 := Aside0.mk HP42
                                  clear HP42
                                  (try simp only [hl7_1] at hji32 hji32_ hji32z hji34 hji34w hji37 hji39 hji39_ hji39z hji39u hji39v)
                                  refine start_ (n := 15) (S := fun w' => w'.cell? ⟨go40, ((ji34)).toNat, none⟩ = some (.int .u8 (rd x7_1 (ji34)))) (ds := [14]) #[false, false, false, false, false, false, false, false, false, false, false, false, false, false, false] (by kernel_rfl) rfl rfl (hx189_0) (fun hHeld => ?_); refine with_tabW shuttlelaw04_Crc32Bursts.tab13 shuttlelaw04_Crc32Bursts.bits13 (fun HT_ HW_ => ?_)
                                  generalize wr.drew = w41 at HO_7 HB GG40 HQ42 hf40_0 hx189_0 hx40_0 hHeld ⊢
                                  refine pure_ (i := 0) (N := some 67) (v := ?_) (a' := ?_) #[true, false, false, false, false, false, false, false, false, false, false, false, false, false, false] rfl rfl (any_of HT_.out (by kernel_rfl)) (fun _ _ _ h => h) (Or.inl ⟨by rfl, ?_⟩) ?_ ?_
                                  rotate_left
                                  · intro w'
                                    go_simp
                                    with_reducible rfl
                                  rotate_left
                                  · simp only [Act.put, List.setIfInBounds_toArray, List.set_cons_zero, List.set_cons_succ, i64_w, i32_w]
                                    rfl
                                  refine pure_ (i := 1) (N := some 68) (v := ?_) (a' := ?_) #[true, true, false, false, false, false, false, false, false, false, false, false, false, false, false] rfl rfl (any_of HT_.out (by kernel_rfl)) (fun _ _ _ h => h) (Or.inl ⟨by rfl, ?_⟩) ?_ ?_
                                  rotate_left
                                  · intro w'
                                    go_simp
                                    with_reducible rfl
                                  rotate_left
                                  · simp only [Act.put, List.setIfInBounds_toArray, List.set_cons_zero, List.set_cons_succ, i64_w, i32_w]
                                    rfl
                                  refine pure_ (i := 2) (N := some 69) (v := ?_) (a' := ?_) #[true, true, true, false, false, false, false, false, false, false, false, false, false, false, false] rfl rfl (any_of HT_.out (by kernel_rfl)) (fun _ _ _ h => h) (Or.inl ⟨by rfl, ?_⟩) ?_ ?_
                                  rotate_left
                                  · intro w'
                                    go_simp
                                    with_reducible rfl
                                  rotate_left
                                  · simp only [Act.put, List.setIfInBounds_toArray, List.set_cons_zero, List.set_cons_succ, i64_w, i32_w]
                                    rfl
                                  refine pure_ (i := 3) (N := some 70) (v := ?_) (a' := ?_) #[true, true, true, true, false, false, false, false, false, false, false, false, false, false, false] rfl rfl (any_of HT_.out (by kernel_rfl)) (fun _ _ _ h => h) (Or.inl ⟨by rfl, ?_⟩) ?_ ?_
                                  rotate_left
                                  · intro w'
                                    go_simp
                                    with_reducible rfl
                                  rotate_left
                                  · simp only [Act.put, List.setIfInBounds_toArray, List.set_cons_zero, List.set_cons_succ, i64_w, i32_w]
                                    rfl
                                  refine pure_ (i := 4) (N := some 71) (v := ?_) (a' := ?_) #[true, true, true, true, true, false, false, false, false, false, false, false, false, false, false] rfl rfl (any_of HT_.out (by kernel_rfl)) (fun _ _ _ h => h) (Or.inl ⟨by rfl, ?_⟩) ?_ ?_
                                  rotate_left
                                  · intro w'
                                    go_simp
                                    with_reducible rfl
                                  rotate_left
                                  · simp only [Act.put, List.setIfInBounds_toArray, List.set_cons_zero, List.set_cons_succ, i64_w, i32_w]
                                    rfl
                                  refine pure_ (i := 5) (N := some 72) (v := ?_) (a' := ?_) #[true, true, true, true, true, true, false, false, false, false, false, false, false, false, false] rfl rfl (any_of HT_.out (by kernel_rfl)) (fun _ _ _ h => h) (Or.inl ⟨by rfl, ?_⟩) ?_ ?_
                                  rotate_left
                                  · intro w'
                                    go_simp
                                    with_reducible rfl
                                  rotate_left
                                  · simp only [Act.put, List.setIfInBounds_toArray, List.set_cons_zero, List.set_cons_succ, i64_w, i32_w]
                                    rfl
                                  refine pure_ (i := 7) (N := some 74) (v := ?_) (a' := ?_) #[true, true, true, true, true, true, false, true, false, false, false, false, false, false, false] rfl rfl (any_of HT_.out (by kernel_rfl)) (fun _ _ _ h => h) (Or.inl ⟨by rfl, ?_⟩) ?_ ?_
                                  rotate_left
                                  · intro w'
                                    go_simp
                                    with_reducible rfl
                                  rotate_left
                                  · simp only [Act.put, List.setIfInBounds_toArray, List.set_cons_zero, List.set_cons_succ, i64_w, i32_w]
                                    rfl
                                  refine pure_ (i := 8) (N := some 75) (v := ?_) (a' := ?_) #[true, true, true, true, true, true, false, true, true, false, false, false, false, false, false] rfl rfl (any_of HT_.out (by kernel_rfl)) (fun _ _ _ h => h) (Or.inl ⟨by rfl, ?_⟩) ?_ ?_
                                  rotate_left
                                  · intro w'
                                    go_simp
                                    with_reducible rfl
                                  rotate_left
                                  · simp only [Act.put, List.setIfInBounds_toArray, List.set_cons_zero, List.set_cons_succ, i64_w, i32_w]
                                    rfl
                                  refine pure_ (i := 9) (N := some 76) (v := ?_) (a' := ?_) #[true, true, true, true, true, true, false, true, true, true, false, false, false, false, false] rfl rfl (any_of HT_.out (by kernel_rfl)) (fun _ _ _ h => h) (Or.inl ⟨by rfl, ?_⟩) ?_ ?_
                                  rotate_left
                                  · intro w'
                                    go_simp
                                    with_reducible rfl
                                  rotate_left
                                  · simp only [Act.put, List.setIfInBounds_toArray, List.set_cons_zero, List.set_cons_succ, i64_w, i32_w]
                                    rfl
                                  refine pure_ (i := 10) (N := some 77) (v := ?_) (a' := ?_) #[true, true, true, true, true, true, false, true, true, true, true, false, false, false, false] rfl rfl (any_of HT_.out (by kernel_rfl)) (fun _ _ _ h => h) (Or.inl ⟨by rfl, ?_⟩) ?_ ?_
                                  rotate_left
                                  · intro w'
                                    go_simp
                                    with_reducible rfl
                                  rotate_left
                                  · simp only [Act.put, List.setIfInBounds_toArray, List.set_cons_zero, List.set_cons_succ, i64_w, i32_w]
                                    rfl
                                  refine pure_ (i := 11) (N := some 78) (v := ?_) (a' := ?_) #[true, true, true, true, true, true, false, true, true, true, true, true, false, false, false] rfl rfl (any_of HT_.out (by kernel_rfl)) (fun _ _ _ h => h) (Or.inl ⟨by rfl, ?_⟩) ?_ ?_
                                  rotate_left
                                  · intro w'
                                    go_simp
                                    with_reducible rfl
                                  rotate_left
                                  · simp only [Act.put, List.setIfInBounds_toArray, List.set_cons_zero, List.set_cons_succ, i64_w, i32_w]
                                    rfl
                                  refine take_ (i := 6) (N := some 73) (v := ?_) (a' := ?_) #[true, true, true, true, true, true, true, true, true, true, true, true, false, false, false] rfl rfl (take_ofW HT_.out HW_.out (by kernel_rfl)) (fun _ _ _ h => h) (Or.inl ⟨by rfl, ?_⟩) hHeld ?_ ?_
                                  rotate_left
                                  · intro w' s0
                                    go_simp
                                    with_reducible rfl
                                  rotate_left
                                  · simp only [Act.put, List.setIfInBounds_toArray, List.set_cons_zero, List.set_cons_succ, i64_w, i32_w]
                                    rfl
                                  refine pure_ (i := 12) (N := some 79) (v := ?_) (a' := ?_) #[true, true, true, true, true, true, true, true, true, true, true, true, true, false, false] rfl rfl (any_of HT_.out (by kernel_rfl)) (fun _ _ _ h => h) (Or.inl ⟨by rfl, ?_⟩) ?_ ?_
                                  rotate_left
                                  · intro w'
                                    go_simp
                                    with_reducible rfl
                                  rotate_left
                                  · simp only [Act.put, List.setIfInBounds_toArray, List.set_cons_zero, List.set_cons_succ, i64_w, i32_w]
                                    rfl
                                  refine pure_ (i := 13) (N := some 80) (v := ?_) (a' := ?_) #[true, true, true, true, true, true, true, true, true, true, true, true, true, true, false] rfl rfl (any_of HT_.out (by kernel_rfl)) (fun _ _ _ h => h) (Or.inl ⟨by rfl, ?_⟩) ?_ ?_
                                  rotate_left
                                  · intro w'
                                    go_simp
                                    with_reducible rfl
                                  rotate_left
                                  · simp only [Act.put, List.setIfInBounds_toArray, List.set_cons_zero, List.set_cons_succ, i64_w, i32_w]
                                    rfl
                                  refine last_ (i := 14) (N := none) #[true, true, true, true, true, true, true, true, true, true, true, true, true, true, true] rfl rfl (one_of HT_.out (by kernel_rfl)) (by decide) (fun K hK => ?_)
                                  refine skip_ (w1 := ?_) (by rfl) rfl ?_ ?_
                                  rotate_left
                                  · go_simp
                                    rfl
                                  refine hK.out _ _ ?_
                                  clear hK K
                                  refine done_ (done_of HT_.out (by kernel_rfl)) ?_
                                  (try simp only [hl7_1] at hji32 hji32_ hji32z hji34 hji34w hji37 hji39 hji39_ hji39z hji39u hji39v)
                                  try go_wp2
                                  (try simp only [← hl7_1])
                                  go_roundg k1
                                  case measure => have := HK1.out; omega
                                  case rel => exact ⟨(y190), (wrap64 (x11_1 + 1)), (by first | rfl | (simp; done) | (simp [*]; done)), H', ⟨by have := HK1.out; omega⟩, ⟨by (try simp only [hl7_1]); (with_reducible repeat (first | apply Kd.R_alloc | apply Kd.R_drewN | apply Kd.R_drew)); exact HQ42.out⟩, ⟨by repeat (first | (with_reducible first | exact HB.out | apply below_alloc | apply pw_below_drewN | apply below_drew1 | refine below_set ?_ GB40.out) | exact HB.out)⟩⟩
                                · rw [if_neg c38] at H
                                  exact absurd H (by simp)
                              · rw [if_neg c36] at H
                                exact absurd H (by simp)
                            · rw [if_neg c35] at H
                              exact absurd H (by simp)
                          · rw [if_neg c33] at H
                            have c33b0 : ((Go.bits .and .u32 (ji32) 1) == 1) = false := beq_eq_false_iff_ne.mpr c33
                            have c33b1 : ((Go.bits .and .u32 (ji32) 1) != 1) = true := bne_iff_ne.mpr c33
                            have H' := Aside0.mk H
                            clear H
                            (try simp only [hl7_1] at hji32 hji32_ hji32z)
                            go_wp2
                            (try simp only [← hl7_1])
                            go_roundg k1
                            case measure => have := HK1.out; omega
                            case rel => exact ⟨(x7_1), (wrap64 (x11_1 + 1)), (by first | rfl | (simp; done) | (simp [*]; done)), H', ⟨by have := HK1.out; omega⟩, ⟨by (try simp only [hl7_1]); (with_reducible repeat (first | apply Kd.R_alloc | apply Kd.R_drewN | apply Kd.R_drew)); exact HO_7.out⟩, ⟨by repeat (first | (with_reducible first | exact HB.out | apply below_alloc | apply pw_below_drewN | apply below_drew1) | exact HB.out)⟩⟩
                        · rw [if_neg c31] at H
                          exact absurd H (by simp)
                      · rw [if_neg c30] at H
                        have c30b0 : decide (x11_1 < 32) = false := decide_eq_false c30
                        clear c30
                        replace H := Option.bind_eq_some_iff.mp H
                        obtain ⟨⟨t191, t192⟩, A430, H⟩ := H
                        replace H : (some (!t192)) = some r := H
                        have A43 := Aside0.mk A430
                        clear A430
                        obtain rfl := Option.some.inj H
                        go_wp2_with (first | ((with_reducible refine gate_callee (f := 27) rfl ?_); refine goesL_ (some 83) rfl rfl Try.func27 (by kernel_rfl) rfl #[.slice Ao25 x7_1.length co25] rfl (by (try simp only [List.map_toArray, List.map_cons, List.map_nil]); first | done | rfl | (simp only [List.length_drop, List.length_take]; rfl)) ?_; (with_reducible refine (crc32_Open.calls k1 _ _ x7_1 t191 t192 _ ?side1 ?side2 A43.out).mono ?_); (case side1 => repeat (first | exact (Kd.R_reads' HO_7.out).2.2 | (with_reducible refine Kd.C_alloc ?_ _) | (with_reducible refine Kd.C_drewN ?_ _) | (with_reducible refine Kd.C_drew ?_))); (case side2 => exact (Kd.R_reads' HO_7.out).2.1); rintro e w44 ⟨v193, rfl, ho0, hb⟩; refine ⟨_, rfl, ?_⟩; have n0_ := Aside0.mk (Kd.R_elder' (by (with_reducible repeat (first | apply Kd.R_alloc | apply Kd.R_drewN | apply Kd.R_drew)); exact HO_7.out) (Kd.R_base ho0) hb); have n1_ := Aside0.mk (Kd.R_lower (Kd.R_new' ho0 (Kd.R_lt (by (with_reducible repeat (first | apply Kd.R_alloc | apply Kd.R_drewN | apply Kd.R_drew)); exact HO_7.out))) (below_size (by repeat (first | (with_reducible first | exact HB.out | apply below_alloc | apply pw_below_drewN | apply below_drew1) | exact HB.out)))); have n2_ := Aside0.mk (below_step (by repeat (first | (with_reducible first | exact HB.out | apply below_alloc | apply pw_below_drewN | apply below_drew1) | exact HB.out)) hb); clear HO_7; clear HB; have HO_7 := n0_; have HO194 := n1_; have HB := n2_; clear n0_ n1_ n2_; (try clear hb); (try clear hb2); (try clear hk); (try clear hi); (try clear ho0)))
                        go_ret
                        exact ⟨by first | rfl | (simp [errW_none, errW_some] <;> rfl) | (simp only [← hji4]; first | rfl | (simp [errW_none, errW_some] <;> rfl)) | (simp [*, errW_none, errW_some] <;> rfl), by repeat (first | (with_reducible first | exact HB.out | apply below_alloc | apply pw_below_drewN | apply below_drew1) | exact HB.out)⟩
            · rw [if_neg c13] at H
              exact absurd H (by simp)
          · rw [if_neg c12] at H
            exact absurd H (by simp)
        · replace c11 := Bool.eq_false_iff.mpr c11
          subst c11
          have H1 : (none) = some r := by rw [if_neg (show ¬ (false = true) by decide)] at H; exact H
          clear H
          have H := H1
          clear H1
          exact absurd H (by simp)
      · replace c10 := Bool.eq_false_iff.mpr c10
        subst c10
        have H1 : (none) = some r := by rw [if_neg (show ¬ (false = true) by decide)] at H; exact H
        clear H
        have H := H1
        clear H1
        exact absurd H (by simp)
    · rw [if_neg c6] at H
      exact absurd H (by simp)
  · rw [if_neg c5] at H
    exact absurd H (by simp)

/-- THE ONE PURE STATEMENT of shuttlelaw04_Crc32Bursts: yours. -/
def shuttlelaw04_Crc32Bursts.Pure : Prop := ∀ (l0 : List Int) (a1 : Int) (a2 : Int), l0.length ≤ maxLen → l0.length * 1 ≤ 140737488351232 → (∀ x ∈ l0, (Lit.int .u8 x).wf = true) → (Lit.int .i64 a1).wf = true → (Lit.int .u32 a2).wf = true → ∃ k, shuttlelaw04_Crc32Bursts.f k l0 a1 a2 = some true
theorem shuttlelaw04_Crc32Bursts.walk (P : shuttlelaw04_Crc32Bursts.Pure) (a0 : Option Addr) (len0 cap0 : Nat) (z0 : List Int) (a1 : Int) (a2 : Int) (w : World) (w0 : (a0 = none ∧ len0 = 0 ∧ cap0 = 0 ∧ z0 = []) ∨ ∃ x, a0 = some x ∧ len0 ≤ cap0 ∧ cap0 ≤ maxLen ∧ z0.length = cap0 ∧ (∀ i, i < z0.length → w.cell? (x.add i) = some (.int .u8 (z0.getD i 0))) ∧ ∀ n ∈ z0, (Lit.int .u8 n).wf = true) (y0 : len0 * 1 ≤ 140737488351232) (w1 : (Lit.int .i64 a1).wf = true) (w2 : (Lit.int .u32 a2).wf = true) :
    Calls Try.prog 10 #[.slice a0 len0 cap0, .int .i64 a1, .int .u32 a2] w fun e w' => e = .returned (.bool true) ∧ Below w.heap.size w w' := by
  obtain ⟨l0, rfl, hr0, hm0, hw0, hc0⟩ := ReadsInt.ofRowC w0
  obtain ⟨k, h⟩ := P l0 a1 a2 hm0 y0 hw0 w1 w2
  refine (shuttlelaw04_Crc32Bursts.calls k _ _ l0 a1 a2 true w (Kd.C_of_reads (d := (0 : Int)) (h1 := fun _ => rfl) hr0) hc0 h).mono ?_
  rintro e w' ⟨rfl, hd⟩
  exact ⟨rfl, hd⟩

end Go.Proofs.Ytkhpgjojbdgkfaa.C
