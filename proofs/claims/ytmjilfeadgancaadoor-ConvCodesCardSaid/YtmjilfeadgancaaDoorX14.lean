-- Made by xprint.py (an own driver round the kit's print.py), with contracts of this session's own. Lean checks it.
import Derived.Test.YtmjilfeadgancaaDoorX0
namespace Go.Proofs.YtmjilfeadgancaaDoor.X
open Go.RowKit Go.Proofs.YtmjilfeadgancaaDoorW.PrintWords Go.Proofs.YtmjilfeadgancaaDoorW.PrintLast Go.Proofs.YtmjilfeadgancaaDoorW.PrintMore
attribute [local go_sem] max2_int min2_int max_two min_two max_three min_three max_four min_four   -- for this text's walks alone
set_option linter.unusedVariables false
set_option linter.unusedSimpArgs false

/-! ### shuttleref06_Bit: function 13 -/
attribute [local go_sem] run_index_arr

def tapsL : List Int := [1, 0, 0, 1, 1, 1, 1, 1, 0, 1, 0, 1, 1, 1, 1, 1, 0, 1, 1, 0, 1, 1, 1, 1, 1, 0, 0, 1]
def tapsV : Array Value := (nums .u8 tapsL).toArray
def tapAt (s k : Nat) : Int := tapsL.getD (s * 7 + k) 0
theorem taps_size : (Tryd.prog.info? 48).map (·.size) = some tapsV.size := by
  rw [show tapsV.size = 28 from rfl]
  kernel_rfl
theorem taps_one : tapsV.all (·.oneCell') = true := by decide +kernel
theorem taps_lit : #[Value.int .u8 1, .int .u8 0, .int .u8 0, .int .u8 1, .int .u8 1, .int .u8 1, .int .u8 1, .int .u8 1, .int .u8 0, .int .u8 1, .int .u8 0, .int .u8 1, .int .u8 1, .int .u8 1, .int .u8 1, .int .u8 1, .int .u8 0, .int .u8 1, .int .u8 1, .int .u8 0, .int .u8 1, .int .u8 1, .int .u8 1, .int .u8 1, .int .u8 1, .int .u8 0, .int .u8 0, .int .u8 1] = tapsV := rfl
/-- What a stream tells of a list at a step, behind k of the seven places. -/
def bitR (l : List Int) (step s : Nat) : Nat → Int
  | 0 => 0
  | k + 1 => if k ≤ step ∧ step - k < l.length then Go.bits .xor .u8 (bitR l step s k) (Go.bits .and .u8 (tapAt s k) (l.getD (step - k) 0)) else bitR l step s k
def shuttleref06_Bit.f (l0 : List Int) (a1 : Int) (a2 : Int) : Option Int := if 0 ≤ a1 ∧ a1 ≤ 9223372036854775807 ∧ 0 ≤ a2 ∧ a2 < 4 then some (bitR l0 a1.toNat a2.toNat 7) else none
set_option maxRecDepth 100000 in
set_option maxHeartbeats 4000000 in
theorem shuttleref06_taps_calls (w : World) :
    Calls Tryd.prog 21 #[] w fun e w' => e = .returned (.agg tapsV) ∧ Below w.heap.size w w' := by
  go_enter Tryd.func21, Tryd.ntmps21
  have k0 := Aside0.mk (heap_alloc_new w (.cells #[.int .u8 0, .int .u8 0, .int .u8 0, .int .u8 0, .int .u8 0, .int .u8 0, .int .u8 0, .int .u8 0, .int .u8 0, .int .u8 0, .int .u8 0, .int .u8 0, .int .u8 0, .int .u8 0, .int .u8 0, .int .u8 0, .int .u8 0, .int .u8 0, .int .u8 0, .int .u8 0, .int .u8 0, .int .u8 0, .int .u8 0, .int .u8 0, .int .u8 0, .int .u8 0, .int .u8 0, .int .u8 0] 48))
  go_wp2_with (refine wpList_store_row rfl 48 (.tmp 0) (.tmp 5) rfl w.heap.size tapsV rfl rfl 48 _ k0.out taps_size rfl taps_one ?_)
  refine bodyPost_ret (results_cell_row rfl _ _ w.heap.size 48 tapsV (0, 0) _ rfl (setRow_heap _ _ _ _ _ _ k0.out) Tryd.underlying48 rfl (by kernel_rfl)) rfl ?_
  exact ⟨rfl, below_setRow (below_alloc (Below.refl _ _) _) (Nat.le_refl _) _⟩
theorem tapsV_at (s k : Nat) (hs : s < 4) (hk : k < 7) : tapsV[s * 7 + k]? = some (.int .u8 (tapAt s k)) := by
  unfold tapsV tapAt nums
  have h : s * 7 + k < tapsL.length := by show _ < 28; omega
  rw [List.getElem?_toArray, List.getElem?_map, List.getElem?_eq_getElem h, List.getD_eq_getElem?_getD, List.getElem?_eq_getElem h]
  rfl
set_option maxRecDepth 100000 in
set_option maxHeartbeats 4000000 in
theorem shuttleref06_Bit.calls (A0 : Option Addr) (c0 : Nat) (l0 : List Int) (a1 : Int) (a2 : Int) (r : Int) (w : World) (hr0 : Kd.C (Kd.int .u8) w A0 l0.length l0) (hc0 : l0.length ≤ c0) (h : shuttleref06_Bit.f l0 a1 a2 = some r) :
    Calls Tryd.prog 13 #[.slice A0 l0.length c0, .int .i64 a1, .int .i64 a2] w fun e w' => e = .returned (.int .u8 r) ∧ Below w.heap.size w w' := by
  unfold shuttleref06_Bit.f at h
  by_cases hg : 0 ≤ a1 ∧ a1 ≤ 9223372036854775807 ∧ 0 ≤ a2 ∧ a2 < 4
  · rw [if_pos hg] at h
    obtain ⟨step, rfl⟩ := Int.eq_ofNat_of_zero_le hg.1
    obtain ⟨s, rfl⟩ := Int.eq_ofNat_of_zero_le hg.2.2.1
    have hs : s < 4 := by omega
    have hst : (step : Int) ≤ 9223372036854775807 := hg.2.1
    clear hg
    simp only [Int.toNat_natCast, Option.some.injEq] at h
    subst h
    replace hr0 := Aside0.mk hr0
    have hl0 : (l0.length : Int) ≤ 9223372036854775807 := by
      have := hr0.out.2.1
      omega
    go_enter Tryd.func13, Tryd.ntmps13
    go_wp2_with (first | ((with_reducible refine gate_callee (f := 21) rfl ?_); refine goesL_ (some 10) rfl rfl Tryd.func21 (by kernel_rfl) rfl #[] rfl (by (try simp only [List.map_toArray, List.map_cons, List.map_nil]); first | done | rfl) ?_; (with_reducible refine (shuttleref06_taps_calls _).mono ?_); rintro e w1 ⟨rfl, HB0⟩; refine ⟨_, rfl, ?_⟩; have HB := Aside0.mk HB0; clear HB0)  | ((with_reducible refine gate_dst (N := 7) rfl ?_); refine box_event ?hg (N := 7) ?hd (cs := #[.int .u8 0, .int .u8 0, .int .u8 0, .int .u8 0, .int .u8 0, .int .u8 0, .int .u8 0, .int .u8 0, .int .u8 0, .int .u8 0, .int .u8 0, .int .u8 0, .int .u8 0, .int .u8 0, .int .u8 0, .int .u8 0, .int .u8 0, .int .u8 0, .int .u8 0, .int .u8 0, .int .u8 0, .int .u8 0, .int .u8 0, .int .u8 0, .int .u8 0, .int .u8 0, .int .u8 0, .int .u8 0]) (t := 48) ?hr ?_; (case hd => rfl); (case hg => rfl); (case hr => first | (go_simp; done) | (go_simp; rfl)); intro g hge w2 hbox0 hb0; have hbox := Aside0.mk hbox0; have HB1 := Aside0.mk (below_step HB.out hb0); have hgl := Aside0.mk (show w.heap.size ≤ g by rw [hge]; exact HB.out.size); clear HB hbox0 hb0 hge)  | (refine wpList_store_row rfl 48 (.tmp 7) (.tmp 10) rfl g tapsV rfl rfl 48 _ hbox.out taps_size rfl taps_one ?_; have BK := Aside0.mk (setRow_heap w2 g _ tapsV _ _ hbox.out); have HB2 := Aside0.mk (below_setRow HB1.out hgl.out tapsV); clear hbox HB1; obtain ⟨w3, hw3⟩ : ∃ w3, w2.setRow g tapsV = w3 := ⟨_, rfl⟩; rw [hw3] at BK HB2 ⊢; clear hw3))
    replace hst := Aside0.mk hst
    replace hl0 := Aside0.mk hl0
    go_loopw [8, 9] (fun v8 v9 wr => ∃ q : Nat, q ≤ 7 ∧ v8 = .int .u8 (bitR l0 step s q) ∧ v9 = .int .i64 (q : Int) ∧ Aside0 (wr.heap[g]? = some (.cells tapsV 48 (0, 0))) ∧ Aside0 (Below w.heap.size w wr)) (fun _ v9 _ => 7 - (intOf v9).toNat)
    case atStart => exact ⟨0, by omega, rfl, rfl, BK, HB2⟩
    case round =>
      clear BK HB2
      obtain ⟨q, hq, rfl, rfl, BK, HB⟩ := hrel
      by_cases hq7 : q < 7
      · have hlt7 : (q : Int) < 7 := by omega
        by_cases c1 : q ≤ step
        · obtain ⟨d, hd⟩ : ∃ d, step - q = d := ⟨_, rfl⟩
          have e1 : wrap64 ((step : Int) - (q : Int)) = (d : Int) := by have := hst.out; unfold wrap64; omega
          have e2 : (0 : Int) ≤ (d : Int) := by omega
          by_cases c2 : d < l0.length
          · have e3 : (d : Int) < (l0.length : Int) := by omega
            obtain ⟨ad, hA, hcs⟩ := (Kd.C_below hr0.out HB.out).2.2 (by omega)
            subst hA
            have hx : wr.cell? (ad.add d) = some (.int .u8 (l0.getD d 0)) := by
              obtain ⟨c, h1, h2, h3⟩ := hcs d _ (List.getElem?_eq_getElem c2)
              have h2' : c = [Value.int .u8 l0[d]] := h2
              subst h2'
              have h4 := h3 0 _ rfl
              rw [List.getD_eq_getElem?_getD, List.getElem?_eq_getElem c2]
              simpa [Kd.int, Kd.scalar] using h4
            have hy := (blk_cell BK.out (s * 7 + q)).trans (tapsV_at s q hs hq7)
            clear hcs
            go_wp2
            go_region
            all_goals
              go_wp2
              have es : wrap64 ((q : Int) + 1) = ((q + 1 : Nat) : Int) := by unfold wrap64; omega
              go_roundw
              case rel =>
                refine ⟨q + 1, by omega, ?_, by first | rfl | rw [es] | (simp; done), ⟨by first | exact BK.out | (exact blk_drew BK.out)⟩, ⟨by first | exact HB.out | exact below_drew1 HB.out⟩⟩
                show _ = Value.int .u8 (bitR l0 step s (q + 1))
                rw [bitR, if_pos ⟨c1, by rw [hd]; exact c2⟩, hd, List.getD_eq_getElem?_getD, List.getElem?_eq_getElem c2]
                rfl
              case measure => simp [intOf]; omega
          · have e3 : ¬ (d : Int) < (l0.length : Int) := by omega
            go_wp2
            have es : wrap64 ((q : Int) + 1) = ((q + 1 : Nat) : Int) := by unfold wrap64; omega
            go_roundw
            case rel =>
              refine ⟨q + 1, by omega, ?_, by first | rfl | rw [es] | (simp; done), BK, HB⟩
              show _ = Value.int .u8 (bitR l0 step s (q + 1))
              rw [bitR, if_neg (fun h => c2 (by rw [← hd]; exact h.2))]
            case measure => simp [intOf]; omega
        · have e1 : wrap64 ((step : Int) - (q : Int)) = (step : Int) - (q : Int) := by unfold wrap64; omega
          have e2 : ¬ (0 : Int) ≤ (step : Int) - (q : Int) := by omega
          have e3 : ¬ (q : Int) ≤ (step : Int) := by omega
          go_wp2
          have es : wrap64 ((q : Int) + 1) = ((q + 1 : Nat) : Int) := by unfold wrap64; omega
          go_roundw
          case rel =>
            refine ⟨q + 1, by omega, ?_, by first | rfl | rw [es] | (simp; done), BK, HB⟩
            show _ = Value.int .u8 (bitR l0 step s (q + 1))
            rw [bitR, if_neg (fun h => c1 h.1)]
          case measure => simp [intOf]; omega
      · obtain rfl : q = 7 := by omega
        go_wp2
        go_ret
        exact ⟨by first | rfl | (simp; done), HB.out⟩
  · rw [if_neg hg] at h; cases h

end Go.Proofs.YtmjilfeadgancaaDoor.X
