/- Texts of this seat, one behind the other (merge.py): the walks of the functions that the law DistanceHolds uses, and plain words on what they come to. No condition. -/
import Derived.Carry
import Derived.Laws.BytesArg
import Derived.Test.YtijpnlmejphfhaaDoorWTab
import Derived.WideKeyArr
import Derived.WideKeyElems2
import Derived.ChangeSame
import Derived.Test.YtijpnlmejphfhaaDoorXMDistanceHolds2
-- YtijpnlmejphfhaaDoorPDHeap3
namespace Go.Proofs.YtijpnlmejphfhaaDoor.P
open Go Go.Proofs Go.RowKit Go.Proofs.YtijpnlmejphfhaaDoorW.PrintWords Go.Proofs.YtijpnlmejphfhaaDoorW.PrintLast Go.Proofs.YtijpnlmejphfhaaDoorW.PrintMore
set_option linter.unusedVariables false
set_option linter.unusedSimpArgs false

variable {w : World} {n₀ g : Nat} {q0 q1 q2 q3 : Int} {M v : Value} {L : List Wy}
theorem swap_out (L : List Wy) (i j n : Nat) (hi : i ≠ n) (hj : j ≠ n) : farOf (swapL L i j) n = farOf L n ∧ (swapL L i j).getD n (0, 0, 0) = L.getD n (0, 0, 0) := by
  have e : (swapL L i j).getD n (0, 0, 0) = L.getD n (0, 0, 0) := by
    unfold swapL
    rw [List.getD_eq_getElem?_getD, List.getElem?_set_ne hj, List.getElem?_set_ne hi, List.getD_eq_getElem?_getD]
  exact ⟨by unfold farOf; rw [e], e⟩
set_option maxRecDepth 100000 in
set_option maxHeartbeats 4000000 in
theorem down_calls {b c n : Nat} (h : HS w n₀ g q0 q1 q2 q3 M (.slice (some ⟨b, 0, none⟩) L.length c) L) (hn : n < L.length) (hl : L.length ≤ 2000) (hD : DnI L n 0) :
    Calls Tryd.prog 51 #[.iface 91 (.pointer (some ⟨g, 4, none⟩)), .int .i64 0, .int .i64 (n : Int)] w fun e w' =>
      ∃ bv, e = .returned (.bool bv) ∧ ∃ L', L'.length = L.length ∧ HS w' n₀ g q0 q1 q2 q3 M (.slice (some ⟨b, 0, none⟩) L.length c) L' ∧ w.grownBy w' (some b) ∧ L'.Perm L ∧ HeapN L' n ∧ L'.getD n (0, 0, 0) = L.getD n (0, 0, 0) := by
  have mL := mLess g
  have eL := eLess
  have eS := eSwap
  have mS := mSwap g
  have HH := Aside0.mk h
  have HD := Aside0.mk hD
  obtain ⟨N, hN⟩ : ∃ N, N = L.length := ⟨_, rfl⟩
  have HN := Aside0.mk hN
  have hnN : n < N := by omega
  have hN2 : N ≤ 2000 := by omega
  rw [← hN]
  rw [← hN] at HH
  clear h hD hN hn hl
  go_enter Tryd.func51, Tryd.ntmps51
  go_wp2_with fail
  go_loopw [7] (fun v7 wr => ∃ (i : Nat) (L' : List Wy), v7 = .int .i64 (i : Int) ∧ i ≤ n ∧ Aside0 (L'.length = N) ∧ Aside0 (HS wr n₀ g q0 q1 q2 q3 M (.slice (some ⟨b, 0, none⟩) N c) L') ∧ Aside0 (w.grownBy wr (some b)) ∧ Aside0 (L'.Perm L) ∧ Aside0 (DnI L' n i) ∧ Aside0 (L'.getD n (0, 0, 0) = L.getD n (0, 0, 0))) (fun v7 _ => n - (intOf v7).toNat)
  case atStart => exact ⟨0, L, rfl, by omega, ⟨HN.out.symm⟩, HH, ⟨grown_below (Below.refl _ _) _⟩, ⟨List.Perm.refl _⟩, HD, ⟨rfl⟩⟩
  case round =>
    clear HH HD
    obtain ⟨i, L', rfl, hin, HL, HH, HG, HP, HD, HK⟩ := hrel
    have hc4 : wr.cell? ⟨g, 4, none⟩ = some (.slice (some ⟨b, 0, none⟩) N c) := blk_cell HH.out.blk 4
    by_cases hc1 : 2 * i + 1 < n
    · have hd1 : decide ((n : Int) ≤ 2 * (i : Int) + 1) = false := decide_eq_false (by omega)
      have hib : (i : Int) < 2000 := by omega
      obtain ⟨j1, hj1⟩ : ∃ j1 : Nat, j1 = 2 * i + 1 := ⟨_, rfl⟩
      obtain ⟨j2, hj2⟩ : ∃ j2 : Nat, j2 = 2 * i + 2 := ⟨_, rfl⟩
      have he1 : 2 * (i : Int) + 1 = (j1 : Int) := by omega
      have he2 : (j1 : Int) + 1 = (j2 : Int) := by omega
      have hj1b : (j1 : Int) < (n : Int) := by omega
      have hj2b : (j2 : Int) ≤ (n : Int) := by omega
      have hnb : (n : Int) < 2000 := by omega
      have HJ := Aside0.mk (And.intro hj1 hj2)
      obtain ⟨ch, hch⟩ : ∃ ch, ch = chld L' n i := ⟨_, rfl⟩
      have HCH := Aside0.mk hch
      by_cases hc2 : 2 * i + 2 < n
      · have hd2 : decide ((j2 : Int) < (n : Int)) = true := decide_eq_true (by omega)
        have hR : Kd.R kW 88 wr n₀ (fun _ => True) (.slice (some ⟨b, 0, none⟩) L'.length c) L' := by rw [HL.out]; exact HH.out.row
        have hls := less_calls hR j2 j1 (by rw [HL.out]; omega) (by rw [HL.out]; omega) (by rw [HL.out]; omega)
        rw [HL.out] at hls
        by_cases hlt : farOf L' j2 < farOf L' j1
        · rw [decide_eq_true hlt] at hls
          have hce : ch = j2 := by rw [hch]; unfold chld; rw [if_pos ⟨hc2, by rw [← hj1, ← hj2]; exact hlt⟩, hj2]
          have HLS := Aside0.mk hls
          clear hls hR hlt hch hj1 hj2
          subst hce
          go_wp2_with (first | (go_at_call 80; refine Aside0.out ?_) | fail)
          refine Aside0.mk ?_
          refine HLS.out.mono ?_
          rintro e w1 ⟨rfl, hb1⟩
          have HH1 := Aside0.mk (HH.out.below hb1)
          have HG1 := Aside0.mk (HG.out.trans (grown_below hb1 _))
          clear hb1 HLS hc4
          have hc4 : w1.cell? ⟨g, 4, none⟩ = some (.slice (some ⟨b, 0, none⟩) N c) := blk_cell HH1.out.blk 4
          have hR : Kd.R kW 88 w1 n₀ (fun _ => True) (.slice (some ⟨b, 0, none⟩) L'.length c) L' := by rw [HL.out]; exact HH1.out.row
          have hls := less_calls hR ch i (by rw [HL.out]; omega) (by rw [HL.out]; omega) (by rw [HL.out]; omega)
          rw [HL.out] at hls
          by_cases hlt : farOf L' ch < farOf L' i
          · rw [decide_eq_true hlt] at hls
            have HLS := Aside0.mk hls
            have HLT := Aside0.mk hlt
            clear hls hR hlt
            go_wp2_with (first | (go_at_call 80; refine Aside0.out ?_) | fail)
            refine Aside0.mk ?_
            refine HLS.out.mono ?_
            rintro e w5 ⟨rfl, hb1⟩
            have HH5 := Aside0.mk (HH1.out.below hb1)
            have HG5 := Aside0.mk (HG1.out.trans (grown_below hb1 _))
            clear hb1 HLS hc4
            have hc4 : w5.cell? ⟨g, 4, none⟩ = some (.slice (some ⟨b, 0, none⟩) N c) := blk_cell HH5.out.blk 4
            have hR1 : Kd.R kW 88 w5 n₀ (fun _ => True) (.slice (some ⟨b, 0, none⟩) L'.length c) L' := by rw [HL.out]; exact HH5.out.row
            have hsw := swap_calls hR1 i ch (by rw [HL.out]; omega) (by rw [HL.out]; omega) (by rw [HL.out]; omega)
            rw [HL.out] at hsw
            have HSW := Aside0.mk hsw
            clear hsw hR1
            go_wp2_with (first | (go_at_call 81; refine Aside0.out ?_) | fail)
            refine Aside0.mk ?_
            refine HSW.out.mono ?_
            rintro e w6 ⟨rfl, hr2, hg2⟩
            have hH1 : HS w5 n₀ g q0 q1 q2 q3 M (.slice (some ⟨b, 0, none⟩) L'.length c) L' := by rw [HL.out]; exact HH5.out
            have hH2 := hH1.grown (by rw [HL.out]; exact hr2) hg2
            rw [HL.out] at hH2
            have HH6 := Aside0.mk hH2
            have HG6 := Aside0.mk (HG5.out.trans hg2)
            have HD6 := Aside0.mk (dn_step (by rw [HL.out]; omega) hc1 HD.out (by rw [← HCH.out]; exact HLT.out))
            have HP6 := Aside0.mk ((swap_perm L' i ch (by rw [HL.out]; omega) (by rw [HL.out]; omega)).trans HP.out)
            have HK6 := Aside0.mk (show farOf (swapL L' i ch) n = farOf L' n ∧ (swapL L' i ch).getD n (0, 0, 0) = L'.getD n (0, 0, 0) from swap_out L' i ch n (by omega) (by omega))
            clear hr2 hg2 hH1 hH2 hc4 HSW
            go_wp2_with fail
            go_roundw
            case rel => exact ⟨ch, swapL L' i ch, rfl, by omega, ⟨by rw [swapL_length]; exact HL.out⟩, HH6, HG6, HP6, ⟨by rw [HCH.out]; rw [← HCH.out] at HD6 ⊢; exact HD6.out⟩, ⟨HK6.out.2.trans HK.out⟩⟩
            case measure => simp [intOf]; omega
          · rw [decide_eq_false hlt] at hls
            have HLS := Aside0.mk hls
            have HLT := Aside0.mk hlt
            clear hls hR hlt
            go_wp2_with (first | (go_at_call 80; refine Aside0.out ?_) | fail)
            refine Aside0.mk ?_
            refine HLS.out.mono ?_
            rintro e w5 ⟨rfl, hb1⟩
            have HH5 := Aside0.mk (HH1.out.below hb1)
            have HG5 := Aside0.mk (HG1.out.trans (grown_below hb1 _))
            clear hb1 HLS hc4
            have hc4 : w5.cell? ⟨g, 4, none⟩ = some (.slice (some ⟨b, 0, none⟩) N c) := blk_cell HH5.out.blk 4
            go_wp2_with fail
            go_ret
            exact ⟨_, rfl, L', HL.out, HH5.out, HG5.out, HP.out, dn_stop HD.out (fun k k0 kl kp => Int.le_trans (by rw [← HCH.out]; have := HLT.out; omega) (chld_le k0 kl kp)), HK.out⟩
        · rw [decide_eq_false hlt] at hls
          have hce : ch = j1 := by rw [hch]; unfold chld; rw [if_neg (fun q => hlt (by rw [hj1, hj2]; exact q.2)), hj1]
          have HLS := Aside0.mk hls
          clear hls hR hlt hch hj1 hj2
          subst hce
          go_wp2_with (first | (go_at_call 80; refine Aside0.out ?_) | fail)
          refine Aside0.mk ?_
          refine HLS.out.mono ?_
          rintro e w1 ⟨rfl, hb1⟩
          have HH1 := Aside0.mk (HH.out.below hb1)
          have HG1 := Aside0.mk (HG.out.trans (grown_below hb1 _))
          clear hb1 HLS hc4
          have hc4 : w1.cell? ⟨g, 4, none⟩ = some (.slice (some ⟨b, 0, none⟩) N c) := blk_cell HH1.out.blk 4
          have hR : Kd.R kW 88 w1 n₀ (fun _ => True) (.slice (some ⟨b, 0, none⟩) L'.length c) L' := by rw [HL.out]; exact HH1.out.row
          have hls := less_calls hR ch i (by rw [HL.out]; omega) (by rw [HL.out]; omega) (by rw [HL.out]; omega)
          rw [HL.out] at hls
          by_cases hlt : farOf L' ch < farOf L' i
          · rw [decide_eq_true hlt] at hls
            have HLS := Aside0.mk hls
            have HLT := Aside0.mk hlt
            clear hls hR hlt
            go_wp2_with (first | (go_at_call 80; refine Aside0.out ?_) | fail)
            refine Aside0.mk ?_
            refine HLS.out.mono ?_
            rintro e w5 ⟨rfl, hb1⟩
            have HH5 := Aside0.mk (HH1.out.below hb1)
            have HG5 := Aside0.mk (HG1.out.trans (grown_below hb1 _))
            clear hb1 HLS hc4
            have hc4 : w5.cell? ⟨g, 4, none⟩ = some (.slice (some ⟨b, 0, none⟩) N c) := blk_cell HH5.out.blk 4
            have hR1 : Kd.R kW 88 w5 n₀ (fun _ => True) (.slice (some ⟨b, 0, none⟩) L'.length c) L' := by rw [HL.out]; exact HH5.out.row
            have hsw := swap_calls hR1 i ch (by rw [HL.out]; omega) (by rw [HL.out]; omega) (by rw [HL.out]; omega)
            rw [HL.out] at hsw
            have HSW := Aside0.mk hsw
            clear hsw hR1
            go_wp2_with (first | (go_at_call 81; refine Aside0.out ?_) | fail)
            refine Aside0.mk ?_
            refine HSW.out.mono ?_
            rintro e w6 ⟨rfl, hr2, hg2⟩
            have hH1 : HS w5 n₀ g q0 q1 q2 q3 M (.slice (some ⟨b, 0, none⟩) L'.length c) L' := by rw [HL.out]; exact HH5.out
            have hH2 := hH1.grown (by rw [HL.out]; exact hr2) hg2
            rw [HL.out] at hH2
            have HH6 := Aside0.mk hH2
            have HG6 := Aside0.mk (HG5.out.trans hg2)
            have HD6 := Aside0.mk (dn_step (by rw [HL.out]; omega) hc1 HD.out (by rw [← HCH.out]; exact HLT.out))
            have HP6 := Aside0.mk ((swap_perm L' i ch (by rw [HL.out]; omega) (by rw [HL.out]; omega)).trans HP.out)
            have HK6 := Aside0.mk (show farOf (swapL L' i ch) n = farOf L' n ∧ (swapL L' i ch).getD n (0, 0, 0) = L'.getD n (0, 0, 0) from swap_out L' i ch n (by omega) (by omega))
            clear hr2 hg2 hH1 hH2 hc4 HSW
            go_wp2_with fail
            go_roundw
            case rel => exact ⟨ch, swapL L' i ch, rfl, by omega, ⟨by rw [swapL_length]; exact HL.out⟩, HH6, HG6, HP6, ⟨by rw [HCH.out]; rw [← HCH.out] at HD6 ⊢; exact HD6.out⟩, ⟨HK6.out.2.trans HK.out⟩⟩
            case measure => simp [intOf]; omega
          · rw [decide_eq_false hlt] at hls
            have HLS := Aside0.mk hls
            have HLT := Aside0.mk hlt
            clear hls hR hlt
            go_wp2_with (first | (go_at_call 80; refine Aside0.out ?_) | fail)
            refine Aside0.mk ?_
            refine HLS.out.mono ?_
            rintro e w5 ⟨rfl, hb1⟩
            have HH5 := Aside0.mk (HH1.out.below hb1)
            have HG5 := Aside0.mk (HG1.out.trans (grown_below hb1 _))
            clear hb1 HLS hc4
            have hc4 : w5.cell? ⟨g, 4, none⟩ = some (.slice (some ⟨b, 0, none⟩) N c) := blk_cell HH5.out.blk 4
            go_wp2_with fail
            go_ret
            exact ⟨_, rfl, L', HL.out, HH5.out, HG5.out, HP.out, dn_stop HD.out (fun k k0 kl kp => Int.le_trans (by rw [← HCH.out]; have := HLT.out; omega) (chld_le k0 kl kp)), HK.out⟩
      · have hd2 : decide ((j2 : Int) < (n : Int)) = false := decide_eq_false (by omega)
        have hce : ch = j1 := by rw [hch]; unfold chld; rw [if_neg (fun q => hc2 q.1), hj1]
        clear hch hj1 hj2
        subst hce
        have hR : Kd.R kW 88 wr n₀ (fun _ => True) (.slice (some ⟨b, 0, none⟩) L'.length c) L' := by rw [HL.out]; exact HH.out.row
        have hls := less_calls hR ch i (by rw [HL.out]; omega) (by rw [HL.out]; omega) (by rw [HL.out]; omega)
        rw [HL.out] at hls
        by_cases hlt : farOf L' ch < farOf L' i
        · rw [decide_eq_true hlt] at hls
          have HLS := Aside0.mk hls
          have HLT := Aside0.mk hlt
          clear hls hR hlt
          go_wp2_with (first | (go_at_call 80; refine Aside0.out ?_) | fail)
          refine Aside0.mk ?_
          refine HLS.out.mono ?_
          rintro e w5 ⟨rfl, hb1⟩
          have HH5 := Aside0.mk (HH.out.below hb1)
          have HG5 := Aside0.mk (HG.out.trans (grown_below hb1 _))
          clear hb1 HLS hc4
          have hc4 : w5.cell? ⟨g, 4, none⟩ = some (.slice (some ⟨b, 0, none⟩) N c) := blk_cell HH5.out.blk 4
          have hR1 : Kd.R kW 88 w5 n₀ (fun _ => True) (.slice (some ⟨b, 0, none⟩) L'.length c) L' := by rw [HL.out]; exact HH5.out.row
          have hsw := swap_calls hR1 i ch (by rw [HL.out]; omega) (by rw [HL.out]; omega) (by rw [HL.out]; omega)
          rw [HL.out] at hsw
          have HSW := Aside0.mk hsw
          clear hsw hR1
          go_wp2_with (first | (go_at_call 81; refine Aside0.out ?_) | fail)
          refine Aside0.mk ?_
          refine HSW.out.mono ?_
          rintro e w6 ⟨rfl, hr2, hg2⟩
          have hH1 : HS w5 n₀ g q0 q1 q2 q3 M (.slice (some ⟨b, 0, none⟩) L'.length c) L' := by rw [HL.out]; exact HH5.out
          have hH2 := hH1.grown (by rw [HL.out]; exact hr2) hg2
          rw [HL.out] at hH2
          have HH6 := Aside0.mk hH2
          have HG6 := Aside0.mk (HG5.out.trans hg2)
          have HD6 := Aside0.mk (dn_step (by rw [HL.out]; omega) hc1 HD.out (by rw [← HCH.out]; exact HLT.out))
          have HP6 := Aside0.mk ((swap_perm L' i ch (by rw [HL.out]; omega) (by rw [HL.out]; omega)).trans HP.out)
          have HK6 := Aside0.mk (show farOf (swapL L' i ch) n = farOf L' n ∧ (swapL L' i ch).getD n (0, 0, 0) = L'.getD n (0, 0, 0) from swap_out L' i ch n (by omega) (by omega))
          clear hr2 hg2 hH1 hH2 hc4 HSW
          go_wp2_with fail
          go_roundw
          case rel => exact ⟨ch, swapL L' i ch, rfl, by omega, ⟨by rw [swapL_length]; exact HL.out⟩, HH6, HG6, HP6, ⟨by rw [HCH.out]; rw [← HCH.out] at HD6 ⊢; exact HD6.out⟩, ⟨HK6.out.2.trans HK.out⟩⟩
          case measure => simp [intOf]; omega
        · rw [decide_eq_false hlt] at hls
          have HLS := Aside0.mk hls
          have HLT := Aside0.mk hlt
          clear hls hR hlt
          go_wp2_with (first | (go_at_call 80; refine Aside0.out ?_) | fail)
          refine Aside0.mk ?_
          refine HLS.out.mono ?_
          rintro e w5 ⟨rfl, hb1⟩
          have HH5 := Aside0.mk (HH.out.below hb1)
          have HG5 := Aside0.mk (HG.out.trans (grown_below hb1 _))
          clear hb1 HLS hc4
          have hc4 : w5.cell? ⟨g, 4, none⟩ = some (.slice (some ⟨b, 0, none⟩) N c) := blk_cell HH5.out.blk 4
          go_wp2_with fail
          go_ret
          exact ⟨_, rfl, L', HL.out, HH5.out, HG5.out, HP.out, dn_stop HD.out (fun k k0 kl kp => Int.le_trans (by rw [← HCH.out]; have := HLT.out; omega) (chld_le k0 kl kp)), HK.out⟩
    · have hd1 : decide ((n : Int) ≤ 2 * (i : Int) + 1) = true := decide_eq_true (by omega)
      go_wp2_with fail
      go_ret
      exact ⟨_, rfl, L', HL.out, HH.out, HG.out, HP.out, dn_stop HD.out (fun k k0 kl kp => by omega), HK.out⟩
end Go.Proofs.YtijpnlmejphfhaaDoor.P

-- YtijpnlmejphfhaaDoorPDHeap4
namespace Go.Proofs.YtijpnlmejphfhaaDoor.P
open Go Go.Proofs Go.RowKit Go.Proofs.YtijpnlmejphfhaaDoorW.PrintWords Go.Proofs.YtijpnlmejphfhaaDoorW.PrintLast Go.Proofs.YtijpnlmejphfhaaDoorW.PrintMore
set_option linter.unusedVariables false
set_option linter.unusedSimpArgs false

variable {w : World} {n₀ g : Nat} {q0 q1 q2 q3 : Int} {M v : Value} {L : List Wy}
theorem Fr.of_grown {g b : Nat} {v : Value} {w w' : World} (h : w.grownBy w' (some b)) (hv : v.ownBlock = some b) : Fr g v w w' := ⟨h.os, h.tape, h.output, h.size, fun k hk _ hkv => h.block k hk (by rw [← hv]; exact hkv)⟩
theorem mPush' (g : Nat) (w : World) : (method 235 91 (.pointer (some ⟨g, 4, none⟩)) "Push").run Tryd.prog w = .ok (83, .pointer (some ⟨g, 4, none⟩)) w := mPush g w
set_option maxRecDepth 100000 in
set_option maxHeartbeats 4000000 in
theorem hpush_calls (h : HS w n₀ g q0 q1 q2 q3 M v L) (hh : HeapN L L.length) (x0 x1 x2 : Int) (hl : L.length < 2000) :
    Calls Tryd.prog 49 #[.iface 91 (.pointer (some ⟨g, 4, none⟩)), .iface 88 (.agg #[.int .i64 x0, .int .i64 x1, .int .i64 x2])] w fun e w' =>
      e = .returned (.tuple #[]) ∧ ∃ v' L', HS w' n₀ g q0 q1 q2 q3 M v' L' ∧ Fr g v w w' ∧ Newer w v v' ∧ L'.Perm (L ++ [(x0, x1, x2)]) ∧ HeapN L' L'.length := by
  have mL := mLen g
  have eL := eLen
  have eP := eEnter
  have mP := mPush g
  have HPU := Aside0.mk (push_calls h x0 x1 x2 (by omega))
  have HUP := Aside0.mk (push_start (x0, x1, x2) hh)
  have HLN := Aside0.mk hl
  clear h hh hl
  go_enter Tryd.func49, Tryd.ntmps49
  go_wp2_with (first | (go_at_call 83; refine Aside0.out ?_) | fail)
  refine Aside0.mk ?_
  refine HPU.out.mono ?_
  rintro e w1 ⟨rfl, v1, hH1, hF1, hN1⟩
  obtain ⟨b, c, e1⟩ := ways_blk hH1.row (by simp)
  subst e1
  have hlen : (L ++ [(x0, x1, x2)]).length = L.length + 1 := by simp
  have hup := up_calls hH1 L.length (by omega) (by have := HLN.out; omega) HUP.out
  obtain ⟨L1, hL1⟩ : ∃ L1, L1 = L ++ [(x0, x1, x2)] := ⟨_, rfl⟩
  rw [← hL1] at hup hH1 hN1 hlen
  obtain ⟨n, hn⟩ : ∃ n, n = L.length := ⟨_, rfl⟩
  rw [← hn] at hup hlen
  obtain ⟨N, hN⟩ : ∃ N, N = L1.length := ⟨_, rfl⟩
  have hsub : (N : Int) - 1 = (n : Int) := by omega
  have hNb : (N : Int) ≤ 2000 := by have := HLN.out; omega
  rw [← hN] at hup hH1 hN1
  have hc4 : w1.cell? ⟨g, 4, none⟩ = some (.slice (some ⟨b, 0, none⟩) N c) := blk_cell hH1.blk 4
  have H1 := Aside0.mk (And.intro hF1 (And.intro hN1 (And.intro hL1 hN)))
  have HUPC := Aside0.mk hup
  clear hH1 hF1 hN1 hL1 hn hN hlen hup HPU HUP
  go_wp2_with (first
    | (go_at_call 79; refine (len_calls _ _ _ _).mono ?_; rintro e w2 ⟨rfl, rfl⟩)
    | (go_at_call 54; refine Aside0.out ?_)
    | fail)
  refine Aside0.mk ?_
  refine HUPC.out.mono ?_
  rintro e w2 ⟨rfl, L2, hl2, hH2, hg2, hp2, hh2⟩
  have H2 := Aside0.mk (And.intro hH2 (And.intro hg2 (And.intro hp2 (And.intro hh2 hl2))))
  clear hH2 hg2 hp2 hh2 hl2 HUPC hc4
  go_wp2_with fail
  refine bodyPost_end (results_none rfl _ _ _) rfl ?_
  obtain ⟨hH2, hg2, hp2, hh2, hl2⟩ := H2.out
  obtain ⟨hF1, hN1, hL1, hN⟩ := H1.out
  exact ⟨by simp, _, L2, hH2, hF1.trans hN1 (Fr.of_grown hg2 rfl), hN1, by rw [← hL1]; exact hp2, by rw [hl2]; exact hh2⟩
end Go.Proofs.YtijpnlmejphfhaaDoor.P

-- YtijpnlmejphfhaaDoorPDHeap5
namespace Go.Proofs.YtijpnlmejphfhaaDoor.P
open Go Go.Proofs Go.RowKit Go.Proofs.YtijpnlmejphfhaaDoorW.PrintWords Go.Proofs.YtijpnlmejphfhaaDoorW.PrintLast Go.Proofs.YtijpnlmejphfhaaDoorW.PrintMore
set_option linter.unusedVariables false
set_option linter.unusedSimpArgs false

variable {w : World} {n₀ g : Nat} {q0 q1 q2 q3 : Int} {M v : Value} {L : List Wy}
theorem take_getD (L : List Wy) (n k : Nat) (h : k < n) : (L.take n).getD k (0, 0, 0) = L.getD k (0, 0, 0) := by
  rw [List.getD_eq_getElem?_getD, List.getElem?_take_of_lt h, List.getD_eq_getElem?_getD]
/-- What is left behind the root. -/
theorem pop_plain {L L2 : List Wy} {n : Nat} (hn : L.length = n + 1) (h2 : L2.length = n + 1) (hp : L2.Perm (swapL L 0 n)) (hh : HeapN L2 n) (hl : L2.getD n (0, 0, 0) = (swapL L 0 n).getD n (0, 0, 0)) :
    ∃ L3, L2 = L3 ++ [L.getD 0 (0, 0, 0)] ∧ L3.length = n ∧ (L.getD 0 (0, 0, 0) :: L3).Perm L ∧ HeapN L3 L3.length := by
  have hx : (swapL L 0 n).getD n (0, 0, 0) = L.getD 0 (0, 0, 0) := by
    unfold swapL
    rw [List.getD_eq_getElem?_getD, List.getElem?_set_self (by rw [List.length_set]; omega)]; rfl
  have e : L2 = L2.take n ++ [L.getD 0 (0, 0, 0)] := by
    rw [← hx, ← hl, getD_at L2 n (by omega), ← List.take_succ_eq_append_getElem (by omega), List.take_of_length_le (by omega)]
  have hlt : (L2.take n).length = n := by rw [List.length_take]; omega
  refine ⟨L2.take n, e, hlt, ?_, ?_⟩
  · have h3 := hp.trans (swap_perm L 0 n (by omega) (by omega))
    rw [e] at h3
    exact (List.perm_append_comm (l₁ := [L.getD 0 (0, 0, 0)]) (l₂ := L2.take n)).trans h3
  · rw [hlt]
    intro k k0 kn
    have h4 := hh k k0 kn
    unfold farOf at *
    rw [take_getD L2 n k kn, take_getD L2 n _ (by omega)]
    exact h4
theorem mPop' (g : Nat) (w : World) : (method 235 91 (.pointer (some ⟨g, 4, none⟩)) "Pop").run Tryd.prog w = .ok (82, .pointer (some ⟨g, 4, none⟩)) w := mPop g w
set_option maxRecDepth 100000 in
set_option maxHeartbeats 4000000 in
theorem hpop_calls (h : HS w n₀ g q0 q1 q2 q3 M v L) (hh : HeapN L L.length) (h0 : 0 < L.length) (hl : L.length ≤ 2000) :
    Calls Tryd.prog 45 #[.iface 91 (.pointer (some ⟨g, 4, none⟩))] w fun e w' =>
      e = .returned (.iface 88 (.agg #[.int .i64 (L.getD 0 (0, 0, 0)).1, .int .i64 (L.getD 0 (0, 0, 0)).2.1, .int .i64 (L.getD 0 (0, 0, 0)).2.2])) ∧ ∃ v' L', HS w' n₀ g q0 q1 q2 q3 M v' L' ∧ Fr g v w w' ∧ Newer w v v' ∧ (L.getD 0 (0, 0, 0) :: L').Perm L ∧ HeapN L' L'.length := by
  have mL := mLen g
  have eL := eLen
  have mS := mSwap g
  have eS := eSwap
  have mP := mPop g
  have eP := ePop
  obtain ⟨x, hx⟩ : ∃ x, x = L.getD 0 (0, 0, 0) := ⟨_, rfl⟩
  rw [← hx]
  have HX := Aside0.mk hx
  clear hx
  obtain ⟨b, c, e1⟩ := ways_blk h.row h0
  subst e1
  obtain ⟨n, hn⟩ : ∃ n, L.length = n + 1 := ⟨L.length - 1, by omega⟩
  have hst := pop_start hh h0
  have hn1 : L.length - 1 = n := by omega
  rw [hn1] at hst
  have HST := Aside0.mk hst
  obtain ⟨N, hN⟩ : ∃ N, N = L.length := ⟨_, rfl⟩
  have hsw := swap_calls h.row 0 n (by omega) (by omega) (by omega)
  have HH := Aside0.mk h
  have hc4 : w.cell? ⟨g, 4, none⟩ = some (.slice (some ⟨b, 0, none⟩) L.length c) := blk_cell h.blk 4
  rw [← hN] at hsw hc4
  have hsub : (N : Int) - 1 = (n : Int) := by omega
  have hNb : (N : Int) ≤ 2000 := by omega
  have hnb : (n : Int) < 2000 := by omega
  have HSW := Aside0.mk (show Calls Tryd.prog 81 #[.slice (some ⟨b, 0, none⟩) N c, .int .i64 0, .int .i64 (n : Int)] w _ from hsw)
  have HNN := Aside0.mk (And.intro hn hN)
  have hNn : N = n + 1 := by omega
  have HNn := Aside0.mk hNn
  clear h hh h0 hl hst hn1 hsw hn hN hNn
  go_enter Tryd.func45, Tryd.ntmps45
  go_wp2_with (first
    | (go_at_call 79; refine (len_calls _ _ _ _).mono ?_; rintro e w2 ⟨rfl, rfl⟩)
    | (go_at_call 81; refine Aside0.out ?_)
    | fail)
  refine Aside0.mk ?_
  refine HSW.out.mono ?_
  rintro e w1 ⟨rfl, hr1, hg1⟩
  have hH1 := HH.out.grown (L' := swapL L 0 n) (by rw [← HNN.out.2]; exact hr1) hg1
  obtain ⟨L1, hL1⟩ : ∃ L1, L1 = swapL L 0 n := ⟨_, rfl⟩
  have hl1 : L1.length = N := by rw [hL1, swapL_length]; exact HNN.out.2.symm
  rw [← hL1, ← HNN.out.2, ← hl1] at hH1
  have hdn := down_calls (n := n) hH1 (by rw [hl1]; have := HNn.out; omega) (by rw [hl1]; omega) (by rw [hL1]; exact HST.out)
  rw [hl1] at hdn hH1
  have HDN := Aside0.mk hdn
  have H1 := Aside0.mk (And.intro hH1 (And.intro hg1 (And.intro hL1 hl1)))
  clear hr1 hg1 hH1 hL1 hl1 hdn hc4 HSW HST
  go_wp2_with (first
    | (go_at_call 51; refine Aside0.out ?_)
    | fail)
  refine Aside0.mk ?_
  refine HDN.out.mono ?_
  rintro e w2 ⟨bv, rfl, L2, hl2, hH2, hg2, hp2, hh2, hk2⟩
  have hx := pop_plain (L := L) (L2 := L2) (n := n) HNN.out.1 (by rw [hl2]; exact HNn.out) (by rw [← H1.out.2.2.1]; exact hp2) hh2 (by rw [← H1.out.2.2.1]; exact hk2)
  obtain ⟨L3, e3, hl3, hp3, hh3⟩ := hx
  rw [← HX.out] at e3 hp3
  have hHH2 : HS w2 n₀ g q0 q1 q2 q3 M (.slice (some ⟨b, 0, none⟩) N c) (L3 ++ [(x.1, x.2.1, x.2.2)]) := by rw [← e3]; exact hH2
  have hpo := pop_calls x.1 x.2.1 x.2.2 hHH2 (by rw [hl3]; omega)
  have HPO := Aside0.mk hpo
  have H2 := Aside0.mk (And.intro hg2 (And.intro hp3 hh3))
  clear hl2 hH2 hg2 hp2 hh2 hk2 e3 hl3 hp3 hh3 hHH2 hpo HDN
  go_wp2_with (first
    | (go_at_call 82; refine Aside0.out ?_)
    | fail)
  refine Aside0.mk ?_
  refine HPO.out.mono ?_
  rintro e w3 ⟨rfl, v3, hH3, hF3, hN3⟩
  have H3 := Aside0.mk (And.intro hH3 (And.intro hF3 hN3))
  clear hH3 hF3 hN3 HPO
  go_wp2_with fail
  go_ret
  obtain ⟨hH3, hF3, hN3⟩ := H3.out
  have hg12 := H1.out.2.1.trans H2.out.1
  have hf : Fr g (.slice (some ⟨b, 0, none⟩) L.length c) w w2 := Fr.of_grown hg12 rfl
  have hsz := hg12.size
  rw [HNN.out.2] at hF3 hN3
  exact ⟨by simp, v3, L3, hH3, hf.seq hF3, (Newer.refl w _).trans hsz hN3, H2.out.2.1, H2.out.2.2⟩
end Go.Proofs.YtijpnlmejphfhaaDoor.P

-- YtijpnlmejphfhaaDoorPDMap
namespace Go.Proofs.YtijpnlmejphfhaaDoor.P
open Go Go.Proofs Go.RowKit Go.Proofs.YtijpnlmejphfhaaDoorW.PrintWords Go.Proofs.YtijpnlmejphfhaaDoorW.PrintLast Go.Proofs.YtijpnlmejphfhaaDoorW.PrintMore
set_option linter.unusedVariables false
set_option linter.unusedSimpArgs false

def plK (p : Int × Int) : Value := .agg #[.int .i64 p.1, .int .i64 p.2]
/-- The map in block m holds just these places. -/
def MapIs (w : World) (m : Nat) (ps : List (Int × Int)) : Prop := ∃ es clock, w.heap[m]? = some (.map es clock) ∧ es.toList.map (fun e => (e.key, e.val)) = ps.map fun p => (plK p, Value.bool true)
theorem u68 (w : World) : (underlying 68).run Tryd.prog w = .ok (.map 86 4) w := by kernel_rfl
theorem f86 : ((Tryd.prog.fieldsOf 86).toList.map fun f => (f.name == "_", f.type, f.offset)) = [(false, 3, 0), (false, 3, 1)] := by kernel_rfl
theorem part0 (a b : Value) (w : World) : (part 3 #[a, b] 0).run Tryd.prog w = .ok a w := by kernel_rfl
theorem part1 (a b : Value) (w : World) : (part 3 #[a, b] 1).run Tryd.prog w = .ok b w := by kernel_rfl
theorem eqFs (d : Nat) (a b c e : Int) (w : World) : ∀ l : List Field, (l.map fun f => (f.name == "_", f.type, f.offset)) = [(false, 3, 0), (false, 3, 1)] →
    (Op.eqFields (d + 1) #[.int .i64 a, .int .i64 b] #[.int .i64 c, .int .i64 e] l).run Tryd.prog w = .ok (a == c && b == e) w
  | [f, f'], h => by
    simp only [List.map_cons, List.map_nil, List.cons.injEq, Prod.mk.injEq, and_true] at h
    obtain ⟨⟨h1, h2, h3⟩, h4, h5, h6⟩ := h
    have n1 : f.name ≠ "_" := by simpa using h1
    have n2 : f'.name ≠ "_" := by simpa using h4
    have e1 := run_equalIn_int (P := Tryd.prog) w d 3 .i64 .i64 a c Tryd.underlying3
    have e2 := run_equalIn_int (P := Tryd.prog) w d 3 .i64 .i64 b e Tryd.underlying3
    simp only [Op.eqFields]
    rw [if_pos n1, if_pos n2, h2, h3, h5, h6]
    simp only [Sem.run_bind, part0, part1, Result.andThen_ok, e1, e2]
    cases hac : (a == c) with
    | true =>
      simp only [Bool.not_true, Bool.false_eq_true, if_false, Sem.run_bind, part1, Result.andThen_ok, e2, Bool.true_and]
      cases hbe : (b == e) with
      | true => simp [Sem.run_pure]
      | false => simp [Sem.run_pure]
    | false => simp [Sem.run_pure]
  | [], h => by simp at h
  | [_], h => by simp at h
  | _ :: _ :: _ :: _, h => by simp at h
theorem eqPl (a b c d : Int) (w : World) : (Op.equal 86 (plK (a, b)) (plK (c, d))).run Tryd.prog w = .ok (a == c && b == d) w := by
  have hu : Tryd.prog.underlying 86 = some (.struct (Tryd.prog.fieldsOf 86)) := by kernel_rfl
  have hp : Tryd.prog.stoodInHeld 86 = false := by kernel_rfl
  exact (run_equalIn_agg w 9999 86 _ _ hu hp).trans (eqFs 9998 a b c d w _ f86)
theorem chk (e : Bool) (a b : Int) (w : World) : (Instr.checkKey e 10000 86 (plK (a, b))).run Tryd.prog w = .ok () w := by
  unfold plK
  kernel_rfl
theorem find_not (a b : Int) (w : World) : ∀ (es : List MapEntry) (ps : List (Int × Int)) (i : Nat), es.map (fun e => (e.key, e.val)) = ps.map (fun p => (plK p, Value.bool true)) → (a, b) ∉ ps → (Instr.findAsking 86 (plK (a, b)) es i).run Tryd.prog w = .ok none w
  | [], _, i, h, hn => by unfold Instr.findAsking; rfl
  | e :: es, [], i, h, hn => by simp at h
  | e :: es, (c, d) :: ps, i, h, hn => by
    simp only [List.map_cons, List.cons.injEq, Prod.mk.injEq] at h
    obtain ⟨⟨h1, h2⟩, h3⟩ := h
    simp only [List.mem_cons, Prod.mk.injEq, not_or] at hn
    unfold Instr.findAsking
    rw [Sem.run_bind, h1, eqPl]
    have hf : (a == c && b == d) = false := by
      cases h4 : (a == c) with
      | false => rfl
      | true =>
        cases h5 : (b == d) with
        | false => rfl
        | true => exact absurd ⟨beq_iff_eq.1 h4, beq_iff_eq.1 h5⟩ hn.1
    simp only [Result.andThen_ok, hf, Bool.false_eq_true, if_false]
    exact find_not a b w es ps (i + 1) h3 hn.2
theorem find_in (a b : Int) (w : World) : ∀ (es : List MapEntry) (ps : List (Int × Int)) (i : Nat), es.map (fun e => (e.key, e.val)) = ps.map (fun p => (plK p, Value.bool true)) → (a, b) ∈ ps → ∃ j, (Instr.findAsking 86 (plK (a, b)) es i).run Tryd.prog w = .ok (some (j, .bool true)) w
  | [], [], i, h, hn => by simp at hn
  | [], _ :: _, i, h, hn => by simp at h
  | e :: es, [], i, h, hn => by simp at h
  | e :: es, (c, d) :: ps, i, h, hn => by
    simp only [List.map_cons, List.cons.injEq, Prod.mk.injEq] at h
    obtain ⟨⟨h1, h2⟩, h3⟩ := h
    unfold Instr.findAsking
    rw [Sem.run_bind, h1, eqPl]
    cases hf : (a == c && b == d) with
    | true =>
      simp only [Result.andThen_ok, if_true, Sem.run_pure, h2]
      exact ⟨i, rfl⟩
    | false =>
      simp only [Result.andThen_ok, Bool.false_eq_true, if_false]
      have hm : (a, b) ∈ ps := by
        rcases List.mem_cons.1 hn with e | e
        · injection e with e1 e2
          subst e1; subst e2
          simp at hf
        · exact e
      exact find_in a b w es ps (i + 1) h3 hm
theorem u86 (w : World) : ∃ d, (underlying 86).run Tryd.prog w = .ok (.struct d) w := ⟨Tryd.prog.fieldsOf 86, by
  have hu : Tryd.prog.underlying 86 = some (.struct (Tryd.prog.fieldsOf 86)) := by kernel_rfl
  exact run_underlying hu w⟩
theorem now_none (d : Array Field) (p : Int × Int) (e : MapEntry) (es : List MapEntry) : Instr.findNow (.struct d) (plK p) (e :: es) 0 = none := by
  unfold Instr.findNow Instr.sameNow plK
  rfl
theorem findKey_eq (p : Int × Int) (es : List MapEntry) (w : World) : (Instr.findKey 86 (plK p) es).run Tryd.prog w = (Instr.findAsking 86 (plK p) es 0).run Tryd.prog w := by
  obtain ⟨d, hd⟩ := u86 w
  unfold Instr.findKey
  rw [Sem.run_bind, hd]
  simp only [Result.andThen_ok]
  cases es with
  | nil => rfl
  | cons e es => rw [now_none]
theorem zero4 (w : World) : (zeroValue 4).run Tryd.prog w = .ok (.bool false) w := by kernel_rfl
/-- The map is asked. -/
theorem look_run {w : World} {m : Nat} {ps : List (Int × Int)} (h : MapIs w m ps) (a b : Int) : (Instr.lookup 68 (.map (some m)) (plK (a, b)) false).run Tryd.prog w = .ok (.bool (decide ((a, b) ∈ ps))) w := by
  obtain ⟨es, clock, hb, he⟩ := h
  have hg := MapKept.run_getObj_map (P := Tryd.prog) hb
  unfold Instr.lookup
  by_cases hin : (a, b) ∈ ps
  · obtain ⟨j, hj⟩ := find_in a b w es.toList ps 0 he hin
    rw [decide_eq_true hin]
    simp [u68, hg, chk, findKey_eq, hj, Result.andThen]
  · have hj := find_not a b w es.toList ps 0 he hin
    rw [decide_eq_false hin]
    simp [u68, hg, chk, findKey_eq, hj, zero4, Result.andThen]
/-- A place that isn't there is put into it. -/
theorem put_run {w : World} {m : Nat} {ps : List (Int × Int)} (h : MapIs w m ps) (a b : Int) (hin : (a, b) ∉ ps) : ∃ o, (Instr.mapUpdate 68 (.map (some m)) (plK (a, b)) (.bool true)).run Tryd.prog w = .ok () (ChangeMaps.setBlock w m o) ∧ MapIs (ChangeMaps.setBlock w m o) m (ps ++ [(a, b)]) := by
  obtain ⟨es, clock, hb, he⟩ := h
  have hg := MapKept.run_getObj_map (P := Tryd.prog) hb
  have hj := find_not a b w es.toList ps 0 he hin
  refine ⟨.map (es.push { key := plK (a, b), val := .bool true, born := clock }) (clock + 1), ?_, _, _, ChangeMaps.heap_setBlock_same hb _, ?_⟩
  · unfold Instr.mapUpdate
    simp [u68, hg, chk, findKey_eq, hj, MapKept.run_setObj_map _ hb, Result.andThen, ChangeMaps.setBlock]
  · rw [Array.toList_push, List.map_append, he, List.map_append]
    rfl
end Go.Proofs.YtijpnlmejphfhaaDoor.P

-- YtijpnlmejphfhaaDoorPDWeigh
namespace Go.Proofs.YtijpnlmejphfhaaDoor.P
open Go Go.Proofs Go.RowKit Go.Proofs.YtijpnlmejphfhaaDoorW.PrintWords Go.Proofs.YtijpnlmejphfhaaDoorW.PrintLast Go.Proofs.YtijpnlmejphfhaaDoorW.PrintMore
set_option linter.unusedVariables false
set_option linter.unusedSimpArgs false
attribute [local go_sem] run_index_arr
set_option maxRecDepth 100000 in
set_option maxHeartbeats 8000000 in
theorem dweigh_calls {w : World} {g : Nat} {W : Nat → Int} (hgl : g < w.heap.size) (hW : ∀ v, v < 4 → w.cell? ⟨g, v, none⟩ = some (.int .i64 (W v))) (hWb : ∀ v, v < 4 → 0 ≤ W v ∧ W v ≤ 7) (fr dt i a b c d : Int)
    (ho : ∀ s, o4 a b c d s = 0 ∨ o4 a b c d s = 1) (t : Nat) (ht : t ≤ 100000) :
    Calls Tryd.prog 50 #[.pointer (some ⟨g, 0, none⟩), .agg #[.int .i64 fr, .int .i64 dt, .int .u8 i, .int .u8 a, .int .u8 b, .int .u8 c, .int .u8 d], .int .i64 (t : Int)] w fun e w' =>
      e = .returned (.int .i64 (wsum W (o4 a b c d) t 4)) ∧ Below w.heap.size w w' := by
  have HW := Aside0.mk hW
  have HWB := Aside0.mk hWb
  have HO := Aside0.mk ho
  clear hW hWb ho
  have hba := below_alloc (Below.refl w.heap.size w) (.cells #[.int .i64 fr, .int .i64 dt, .int .u8 i, .int .u8 a, .int .u8 b, .int .u8 c, .int .u8 d] 77)
  have HBA := Aside0.mk hba
  clear hba
  go_enter Tryd.func50, Tryd.ntmps50
  go_wp2_with fail
  go_loopw [7, 14] (fun v7 v14 wr => ∃ j : Nat, v7 = .int .i64 (wsum W (o4 a b c d) t j) ∧ v14 = .int .i64 (j : Int) ∧ j ≤ 4 ∧ Aside0 (Below w.heap.size w wr)) (fun _ v14 _ => 4 - (intOf v14).toNat)
  case atStart => exact ⟨0, rfl, by simp, by omega, HBA⟩
  case round =>
    clear HBA
    obtain ⟨j, rfl, rfl, hj, HB⟩ := hrel
    have hcase : j = 0 ∨ j = 1 ∨ j = 2 ∨ j = 3 ∨ j = 4 := by omega
    rcases hcase with rfl | rfl | rfl | rfl | rfl
    · skip
      skip
      have hvf := version_f 0 t (by decide) ht
      have hc := pattern_Version.calls (0 : Int) (t : Int) _ 0 wr hvf
      have hlt4 : ((ver 0 t : Nat) : Int) < 4 := by have := ver_lt 0 t; omega
      obtain ⟨v, hv⟩ : ∃ v, v = ver 0 t := ⟨_, rfl⟩
      rw [← hv] at hc hlt4
      have hcw : wr.cell? ⟨g, v, none⟩ = some (.int .i64 (W v)) := (HB.out.cell (p := ⟨g, v, none⟩) hgl).trans (HW.out v (by omega))
      have hWv := (HWB.out v (by omega))
      have hob : o4 a b c d 0 = 0 ∨ o4 a b c d 0 = 1 := HO.out 0
      have hin := wsum_in HWB.out HO.out t 0
      have hsu : wsum W (o4 a b c d) t (0 + 1) = wsum W (o4 a b c d) t 0 + a * W v := by rw [hv]; rfl
      have hob2 : a = 0 ∨ a = 1 := hob
      obtain ⟨y, hy⟩ : ∃ y, y = W v := ⟨_, rfl⟩
      rw [← hy] at hcw hWv hsu
      obtain ⟨p, hp⟩ : ∃ p, a * y = p := ⟨_, rfl⟩
      have hpb : 0 ≤ p ∧ p ≤ 7 := by rcases hob2 with e | e <;> rw [e] at hp <;> omega
      rw [hp] at hsu
      obtain ⟨n0, hn0⟩ : ∃ n0, n0 = wsum W (o4 a b c d) t 0 := ⟨_, rfl⟩
      rw [← hn0] at hsu hin
      have hwp : wrap64 p = p := by unfold wrap64; omega
      have hwn : wrap64 (n0 + p) = n0 + p := by unfold wrap64; omega
      have hcv : IntKind.i64.wrap a = a := by rw [IntKind.wrap_i64]; omega
      have HSU := Aside0.mk hsu
      have HC := Aside0.mk hc
      rw [← hn0]
      clear hvf hc hv hy hob hin hob2 hsu hn0 hWv hpb
      go_wp2_with (first | (go_at_call 48; refine HC.out.mono ?_; rintro e w2 ⟨rfl, hd⟩; have HB2 := Aside0.mk (below_step HB.out hd.below); have hcw2 := (hd.below.cell (p := ⟨g, v, none⟩) (Nat.lt_of_lt_of_le hgl HB.out.size)).trans hcw; clear hd hcw) | fail)
      go_roundw
      case rel => exact ⟨0 + 1, by rw [HSU.out]; first | rfl | rw [hwn], by simp, by omega, HB2⟩
      case measure => simp [intOf]
    · skip
      skip
      have hvf := version_f 1 t (by decide) ht
      have hc := pattern_Version.calls (1 : Int) (t : Int) _ 0 wr hvf
      have hlt4 : ((ver 1 t : Nat) : Int) < 4 := by have := ver_lt 1 t; omega
      obtain ⟨v, hv⟩ : ∃ v, v = ver 1 t := ⟨_, rfl⟩
      rw [← hv] at hc hlt4
      have hcw : wr.cell? ⟨g, v, none⟩ = some (.int .i64 (W v)) := (HB.out.cell (p := ⟨g, v, none⟩) hgl).trans (HW.out v (by omega))
      have hWv := (HWB.out v (by omega))
      have hob : o4 a b c d 1 = 0 ∨ o4 a b c d 1 = 1 := HO.out 1
      have hin := wsum_in HWB.out HO.out t 1
      have hsu : wsum W (o4 a b c d) t (1 + 1) = wsum W (o4 a b c d) t 1 + b * W v := by rw [hv]; rfl
      have hob2 : b = 0 ∨ b = 1 := hob
      obtain ⟨y, hy⟩ : ∃ y, y = W v := ⟨_, rfl⟩
      rw [← hy] at hcw hWv hsu
      obtain ⟨p, hp⟩ : ∃ p, b * y = p := ⟨_, rfl⟩
      have hpb : 0 ≤ p ∧ p ≤ 7 := by rcases hob2 with e | e <;> rw [e] at hp <;> omega
      rw [hp] at hsu
      obtain ⟨n0, hn0⟩ : ∃ n0, n0 = wsum W (o4 a b c d) t 1 := ⟨_, rfl⟩
      rw [← hn0] at hsu hin
      have hwp : wrap64 p = p := by unfold wrap64; omega
      have hwn : wrap64 (n0 + p) = n0 + p := by unfold wrap64; omega
      have hcv : IntKind.i64.wrap b = b := by rw [IntKind.wrap_i64]; omega
      have HSU := Aside0.mk hsu
      have HC := Aside0.mk hc
      rw [← hn0]
      clear hvf hc hv hy hob hin hob2 hsu hn0 hWv hpb
      go_wp2_with (first | (go_at_call 48; refine HC.out.mono ?_; rintro e w2 ⟨rfl, hd⟩; have HB2 := Aside0.mk (below_step HB.out hd.below); have hcw2 := (hd.below.cell (p := ⟨g, v, none⟩) (Nat.lt_of_lt_of_le hgl HB.out.size)).trans hcw; clear hd hcw) | fail)
      go_roundw
      case rel => exact ⟨1 + 1, by rw [HSU.out]; first | rfl | rw [hwn], by simp, by omega, HB2⟩
      case measure => simp [intOf]
    · skip
      skip
      have hvf := version_f 2 t (by decide) ht
      have hc := pattern_Version.calls (2 : Int) (t : Int) _ 0 wr hvf
      have hlt4 : ((ver 2 t : Nat) : Int) < 4 := by have := ver_lt 2 t; omega
      obtain ⟨v, hv⟩ : ∃ v, v = ver 2 t := ⟨_, rfl⟩
      rw [← hv] at hc hlt4
      have hcw : wr.cell? ⟨g, v, none⟩ = some (.int .i64 (W v)) := (HB.out.cell (p := ⟨g, v, none⟩) hgl).trans (HW.out v (by omega))
      have hWv := (HWB.out v (by omega))
      have hob : o4 a b c d 2 = 0 ∨ o4 a b c d 2 = 1 := HO.out 2
      have hin := wsum_in HWB.out HO.out t 2
      have hsu : wsum W (o4 a b c d) t (2 + 1) = wsum W (o4 a b c d) t 2 + c * W v := by rw [hv]; rfl
      have hob2 : c = 0 ∨ c = 1 := hob
      obtain ⟨y, hy⟩ : ∃ y, y = W v := ⟨_, rfl⟩
      rw [← hy] at hcw hWv hsu
      obtain ⟨p, hp⟩ : ∃ p, c * y = p := ⟨_, rfl⟩
      have hpb : 0 ≤ p ∧ p ≤ 7 := by rcases hob2 with e | e <;> rw [e] at hp <;> omega
      rw [hp] at hsu
      obtain ⟨n0, hn0⟩ : ∃ n0, n0 = wsum W (o4 a b c d) t 2 := ⟨_, rfl⟩
      rw [← hn0] at hsu hin
      have hwp : wrap64 p = p := by unfold wrap64; omega
      have hwn : wrap64 (n0 + p) = n0 + p := by unfold wrap64; omega
      have hcv : IntKind.i64.wrap c = c := by rw [IntKind.wrap_i64]; omega
      have HSU := Aside0.mk hsu
      have HC := Aside0.mk hc
      rw [← hn0]
      clear hvf hc hv hy hob hin hob2 hsu hn0 hWv hpb
      go_wp2_with (first | (go_at_call 48; refine HC.out.mono ?_; rintro e w2 ⟨rfl, hd⟩; have HB2 := Aside0.mk (below_step HB.out hd.below); have hcw2 := (hd.below.cell (p := ⟨g, v, none⟩) (Nat.lt_of_lt_of_le hgl HB.out.size)).trans hcw; clear hd hcw) | fail)
      go_roundw
      case rel => exact ⟨2 + 1, by rw [HSU.out]; first | rfl | rw [hwn], by simp, by omega, HB2⟩
      case measure => simp [intOf]
    · skip
      skip
      have hvf := version_f 3 t (by decide) ht
      have hc := pattern_Version.calls (3 : Int) (t : Int) _ 0 wr hvf
      have hlt4 : ((ver 3 t : Nat) : Int) < 4 := by have := ver_lt 3 t; omega
      obtain ⟨v, hv⟩ : ∃ v, v = ver 3 t := ⟨_, rfl⟩
      rw [← hv] at hc hlt4
      have hcw : wr.cell? ⟨g, v, none⟩ = some (.int .i64 (W v)) := (HB.out.cell (p := ⟨g, v, none⟩) hgl).trans (HW.out v (by omega))
      have hWv := (HWB.out v (by omega))
      have hob : o4 a b c d 3 = 0 ∨ o4 a b c d 3 = 1 := HO.out 3
      have hin := wsum_in HWB.out HO.out t 3
      have hsu : wsum W (o4 a b c d) t (3 + 1) = wsum W (o4 a b c d) t 3 + d * W v := by rw [hv]; rfl
      have hob2 : d = 0 ∨ d = 1 := hob
      obtain ⟨y, hy⟩ : ∃ y, y = W v := ⟨_, rfl⟩
      rw [← hy] at hcw hWv hsu
      obtain ⟨p, hp⟩ : ∃ p, d * y = p := ⟨_, rfl⟩
      have hpb : 0 ≤ p ∧ p ≤ 7 := by rcases hob2 with e | e <;> rw [e] at hp <;> omega
      rw [hp] at hsu
      obtain ⟨n0, hn0⟩ : ∃ n0, n0 = wsum W (o4 a b c d) t 3 := ⟨_, rfl⟩
      rw [← hn0] at hsu hin
      have hwp : wrap64 p = p := by unfold wrap64; omega
      have hwn : wrap64 (n0 + p) = n0 + p := by unfold wrap64; omega
      have hcv : IntKind.i64.wrap d = d := by rw [IntKind.wrap_i64]; omega
      have HSU := Aside0.mk hsu
      have HC := Aside0.mk hc
      rw [← hn0]
      clear hvf hc hv hy hob hin hob2 hsu hn0 hWv hpb
      go_wp2_with (first | (go_at_call 48; refine HC.out.mono ?_; rintro e w2 ⟨rfl, hd⟩; have HB2 := Aside0.mk (below_step HB.out hd.below); have hcw2 := (hd.below.cell (p := ⟨g, v, none⟩) (Nat.lt_of_lt_of_le hgl HB.out.size)).trans hcw; clear hd hcw) | fail)
      go_roundw
      case rel => exact ⟨3 + 1, by rw [HSU.out]; first | rfl | rw [hwn], by simp, by omega, HB2⟩
      case measure => simp [intOf]
    · go_wp2_with fail
      go_ret
      exact ⟨by simp, HB.out⟩
end Go.Proofs.YtijpnlmejphfhaaDoor.P

-- YtijpnlmejphfhaaDoorPDDij
namespace Go.Proofs.YtijpnlmejphfhaaDoor.P
open Go Go.Proofs Go.RowKit Go.Proofs.YtijpnlmejphfhaaDoorW.PrintWords Go.Proofs.YtijpnlmejphfhaaDoorW.PrintLast Go.Proofs.YtijpnlmejphfhaaDoorW.PrintMore
set_option linter.unusedVariables false
set_option linter.unusedSimpArgs false

/-- A way put to the heap, unless its place is done. -/
def AddP (L L' : List Wy) (ps : List (Int × Int)) (x : Wy) : Prop := if (x.1, x.2.1) ∈ ps then L' = L else L'.Perm (L ++ [x])
/-- A place is done by then, or a way to it is left that is short enough. -/
def Cov (L : List Wy) (ps : List (Int × Int)) (D : Int × Int → Nat) (q : Int × Int) (b : Int) : Prop := (q ∈ ps ∧ (D q : Int) ≤ b) ∨ ∃ x, x ∈ L ∧ (x.1, x.2.1) = q ∧ x.2.2 ≤ b
structure DJ (W : Nat → Int) (L : List Wy) (ps : List (Int × Int)) (D : Int × Int → Nat) : Prop where
  way : ∀ x, x ∈ L → ∃ s t n : Nat, x = ((s : Int), (t : Int), (n : Int)) ∧ Way W s t n
  far : ∀ x, x ∈ L → x.2.2 ≤ 28 * ((ps.length : Int) + 1)
  fst : ∀ t, t < 4 → Cov L ps D (32, (nx t : Int)) (en W 0 1 t)
  edg : ∀ s t i : Nat, i < 2 → ((s : Int), (t : Int)) ∈ ps → Cov L ps D ((dst s i : Int), (nx t : Int)) ((D ((s : Int), (t : Int)) : Int) + en W s i t)
  mono : ∀ p, p ∈ ps → ∀ x, x ∈ L → (D p : Int) ≤ x.2.2
  nz : ∀ p, p ∈ ps → p.1 ≠ 0
  rng : ∀ p, p ∈ ps → ∃ s t : Nat, p = ((s : Int), (t : Int)) ∧ s < 64 ∧ t < 4
  nodup : ps.Nodup
  cnt : L.length + 3 * (256 - ps.length) ≤ 772
theorem cov_perm {L L' : List Wy} {ps : List (Int × Int)} {D : Int × Int → Nat} {q : Int × Int} {b : Int} (h : Cov L ps D q b) (hp : ∀ x, x ∈ L → x ∈ L') : Cov L' ps D q b := by
  rcases h with h | ⟨x, hx, h⟩
  · exact .inl h
  · exact .inr ⟨x, hp x hx, h⟩
theorem DJ.le {W : Nat → Int} {L : List Wy} {ps : List (Int × Int)} {D : Int × Int → Nat} (h : DJ W L ps D) : ps.length ≤ 256 := by
  have hs : ∀ p, p ∈ ps → p ∈ (List.range 64).flatMap fun s => (List.range 4).map fun t => (((s : Nat) : Int), ((t : Nat) : Int)) := by
    intro p hp
    obtain ⟨s, t, rfl, hs, ht⟩ := h.rng p hp
    exact List.mem_flatMap.2 ⟨s, List.mem_range.2 hs, List.mem_map.2 ⟨t, List.mem_range.2 ht, rfl⟩⟩
  have h1 := h.nodup.length_le_of_subset (l₂ := (List.range 64).flatMap fun s => (List.range 4).map fun t => (((s : Nat) : Int), ((t : Nat) : Int))) (fun p hp => hs p hp)
  have h2 : ((List.range 64).flatMap fun s => (List.range 4).map fun t => (((s : Nat) : Int), ((t : Nat) : Int))).length = 256 := by decide +kernel
  omega
/-- Every way's end is done, or a way that is left is shorter. -/
theorem DJ.cover {W : Nat → Int} {L : List Wy} {ps : List (Int × Int)} {D : Int × Int → Nat} (h : DJ W L ps D) {s t x : Nat} (hw : Way W s t x) : (((s : Int), (t : Int)) ∈ ps ∧ D ((s : Int), (t : Int)) ≤ x) ∨ ∃ y, y ∈ L ∧ y.2.2 ≤ (x : Int) := by
  induction hw with
  | first t ht =>
    rcases h.fst t ht with ⟨h1, h2⟩ | ⟨y, h1, _, h3⟩
    · exact .inl ⟨h1, by exact_mod_cast h2⟩
    · exact .inr ⟨y, h1, h3⟩
  | next s t x i hw hs hi ih =>
    rcases ih with ⟨h1, h2⟩ | ⟨y, h1, h2⟩
    · rcases h.edg s t i hi h1 with ⟨h3, h4⟩ | ⟨y, h3, _, h5⟩
      · exact .inl ⟨h3, by have : D ((dst s i : Int), (nx t : Int)) ≤ D ((s : Int), (t : Int)) + en W s i t := by exact_mod_cast h4
                           omega⟩
      · exact .inr ⟨y, h3, by rw [Int.natCast_add]; omega⟩
    · exact .inr ⟨y, h1, by rw [Int.natCast_add]; omega⟩
/-- The heap is never empty. -/
theorem DJ.some {W : Nat → Int} (hW : ∀ v, v < 4 → 0 ≤ W v ∧ W v ≤ 7) {L : List Wy} {ps : List (Int × Int)} {D : Int × Int → Nat} (h : DJ W L ps D) : 0 < L.length := by
  obtain ⟨t, x, hw, _⟩ := some_way W hW
  rcases h.cover hw with ⟨h1, _⟩ | ⟨y, h1, _⟩
  · exact absurd rfl (h.nz _ h1)
  · exact List.length_pos_of_mem h1
/-- The first at state 0 is the least. -/
theorem DJ.least {W : Nat → Int} {L : List Wy} {ps : List (Int × Int)} {D : Int × Int → Nat} (h : DJ W L ps D) {s t n : Nat} (hx : ((s : Int), (t : Int), (n : Int)) ∈ L) (hm : ∀ y, y ∈ L → (n : Int) ≤ y.2.2) (hs : s = 0) : IsLeast W n := by
  subst hs
  obtain ⟨s', t', n', e, hw⟩ := h.way _ hx
  have e1 : s' = 0 := by have := congrArg Prod.fst e; simp at this; omega
  have e2 : n' = n := by have := congrArg (fun z : Wy => z.2.2) e; simp at this; omega
  subst e1; subst e2
  refine ⟨⟨t', hw⟩, fun t2 x hw2 => ?_⟩
  rcases h.cover hw2 with ⟨h1, _⟩ | ⟨y, h1, h2⟩
  · exact absurd rfl (h.nz _ h1)
  · have := hm y h1
    omega
/-- A place that is done already. -/
theorem DJ.again {W : Nat → Int} {L L1 : List Wy} {ps : List (Int × Int)} {D : Int × Int → Nat} {x : Wy} (h : DJ W L ps D) (hp : (x :: L1).Perm L) (hd : (x.1, x.2.1) ∈ ps) : DJ W L1 ps D := by
  have hx : x ∈ L := hp.mem_iff.1 List.mem_cons_self
  have hsub : ∀ y, y ∈ L1 → y ∈ L := fun y hy => hp.mem_iff.1 (List.mem_cons_of_mem _ hy)
  have hc : ∀ q b, Cov L ps D q b → Cov L1 ps D q b := by
    intro q b hq
    rcases hq with hq | ⟨y, hy, h1, h2⟩
    · exact .inl hq
    · rcases List.mem_cons.1 (hp.mem_iff.2 hy) with e | e
      · subst e
        exact .inl ⟨h1 ▸ hd, Int.le_trans (h.mono q (h1 ▸ hd) y hx) h2⟩
      · exact .inr ⟨y, e, h1, h2⟩
  have hl := hp.length_eq
  rw [List.length_cons] at hl
  exact ⟨fun y hy => h.way y (hsub y hy), fun y hy => h.far y (hsub y hy), fun t ht => hc _ _ (h.fst t ht), fun s t i hi hm => hc _ _ (h.edg s t i hi hm), fun p hp' y hy => h.mono p hp' y (hsub y hy), h.nz, h.rng, h.nodup, by have := h.cnt; omega⟩
theorem add_sub {L L' : List Wy} {ps : List (Int × Int)} {x : Wy} (h : AddP L L' ps x) : (∀ y, y ∈ L → y ∈ L') ∧ (∀ y, y ∈ L' → y ∈ L ∨ (y = x ∧ (x.1, x.2.1) ∉ ps)) ∧ L'.length ≤ L.length + 1 ∧ ((x.1, x.2.1) ∈ ps ∨ x ∈ L') := by
  unfold AddP at h
  split at h
  · rename_i hin
    subst h
    exact ⟨fun _ hy => hy, fun _ hy => .inl hy, by omega, .inl hin⟩
  · rename_i hin
    refine ⟨fun y hy => h.mem_iff.2 (List.mem_append_left _ hy), fun y hy => ?_, by rw [h.length_eq, List.length_append]; simp, .inr (h.mem_iff.2 (by simp))⟩
    rcases List.mem_append.1 (h.mem_iff.1 hy) with e | e
    · exact .inl e
    · exact .inr ⟨by simpa using e, hin⟩
/-- A place that is new: its edges are looked at. -/
theorem DJ.next {W : Nat → Int} (hW : ∀ v, v < 4 → 0 ≤ W v ∧ W v ≤ 7) {L L1 L2 L3 : List Wy} {ps : List (Int × Int)} {D : Int × Int → Nat} {s t n : Nat} (h : DJ W L ps D) (hp : (((s : Int), (t : Int), (n : Int)) :: L1).Perm L)
    (hm : ∀ y, y ∈ L → (n : Int) ≤ y.2.2) (hs : s ≠ 0) (hd : ((s : Int), (t : Int)) ∉ ps)
    (h2 : AddP L1 L2 (ps ++ [((s : Int), (t : Int))]) ((dst s 0 : Int), (nx t : Int), (n : Int) + en W s 0 t)) (h3 : AddP L2 L3 (ps ++ [((s : Int), (t : Int))]) ((dst s 1 : Int), (nx t : Int), (n : Int) + en W s 1 t)) :
    DJ W L3 (ps ++ [((s : Int), (t : Int))]) (fun p => if p = ((s : Int), (t : Int)) then n else D p) := by
  have hx : ((s : Int), (t : Int), (n : Int)) ∈ L := hp.mem_iff.1 List.mem_cons_self
  obtain ⟨s', t', n', e, hw⟩ := h.way _ hx
  have e1 : s' = s := by have := congrArg Prod.fst e; simp at this; omega
  have e2 : t' = t := by have := congrArg (fun z : Wy => z.2.1) e; simp at this; omega
  have e3 : n' = n := by have := congrArg (fun z : Wy => z.2.2) e; simp at this; omega
  subst e1; subst e2; subst e3
  have hw0 := Way.next s' t' n' 0 hw hs (by decide)
  have hw1 := Way.next s' t' n' 1 hw hs (by decide)
  have hlt := hw.lt
  have l0 := en_le hW s' 0 t'
  have l1 := en_le hW s' 1 t'
  obtain ⟨a1, a2, a3, a4⟩ := add_sub h2
  obtain ⟨b1, b2, b3, b4⟩ := add_sub h3
  have hsub : ∀ y, y ∈ L1 → y ∈ L := fun y hy => hp.mem_iff.1 (List.mem_cons_of_mem _ hy)
  have hall : ∀ y, y ∈ L3 → y ∈ L ∨ y = ((dst s' 0 : Int), (nx t' : Int), (n' : Int) + en W s' 0 t') ∨ y = ((dst s' 1 : Int), (nx t' : Int), (n' : Int) + en W s' 1 t') := by
    intro y hy
    rcases b2 y hy with e | ⟨e, _⟩
    · rcases a2 y e with e | ⟨e, _⟩
      · exact .inl (hsub y e)
      · exact .inr (.inl e)
    · exact .inr (.inr e)
  have hnew : ((s' : Int), (t' : Int)) ∈ ps ++ [((s' : Int), (t' : Int))] := by simp
  have hxf := h.far _ hx
  have hxf : (n' : Int) ≤ 28 * ((ps.length : Int) + 1) := hxf
  have hDle : ∀ p, p ∈ ps ++ [((s' : Int), (t' : Int))] → (((if p = ((s' : Int), (t' : Int)) then n' else D p) : Nat) : Int) ≤ n' := by
    intro p hp'
    by_cases e : p = ((s' : Int), (t' : Int))
    · rw [if_pos e]; omega
    · rw [if_neg e]
      rcases List.mem_append.1 hp' with e2 | e2
      · exact h.mono p e2 _ hx
      · exact absurd (by simpa using e2) e
  have hc : ∀ q b, Cov L ps D q b → Cov L3 (ps ++ [((s' : Int), (t' : Int))]) (fun p => if p = ((s' : Int), (t' : Int)) then n' else D p) q b := by
    intro q b hq
    rcases hq with ⟨h4, h5⟩ | ⟨y, hy, h4, h5⟩
    · refine .inl ⟨List.mem_append_left _ h4, ?_⟩
      show (((if q = ((s' : Int), (t' : Int)) then n' else D q) : Nat) : Int) ≤ b
      rw [if_neg (fun e => hd (by rw [← e]; exact h4))]; exact h5
    · rcases List.mem_cons.1 (hp.mem_iff.2 hy) with e | e
      · subst e
        refine .inl ⟨by rw [← h4]; exact hnew, ?_⟩
        show (((if q = ((s' : Int), (t' : Int)) then n' else D q) : Nat) : Int) ≤ b
        rw [if_pos h4.symm]; exact h5
      · exact .inr ⟨y, b1 y (a1 y e), h4, h5⟩
  have hl := hp.length_eq
  rw [List.length_cons] at hl
  have hple := h.le
  have hlen : (ps ++ [((s' : Int), (t' : Int))]).length = ps.length + 1 := by simp
  have hnd : (ps ++ [((s' : Int), (t' : Int))]).Nodup := by
    rw [List.nodup_append]
    refine ⟨h.nodup, by simp, fun x hx y hy e => ?_⟩
    rw [List.mem_singleton] at hy
    exact hd (by rw [← hy, ← e]; exact hx)
  have hrng : ∀ p, p ∈ ps ++ [((s' : Int), (t' : Int))] → ∃ s t : Nat, p = ((s : Int), (t : Int)) ∧ s < 64 ∧ t < 4 := by
    intro p hp'
    rcases List.mem_append.1 hp' with e | e
    · exact h.rng p e
    · exact ⟨s', t', by simpa using e, hlt.1, hlt.2⟩
  have hcnt := h.cnt
  have hlt256 : ps.length < 256 := by
    have hs : ∀ p, p ∈ ps ++ [((s' : Int), (t' : Int))] → p ∈ (List.range 64).flatMap fun s => (List.range 4).map fun t => (((s : Nat) : Int), ((t : Nat) : Int)) := by
      intro p hp
      obtain ⟨s, t, rfl, hs, ht⟩ := hrng p hp
      exact List.mem_flatMap.2 ⟨s, List.mem_range.2 hs, List.mem_map.2 ⟨t, List.mem_range.2 ht, rfl⟩⟩
    have q1 := hnd.length_le_of_subset (l₂ := (List.range 64).flatMap fun s => (List.range 4).map fun t => (((s : Nat) : Int), ((t : Nat) : Int))) (fun p hp => hs p hp)
    have q2 : ((List.range 64).flatMap fun s => (List.range 4).map fun t => (((s : Nat) : Int), ((t : Nat) : Int))).length = 256 := by decide +kernel
    omega
  refine ⟨fun y hy => ?_, fun y hy => ?_, fun t ht => hc _ _ (h.fst t ht), fun s t i hi hm' => ?_, fun p hp' y hy => ?_, fun p hp' => ?_, hrng, hnd, by omega⟩
  · rcases hall y hy with e | rfl | rfl
    · exact h.way y e
    · exact ⟨_, _, _, by rw [Int.natCast_add], hw0⟩
    · exact ⟨_, _, _, by rw [Int.natCast_add], hw1⟩
  · rw [hlen, Int.natCast_add]
    rcases hall y hy with e | rfl | rfl
    · have := h.far y e; omega
    · show (n' : Int) + en W s' 0 t' ≤ _; omega
    · show (n' : Int) + en W s' 1 t' ≤ _; omega
  · by_cases e : ((s : Int), (t : Int)) = ((s' : Int), (t' : Int))
    · have e1 : s = s' := by have := congrArg Prod.fst e; simp at this; omega
      have e2 : t = t' := by have := congrArg Prod.snd e; simp at this; omega
      subst e1; subst e2
      have hb : ∀ i, i < 2 → ((dst s i : Int), (nx t : Int)) ∈ ps ++ [((s : Int), (t : Int))] ∨ ((dst s i : Int), (nx t : Int), (n' : Int) + en W s i t) ∈ L3 := by
        intro i hi
        obtain rfl | rfl : i = 0 ∨ i = 1 := by omega
        · rcases a4 with q | q
          · exact .inl q
          · exact .inr (b1 _ q)
        · exact b4
      rcases hb i hi with q | q
      · exact .inl ⟨q, Int.le_trans (hDle _ q) (by show (n' : Int) ≤ (((if ((s : Int), (t : Int)) = ((s : Int), (t : Int)) then n' else D ((s : Int), (t : Int))) : Nat) : Int) + en W s i t; rw [if_pos rfl]; omega)⟩
      · exact .inr ⟨_, q, rfl, by show (n' : Int) + en W s i t ≤ (((if ((s : Int), (t : Int)) = ((s : Int), (t : Int)) then n' else D ((s : Int), (t : Int))) : Nat) : Int) + en W s i t; rw [if_pos rfl]; omega⟩
    · have hm2 : ((s : Int), (t : Int)) ∈ ps := by
        rcases List.mem_append.1 hm' with q | q
        · exact q
        · exact absurd (by simpa using q) e
      have := hc _ _ (h.edg s t i hi hm2)
      show Cov L3 _ _ _ ((((if ((s : Int), (t : Int)) = ((s' : Int), (t' : Int)) then n' else D ((s : Int), (t : Int))) : Nat) : Int) + en W s i t)
      rw [if_neg e]
      exact this
  · refine Int.le_trans (hDle p hp') ?_
    rcases hall y hy with e | rfl | rfl
    · exact hm y e
    · show (n' : Int) ≤ (n' : Int) + en W s' 0 t'; omega
    · show (n' : Int) ≤ (n' : Int) + en W s' 1 t'; omega
  · rcases List.mem_append.1 hp' with q | q
    · exact h.nz p q
    · rw [List.mem_singleton] at q
      subst q
      show (s' : Int) ≠ 0
      omega
end Go.Proofs.YtijpnlmejphfhaaDoor.P

-- YtijpnlmejphfhaaDoorPDAdd
namespace Go.Proofs.YtijpnlmejphfhaaDoor.P
open Go Go.Proofs Go.RowKit Go.Proofs.YtijpnlmejphfhaaDoorW.PrintWords Go.Proofs.YtijpnlmejphfhaaDoorW.PrintLast Go.Proofs.YtijpnlmejphfhaaDoorW.PrintMore
set_option linter.unusedVariables false
set_option linter.unusedSimpArgs false

/-- The search at block g: its heap of ways, its map of places (block m). -/
structure DS (w : World) (n₀ g m : Nat) (a b c d : Int) (v : Value) (L : List Wy) (ps : List (Int × Int)) : Prop where
  hs : HS w n₀ g a b c d (.map (some m)) v L
  map : MapIs w m ps
  mlow : n₀ ≤ m
  heap : HeapN L L.length
variable {w w' : World} {n₀ g m : Nat} {a b c d : Int} {v v' : Value} {L L' : List Wy} {ps ps' : List (Int × Int)}
theorem DS.mlt (h : DS w n₀ g m a b c d v L ps) : m < w.heap.size := by
  obtain ⟨es, cl, hb, _⟩ := h.map
  exact blk_lt hb
theorem MapIs.of_block (h : MapIs w m ps) (hb : w'.heap[m]? = w.heap[m]?) : MapIs w' m ps := by
  obtain ⟨es, cl, h1, h2⟩ := h
  exact ⟨es, cl, hb.trans h1, h2⟩
theorem DS.below (h : DS w n₀ g m a b c d v L ps) (hb : Below w.heap.size w w') : DS w' n₀ g m a b c d v L ps :=
  ⟨h.hs.below hb, h.map.of_block (hb.block m h.mlt), h.mlow, h.heap⟩
theorem DS.mne (h : DS w n₀ g m a b c d v L ps) : m ≠ g ∧ some m ≠ v.ownBlock := by
  obtain ⟨es, cl, hb, _⟩ := h.map
  refine ⟨fun e => ?_, fun e => ?_⟩
  · have := h.hs.blk
    rw [← e, hb] at this
    cases this
  · obtain ⟨inner, ho⟩ := Kd.R_own h.hs.row
    obtain ⟨cells, hc⟩ := own_typed ho m e.symm
    rw [hb] at hc
    cases hc
theorem DS.cells (h : DS w n₀ g m a b c d v L ps) : ∀ q, q < 4 → w.cell? ⟨g, q, none⟩ = some (.int .i64 (wOf a b c d q)) := by
  intro q hq
  obtain rfl | rfl | rfl | rfl : q = 0 ∨ q = 1 ∨ q = 2 ∨ q = 3 := by omega
  · exact blk_cell h.hs.blk 0
  · exact blk_cell h.hs.blk 1
  · exact blk_cell h.hs.blk 2
  · exact blk_cell h.hs.blk 3
theorem nx_l (t : Nat) : (nx t : Int) < 4 := by have := nx_lt t; omega
theorem nat4 {t : Nat} (h : t < 4) : (t : Int) < 4 := by omega
def add2.T : Bool × List (List Nat × List Nat) := (true, [([], []), ([0], [0]), ([1], [1]), ([2], [2]), ([], []), ([3, 4], [3, 4]), ([5], [5])])
def add2.B : List Nat := [0, 1, 3, 7, 0, 31, 63]
theorem add2.tab : rtab .any (opsOf Tryd.f44 2) = add2.T := by kernel_rfl
theorem add2.bits : waitsOk add2.T.2 add2.B = true := by kernel_rfl
def add3.T : Bool × List (List Nat × List Nat) := (true, [([], []), ([0], [0]), ([1], [1]), ([2], [2]), ([], []), ([], []), ([], []), ([], []), ([], []), ([6, 7, 8], [6, 7, 8]), ([5, 9], [5, 9]), ([4, 10], [4, 10]), ([11], [11]), ([3, 12, 9], [3, 12])])
def add3.B : List Nat := [0, 1, 3, 7, 0, 0, 0, 0, 0, 448, 992, 2032, 4080, 8191]
theorem add3.tab : rtab .any (opsOf Tryd.f44 3) = add3.T := by kernel_rfl
theorem add3.bits : waitsOk add3.T.2 add3.B = true := by kernel_rfl
set_option maxRecDepth 100000 in
set_option maxHeartbeats 8000000 in
theorem add_way {s i t : Nat} (h : DS w n₀ g m a b c d v L ps) (hn : n₀ ≤ w.heap.size) (hW : ∀ q, q < 4 → 0 ≤ wOf a b c d q ∧ wOf a b c d q ≤ 7) (fr dt ii : Int) (ht : t < 4) (far : Int) (hf : 0 ≤ far ∧ far ≤ 100000000) (hl : L.length < 2000) :
    Calls Tryd.prog 44 #[.pointer (some ⟨g, 0, none⟩), .agg #[.int .i64 fr, .int .i64 dt, .int .u8 ii, .int .u8 (ob s i 0), .int .u8 (ob s i 1), .int .u8 (ob s i 2), .int .u8 (ob s i 3)], .int .i64 (t : Int), .int .i64 far] w fun e w' =>
      e = .returned (.tuple #[]) ∧ ∃ v' L', DS w' n₀ g m a b c d v' L' ps ∧ Fr g v w w' ∧ Newer w v v' ∧ AddP L L' ps (dt, (nx t : Int), far + ew (wOf a b c d) s i t) := by
  have HD := Aside0.mk h
  have HW := Aside0.mk hW
  have HN := Aside0.mk hn
  have HF := Aside0.mk hf
  have HLL := Aside0.mk hl
  obtain ⟨o0, ho0⟩ : ∃ o0, o0 = ob s i 0 := ⟨_, rfl⟩
  obtain ⟨o1, ho1⟩ : ∃ o1, o1 = ob s i 1 := ⟨_, rfl⟩
  obtain ⟨o2, ho2⟩ : ∃ o2, o2 = ob s i 2 := ⟨_, rfl⟩
  obtain ⟨o3, ho3⟩ : ∃ o3, o3 = ob s i 3 := ⟨_, rfl⟩
  rw [← ho0, ← ho1, ← ho2, ← ho3]
  have HO := Aside0.mk (And.intro ho0 (And.intro ho1 (And.intro ho2 ho3)))
  have hu1 := nx_e t
  have hu2 := nx_t t
  have hu4 := nx_w t ht
  have hu3 := nx_l t
  obtain ⟨u, hu⟩ : ∃ u, u = nx t := ⟨_, rfl⟩
  rw [← hu] at hu1 hu2 hu3 hu4 ⊢
  have ht4 := nat4 ht
  clear h hn hW hf hl ho0 ho1 ho2 ho3 hu
  go_enter Tryd.func44, Tryd.ntmps44
  go_wp2_with fail
  have hba := below_alloc (Below.refl w.heap.size w) (.cells #[.int .i64 fr, .int .i64 dt, .int .u8 ii, .int .u8 o0, .int .u8 o1, .int .u8 o2, .int .u8 o3] 77)
  have hbb := blk_new w (.cells #[.int .i64 fr, .int .i64 dt, .int .u8 ii, .int .u8 o0, .int .u8 o1, .int .u8 o2, .int .u8 o3] 77)
  obtain ⟨w1, hw1⟩ : ∃ w1, w1 = w.alloc (.cells #[.int .i64 fr, .int .i64 dt, .int .u8 ii, .int .u8 o0, .int .u8 o1, .int .u8 o2, .int .u8 o3] 77) := ⟨_, rfl⟩
  have hz1 : w1.heap.size = w.heap.size + 1 := by rw [hw1, World.size_alloc]
  rw [← hw1] at hba hbb
  rw [← hw1, ← hz1]
  have hba2 := below_alloc (Below.refl w1.heap.size w1) (.cells #[.int .i64 dt, .int .i64 (u : Int)] 86)
  have hbb2 := blk_new w1 (.cells #[.int .i64 dt, .int .i64 (u : Int)] 86)
  obtain ⟨w2, hw2⟩ : ∃ w2, w2 = w1.alloc (.cells #[.int .i64 dt, .int .i64 (u : Int)] 86) := ⟨_, rfl⟩
  obtain ⟨E, hE⟩ : ∃ E, E = w.heap.size := ⟨_, rfl⟩
  obtain ⟨T, hT⟩ : ∃ T, T = w1.heap.size := ⟨_, rfl⟩
  have hEl : E < w1.heap.size := by rw [hE, hz1]; exact Nat.lt_succ_self _
  rw [← hw2] at hba2 hbb2
  rw [← hE] at hbb
  rw [← hT] at hbb2
  rw [← hw2, ← hE, ← hT]
  have HE := Aside0.mk (show w2.drew.heap[E]? = some (.cells #[.int .i64 fr, .int .i64 dt, .int .u8 ii, .int .u8 o0, .int .u8 o1, .int .u8 o2, .int .u8 o3] 77 (0, 0)) from (hba2.block E hEl).trans hbb)
  have HT := Aside0.mk (show w2.drew.heap[T]? = some (.cells #[.int .i64 dt, .int .i64 (u : Int)] 86 (0, 0)) from hbb2)
  have HB := Aside0.mk (show Below w.heap.size w w2.drew from below_drew1 (below_step hba hba2))
  have HD2 := Aside0.mk (HD.out.below HB.out)
  have HS := Aside0.mk (show w2.drew.cell? ⟨g, 5, none⟩ = some (.map (some m)) ∧ w2.drew.cell? ⟨T, 0, none⟩ = some (.int .i64 dt) ∧ w2.drew.cell? ⟨T, 1, none⟩ = some (.int .i64 (u : Int)) ∧ MapIs w2.drew m ps from
    ⟨blk_cell HD2.out.hs.blk 5, blk_cell HT.out 0, blk_cell HT.out 1, HD2.out.map⟩)
  clear hba hbb hw1 hz1 hba2 hbb2 hw2 hE hT hEl
  refine start_ (n := 7) (S := (fun w' => w'.cell? ⟨g, 5, none⟩ = some (.map (some m)) ∧ w'.cell? ⟨T, 0, none⟩ = some (.int .i64 dt) ∧ w'.cell? ⟨T, 1, none⟩ = some (.int .i64 (u : Int)) ∧ MapIs w' m ps)) (ds := []) #[false, false, false, false, false, false, false] (by kernel_rfl) rfl rfl HS.out (fun hHeld => ?_)
  refine with_tabW add2.tab add2.bits (fun HT_ HW_ => ?_)
  refine pure_ (i := 0) (N := some 15) (v := ?_) (a' := ?_) #[true, false, false, false, false, false, false] rfl rfl (any_of HT_.out (by kernel_rfl)) (fun _ _ _ h => h) (Or.inl ⟨by rfl, ?_⟩) ?_ ?_
  rotate_left
  · intro w'
    go_simp
    with_reducible rfl
  rotate_left
  · simp only [Act.put, List.setIfInBounds_toArray, List.set_cons_zero, List.set_cons_succ, i64_w, i32_w]
    rfl
  refine pure_ (i := 1) (N := some 16) (v := ?_) (a' := ?_) #[true, true, false, false, false, false, false] rfl rfl (any_of HT_.out (by kernel_rfl)) (fun _ _ _ h => h) (Or.inl ⟨by rfl, ?_⟩) ?_ ?_
  rotate_left
  · intro w'
    go_simp
    with_reducible rfl
  rotate_left
  · simp only [Act.put, List.setIfInBounds_toArray, List.set_cons_zero, List.set_cons_succ, i64_w, i32_w]
    rfl
  refine pure_ (i := 2) (N := some 17) (v := ?_) (a' := ?_) #[true, true, true, false, false, false, false] rfl rfl (any_of HT_.out (by kernel_rfl)) (fun _ _ _ h => h) (Or.inl ⟨by rfl, ?_⟩) ?_ ?_
  rotate_left
  · intro w'
    go_simp
    with_reducible rfl
  rotate_left
  · simp only [Act.put, List.setIfInBounds_toArray, List.set_cons_zero, List.set_cons_succ, i64_w, i32_w]
    rfl
  refine take_ (i := 3) (N := some 18) (v := ?_) (a' := ?_) #[true, true, true, true, false, false, false] rfl rfl (take_ofW HT_.out HW_.out (by kernel_rfl)) (fun _ _ _ h => h) (Or.inl ⟨by rfl, ?_⟩) hHeld ?_ ?_
  rotate_left
  · rintro w' ⟨s0, s1, s2, s3⟩
    go_simp
    with_reducible rfl
  rotate_left
  · simp only [Act.put, List.setIfInBounds_toArray, List.set_cons_zero, List.set_cons_succ, i64_w, i32_w]
    rfl
  refine take_ (i := 4) (N := some 19) (v := ?_) (a' := ?_) #[true, true, true, true, true, false, false] rfl rfl (take_ofW HT_.out HW_.out (by kernel_rfl)) (fun _ _ _ h => h) (Or.inl ⟨by rfl, ?_⟩) hHeld ?_ ?_
  rotate_left
  · rintro w' ⟨s0, s1, s2, s3⟩
    go_simp
    with_reducible rfl
  rotate_left
  · simp only [Act.put, List.setIfInBounds_toArray, List.set_cons_zero, List.set_cons_succ, i64_w, i32_w]
    rfl
  refine take_ (i := 5) (N := some 20) (v := ?_) (a' := ?_) #[true, true, true, true, true, true, false] rfl rfl (take_ofW HT_.out HW_.out (by kernel_rfl)) (fun _ _ _ h => h) (Or.inl ⟨by rfl, ?_⟩) hHeld ?_ ?_
  rotate_left
  · rintro w' ⟨s0, s1, s2, s3⟩
    have hl := look_run s3 dt (u : Int); unfold plK at hl; go_simp; with_reducible rfl
  rotate_left
  · simp only [Act.put, List.setIfInBounds_toArray, List.set_cons_zero, List.set_cons_succ, i64_w, i32_w]
    rfl
  refine pure_ (i := 6) (N := some 21) (v := ?_) (a' := ?_) #[true, true, true, true, true, true, true] rfl rfl (any_of HT_.out (by kernel_rfl)) (fun _ _ _ h => h) (Or.inl ⟨by rfl, ?_⟩) ?_ ?_
  rotate_left
  · intro w'
    go_simp
    with_reducible rfl
  rotate_left
  · simp only [Act.put, List.setIfInBounds_toArray, List.set_cons_zero, List.set_cons_succ, i64_w, i32_w]
    rfl
  refine done_ (done_of HT_.out (by kernel_rfl)) ?_
  clear hHeld
  by_cases hin : (dt, (u : Int)) ∈ ps
  · rw [decide_eq_true hin]
    have HIN := Aside0.mk hin
    clear hin
    go_wp2_with fail
    refine bodyPost_end (results_none rfl _ _ _) rfl ?_
    exact ⟨by simp, v, L, HD2.out, Fr.of_below HB.out, Newer.refl _ _, by unfold AddP; rw [if_pos HIN.out]⟩
  · rw [decide_eq_false hin]
    have HIN := Aside0.mk hin
    clear hin HS
    go_wp2_with fail
    have hwe := dweigh_calls (w := w2.drew.drew) (g := g) (W := wOf a b c d) (HD2.out.below (below_drew1 (Below.refl _ _))).hs.lt (HD2.out.below (below_drew1 (Below.refl _ _))).cells HW.out fr dt ii o0 o1 o2 o3 (by rw [HO.out.1, HO.out.2.1, HO.out.2.2.1, HO.out.2.2.2]; exact o4_ob s i) t (by omega)
    have hewe : wsum (wOf a b c d) (o4 o0 o1 o2 o3) t 4 = ew (wOf a b c d) s i t := by rw [HO.out.1, HO.out.2.1, HO.out.2.2.1, HO.out.2.2.2]; rfl
    rw [hewe] at hwe
    have hxb := ew_in HW.out s i t
    obtain ⟨x, hx⟩ : ∃ x, x = ew (wOf a b c d) s i t := ⟨_, rfl⟩
    rw [← hx] at hwe hxb
    have hwf : wrap64 (far + x) = far + x := wrap_small (by have := HF.out; omega) (by have := HF.out; omega)
    have HX := Aside0.mk hx
    have HWE := Aside0.mk hwe
    have hD3 := HD2.out.below (below_drew1 (Below.refl w2.drew.heap.size w2.drew))
    have hE3 : w2.drew.drew.heap[E]? = some (.cells #[.int .i64 fr, .int .i64 dt, .int .u8 ii, .int .u8 o0, .int .u8 o1, .int .u8 o2, .int .u8 o3] 77 (0, 0)) := HE.out
    have hT3 : w2.drew.drew.heap[T]? = some (.cells #[.int .i64 dt, .int .i64 (u : Int)] 86 (0, 0)) := HT.out
    have HD3 := Aside0.mk hD3
    have HBK := Aside0.mk (And.intro hE3 hT3)
    have HB3 := Aside0.mk (below_drew1 HB.out)
    have HS3 := Aside0.mk (show w2.drew.drew.cell? ⟨T, 0, none⟩ = some (.int .i64 dt) ∧ w2.drew.drew.cell? ⟨T, 1, none⟩ = some (.int .i64 (u : Int)) ∧ w2.drew.drew.cell? ⟨E, 0, none⟩ = some (.int .i64 fr) ∧ w2.drew.drew.cell? ⟨E, 1, none⟩ = some (.int .i64 dt) ∧ w2.drew.drew.cell? ⟨E, 2, none⟩ = some (.int .u8 ii) ∧ w2.drew.drew.cell? ⟨E, 3, none⟩ = some (.int .u8 o0) ∧ w2.drew.drew.cell? ⟨E, 4, none⟩ = some (.int .u8 o1) ∧ w2.drew.drew.cell? ⟨E, 5, none⟩ = some (.int .u8 o2) ∧ w2.drew.drew.cell? ⟨E, 6, none⟩ = some (.int .u8 o3) from
      ⟨blk_cell hT3 0, blk_cell hT3 1, blk_cell hE3 0, blk_cell hE3 1, blk_cell hE3 2, blk_cell hE3 3, blk_cell hE3 4, blk_cell hE3 5, blk_cell hE3 6⟩)
    clear hwe hewe hxb hx hD3 hE3 hT3
    refine start_ (n := 14) (S := (fun w' => w'.cell? ⟨T, 0, none⟩ = some (.int .i64 dt) ∧ w'.cell? ⟨T, 1, none⟩ = some (.int .i64 (u : Int)) ∧ w'.cell? ⟨E, 0, none⟩ = some (.int .i64 fr) ∧ w'.cell? ⟨E, 1, none⟩ = some (.int .i64 dt) ∧ w'.cell? ⟨E, 2, none⟩ = some (.int .u8 ii) ∧ w'.cell? ⟨E, 3, none⟩ = some (.int .u8 o0) ∧ w'.cell? ⟨E, 4, none⟩ = some (.int .u8 o1) ∧ w'.cell? ⟨E, 5, none⟩ = some (.int .u8 o2) ∧ w'.cell? ⟨E, 6, none⟩ = some (.int .u8 o3))) (ds := [13]) #[false, false, false, false, false, false, false, false, false, false, false, false, false, false] (by kernel_rfl) rfl rfl HS3.out (fun hHeld => ?_)
    refine with_tabW add3.tab add3.bits (fun HT_ HW_ => ?_)
    refine pure_ (i := 0) (N := some 22) (v := ?_) (a' := ?_) #[true, false, false, false, false, false, false, false, false, false, false, false, false, false] rfl rfl (any_of HT_.out (by kernel_rfl)) (fun _ _ _ h => h) (Or.inl ⟨by rfl, ?_⟩) ?_ ?_
    rotate_left
    · intro w'
      go_simp
      with_reducible rfl
    rotate_left
    · simp only [Act.put, List.setIfInBounds_toArray, List.set_cons_zero, List.set_cons_succ, i64_w, i32_w]
      rfl
    refine pure_ (i := 1) (N := some 23) (v := ?_) (a' := ?_) #[true, true, false, false, false, false, false, false, false, false, false, false, false, false] rfl rfl (any_of HT_.out (by kernel_rfl)) (fun _ _ _ h => h) (Or.inl ⟨by rfl, ?_⟩) ?_ ?_
    rotate_left
    · intro w'
      go_simp
      with_reducible rfl
    rotate_left
    · simp only [Act.put, List.setIfInBounds_toArray, List.set_cons_zero, List.set_cons_succ, i64_w, i32_w]
      rfl
    refine pure_ (i := 2) (N := some 24) (v := ?_) (a' := ?_) #[true, true, true, false, false, false, false, false, false, false, false, false, false, false] rfl rfl (any_of HT_.out (by kernel_rfl)) (fun _ _ _ h => h) (Or.inl ⟨by rfl, ?_⟩) ?_ ?_
    rotate_left
    · intro w'
      go_simp
      with_reducible rfl
    rotate_left
    · simp only [Act.put, List.setIfInBounds_toArray, List.set_cons_zero, List.set_cons_succ, i64_w, i32_w]
      rfl
    refine pure_ (i := 3) (N := some 25) (v := ?_) (a' := ?_) #[true, true, true, true, false, false, false, false, false, false, false, false, false, false] rfl rfl (any_of HT_.out (by kernel_rfl)) (fun _ _ _ h => h) (Or.inl ⟨by rfl, ?_⟩) ?_ ?_
    rotate_left
    · intro w'
      go_simp
      with_reducible rfl
    rotate_left
    · simp only [Act.put, List.setIfInBounds_toArray, List.set_cons_zero, List.set_cons_succ, i64_w, i32_w]
      rfl
    refine take_ (i := 4) (N := some 26) (v := ?_) (a' := ?_) #[true, true, true, true, true, false, false, false, false, false, false, false, false, false] rfl rfl (take_ofW HT_.out HW_.out (by kernel_rfl)) (fun _ _ _ h => h) (Or.inl ⟨by rfl, ?_⟩) hHeld ?_ ?_
    rotate_left
    · rintro w' ⟨s0, s1, s2, s3, s4, s5, s6, s7, s8⟩
      go_simp
      with_reducible rfl
    rotate_left
    · simp only [Act.put, List.setIfInBounds_toArray, List.set_cons_zero, List.set_cons_succ, i64_w, i32_w]
      rfl
    refine pure_ (i := 5) (N := some 27) (v := ?_) (a' := ?_) #[true, true, true, true, true, true, false, false, false, false, false, false, false, false] rfl rfl (any_of HT_.out (by kernel_rfl)) (fun _ _ _ h => h) (Or.inl ⟨by rfl, ?_⟩) ?_ ?_
    rotate_left
    · intro w'
      go_simp
      with_reducible rfl
    rotate_left
    · simp only [Act.put, List.setIfInBounds_toArray, List.set_cons_zero, List.set_cons_succ, i64_w, i32_w]
      rfl
    refine pure_ (i := 6) (N := some 28) (v := ?_) (a' := ?_) #[true, true, true, true, true, true, true, false, false, false, false, false, false, false] rfl rfl (any_of HT_.out (by kernel_rfl)) (fun _ _ _ h => h) (Or.inl ⟨by rfl, ?_⟩) ?_ ?_
    rotate_left
    · intro w'
      go_simp
      with_reducible rfl
    rotate_left
    · simp only [Act.put, List.setIfInBounds_toArray, List.set_cons_zero, List.set_cons_succ, i64_w, i32_w]
      rfl
    refine take_ (i := 7) (N := some 29) (v := ?_) (a' := ?_) #[true, true, true, true, true, true, true, true, false, false, false, false, false, false] rfl rfl (take_ofW HT_.out HW_.out (by kernel_rfl)) (fun _ _ _ h => h) (Or.inl ⟨by rfl, ?_⟩) hHeld ?_ ?_
    rotate_left
    · rintro w' ⟨s0, s1, s2, s3, s4, s5, s6, s7, s8⟩
      go_simp
      with_reducible rfl
    rotate_left
    · simp only [Act.put, List.setIfInBounds_toArray, List.set_cons_zero, List.set_cons_succ, i64_w, i32_w]
      rfl
    refine pure_ (i := 8) (N := some 30) (v := ?_) (a' := ?_) #[true, true, true, true, true, true, true, true, true, false, false, false, false, false] rfl rfl (any_of HT_.out (by kernel_rfl)) (fun _ _ _ h => h) (Or.inl ⟨by rfl, ?_⟩) ?_ ?_
    rotate_left
    · intro w'
      go_simp
      with_reducible rfl
    rotate_left
    · simp only [Act.put, List.setIfInBounds_toArray, List.set_cons_zero, List.set_cons_succ, i64_w, i32_w]
      rfl
    refine one_ (i := 9) (N := some 31) #[true, true, true, true, true, true, true, true, true, true, false, false, false, false] rfl rfl (one_of HT_.out (by kernel_rfl)) (by decide) (fun K hK => ?_)
    refine goes_ Tryd.func50 (by kernel_rfl) rfl #[.pointer (some ⟨g, 0, none⟩), .agg #[.int .i64 fr, .int .i64 dt, .int .u8 ii, .int .u8 o0, .int .u8 o1, .int .u8 o2, .int .u8 o3], .int .i64 ↑t] (by rfl) rfl rfl (by (try simp only [List.map_toArray, List.map_cons, List.map_nil]); first | done | rfl | (go_simp; done) | simp [Act.eval]) ?_
    refine HWE.out.mono ?_
    rintro e w4 ⟨rfl, hb4⟩
    have hE4 := (hb4.block E (blk_lt HBK.out.1)).trans HBK.out.1
    have hT4 := (hb4.block T (blk_lt HBK.out.2)).trans HBK.out.2
    have HD4 := Aside0.mk (HD3.out.below hb4)
    have HB4 := Aside0.mk (below_step HB3.out hb4)
    have HS4 := Aside0.mk (show w4.cell? ⟨T, 0, none⟩ = some (.int .i64 dt) ∧ w4.cell? ⟨T, 1, none⟩ = some (.int .i64 (u : Int)) ∧ w4.cell? ⟨E, 0, none⟩ = some (.int .i64 fr) ∧ w4.cell? ⟨E, 1, none⟩ = some (.int .i64 dt) ∧ w4.cell? ⟨E, 2, none⟩ = some (.int .u8 ii) ∧ w4.cell? ⟨E, 3, none⟩ = some (.int .u8 o0) ∧ w4.cell? ⟨E, 4, none⟩ = some (.int .u8 o1) ∧ w4.cell? ⟨E, 5, none⟩ = some (.int .u8 o2) ∧ w4.cell? ⟨E, 6, none⟩ = some (.int .u8 o3) from
      ⟨blk_cell hT4 0, blk_cell hT4 1, blk_cell hE4 0, blk_cell hE4 1, blk_cell hE4 2, blk_cell hE4 3, blk_cell hE4 4, blk_cell hE4 5, blk_cell hE4 6⟩)
    clear hb4 hE4 hT4
    refine ⟨_, rfl, ?_⟩
    refine hK.out _ _ HS4.out (fun hHeld => ?_)
    clear hK K
    refine norm_ (a' := ?_) ?_ ?_
    rotate_left
    · show Act.put _ (some 31) _ = _
      simp only [Act.put, List.setIfInBounds_toArray, List.set_cons_zero, List.set_cons_succ, i64_w, i32_w]
      rfl
    refine pure_ (i := 10) (N := some 32) (v := ?_) (a' := ?_) #[true, true, true, true, true, true, true, true, true, true, true, false, false, false] rfl rfl (any_of HT_.out (by kernel_rfl)) (fun _ _ _ h => h) (Or.inl ⟨by rfl, ?_⟩) ?_ ?_
    rotate_left
    · intro w'
      go_simp
      with_reducible rfl
    rotate_left
    · simp only [Act.put, List.setIfInBounds_toArray, List.set_cons_zero, List.set_cons_succ, i64_w, i32_w]
      rfl
    refine pure_ (i := 11) (N := some 33) (v := ?_) (a' := ?_) #[true, true, true, true, true, true, true, true, true, true, true, true, false, false] rfl rfl (any_of HT_.out (by kernel_rfl)) (fun _ _ _ h => h) (Or.inl ⟨by rfl, ?_⟩) ?_ ?_
    rotate_left
    · intro w'
      go_simp
      with_reducible rfl
    rotate_left
    · simp only [Act.put, List.setIfInBounds_toArray, List.set_cons_zero, List.set_cons_succ, i64_w, i32_w]
      rfl
    refine pure_ (i := 12) (N := some 34) (v := ?_) (a' := ?_) #[true, true, true, true, true, true, true, true, true, true, true, true, true, false] rfl rfl (any_of HT_.out (by kernel_rfl)) (fun _ _ _ h => h) (Or.inl ⟨by rfl, ?_⟩) ?_ ?_
    rotate_left
    · intro w'
      go_simp
      with_reducible rfl
    rotate_left
    · simp only [Act.put, List.setIfInBounds_toArray, List.set_cons_zero, List.set_cons_succ, i64_w, i32_w]
      rfl
    refine last_ (i := 13) (N := some 35) #[true, true, true, true, true, true, true, true, true, true, true, true, true, true] rfl rfl (one_of HT_.out (by kernel_rfl)) (by decide) (fun K hK => ?_)
    refine goes_ Tryd.func49 (by kernel_rfl) rfl #[.iface 91 (.pointer (some ⟨g, 4, none⟩)), .iface 88 (.agg #[.int .i64 dt, .int .i64 ↑u, .int .i64 (far + x)])] (by rfl) rfl rfl (by (try simp only [List.map_toArray, List.map_cons, List.map_nil]); first | done | rfl | (go_simp; done) | simp [Act.eval]) ?_
    refine (hpush_calls HD4.out.hs HD4.out.heap dt (u : Int) (far + x) HLL.out).mono ?_
    rintro e w5 ⟨rfl, v5, L5, hH5, hF5, hN5, hP5, hh5⟩
    have H5 := Aside0.mk (And.intro hH5 (And.intro hF5 (And.intro hN5 (And.intro hP5 hh5))))
    clear hH5 hF5 hN5 hP5 hh5
    refine ⟨_, rfl, ?_⟩
    refine hK.out _ _ ?_
    clear hK K
    refine norm_ (a' := ?_) ?_ ?_
    rotate_left
    · show Act.put _ (some 35) _ = _
      simp only [Act.put, List.setIfInBounds_toArray, List.set_cons_zero, List.set_cons_succ, i64_w, i32_w]
      rfl
    refine done_ (done_of HT_.out (by kernel_rfl)) ?_
    go_wp2
    refine bodyPost_end (results_none rfl _ _ _) rfl ?_
    obtain ⟨hH5, hF5, hN5, hP5, hh5⟩ := H5.out
    have hm5 := hF5.block m HD4.out.mlt HD4.out.mne.1 HD4.out.mne.2
    exact ⟨by simp, v5, L5, ⟨hH5, HD4.out.map.of_block hm5, HD4.out.mlow, hh5⟩, (Fr.of_below HB4.out).seq hF5, (Newer.refl w v).trans HB4.out.size hN5, by unfold AddP; rw [if_neg HIN.out, ← HX.out]; exact hP5⟩
end Go.Proofs.YtijpnlmejphfhaaDoor.P

-- YtijpnlmejphfhaaDoorPDBegin
namespace Go.Proofs.YtijpnlmejphfhaaDoor.P
open Go Go.Proofs Go.RowKit Go.Proofs.YtijpnlmejphfhaaDoorW.PrintWords Go.Proofs.YtijpnlmejphfhaaDoorW.PrintLast Go.Proofs.YtijpnlmejphfhaaDoorW.PrintMore
set_option linter.unusedVariables false
set_option linter.unusedSimpArgs false

variable {w w' : World} {n₀ g m : Nat} {a b c d : Int} {v v' : Value} {L L' : List Wy} {ps ps' : List (Int × Int)}
theorem DS.fr (h : DS w n₀ g m a b c d v L ps) (hf : Fr g v w w') (hn : n₀ ≤ w.heap.size) : Below n₀ w w' := hf.below hn h.hs.low (fun q hq => (h.hs.own q hq).1)
/-- The first edges, up to step j. -/
def firstW (W : Nat → Int) (j : Nat) : List Wy := (List.range j).map fun t => ((32 : Int), (nx t : Int), (en W 0 1 t : Int))
theorem firstW_succ (W : Nat → Int) (j : Nat) : firstW W (j + 1) = firstW W j ++ [((32 : Int), (nx j : Int), (en W 0 1 j : Int))] := by unfold firstW; rw [List.range_succ, List.map_append]; rfl
/-- What the search begins with. -/
theorem DJ.start {W : Nat → Int} (hW : ∀ v, v < 4 → 0 ≤ W v ∧ W v ≤ 7) (h : L.Perm (firstW W 4)) : DJ W L [] (fun _ => 0) := by
  have hm : ∀ x, x ∈ L ↔ ∃ t, t < 4 ∧ ((32 : Int), (nx t : Int), (en W 0 1 t : Int)) = x := by
    intro x
    rw [h.mem_iff]
    unfold firstW
    simp only [List.mem_map, List.mem_range]
  have hl := h.length_eq
  have h4 : (firstW W 4).length = 4 := by simp [firstW]
  refine ⟨fun x hx => ?_, fun x hx => ?_, fun t ht => ?_, fun _ _ _ _ h => by simp at h, fun _ h => by simp at h, fun _ h => by simp at h, fun _ h => by simp at h, List.nodup_nil, by simp only [List.length_nil]; omega⟩
  · obtain ⟨t, ht, rfl⟩ := (hm x).1 hx
    exact ⟨32, nx t, en W 0 1 t, rfl, .first t ht⟩
  · obtain ⟨t, ht, rfl⟩ := (hm x).1 hx
    have := en_le hW 0 1 t
    show (en W 0 1 t : Int) ≤ 28 * (((0 : Nat) : Int) + 1)
    omega
  · exact .inr ⟨_, (hm _).2 ⟨t, ht, rfl⟩, rfl, Int.le_refl _⟩
set_option maxRecDepth 100000 in
set_option maxHeartbeats 8000000 in
theorem dbegin_calls (hT : TP w) (h : DS w n₀ g m a b c d v [] []) (hn : n₀ ≤ w.heap.size) (hW : ∀ q, q < 4 → 0 ≤ wOf a b c d q ∧ wOf a b c d q ≤ 7) :
    Calls Tryd.prog 35 #[.pointer (some ⟨g, 0, none⟩)] w fun e w' =>
      e = .returned (.int .i64 0) ∧ ∃ v' L', DS w' n₀ g m a b c d v' L' [] ∧ Below n₀ w w' ∧ DJ (wOf a b c d) L' [] (fun _ => 0) := by
  have HT := Aside0.mk hT
  have HD := Aside0.mk h
  have HW := Aside0.mk hW
  have HN := Aside0.mk hn
  have hfr := trellis_From.calls 0 _ _ _ _ _ _ _ _ _ _ _ _ _ _ _ w from_0 hT
  obtain ⟨p0, hp0⟩ : ∃ p0, p0 = ob 0 0 0 := ⟨_, rfl⟩
  obtain ⟨p1, hp1⟩ : ∃ p1, p1 = ob 0 0 1 := ⟨_, rfl⟩
  obtain ⟨p2, hp2⟩ : ∃ p2, p2 = ob 0 0 2 := ⟨_, rfl⟩
  obtain ⟨p3, hp3⟩ : ∃ p3, p3 = ob 0 0 3 := ⟨_, rfl⟩
  obtain ⟨q0, hq0⟩ : ∃ q0, q0 = ob 0 1 0 := ⟨_, rfl⟩
  obtain ⟨q1, hq1⟩ : ∃ q1, q1 = ob 0 1 1 := ⟨_, rfl⟩
  obtain ⟨q2, hq2⟩ : ∃ q2, q2 = ob 0 1 2 := ⟨_, rfl⟩
  obtain ⟨q3, hq3⟩ : ∃ q3, q3 = ob 0 1 3 := ⟨_, rfl⟩
  rw [← hp0, ← hp1, ← hp2, ← hp3, ← hq0, ← hq1, ← hq2, ← hq3] at hfr
  have HQ := Aside0.mk (And.intro hq0 (And.intro hq1 (And.intro hq2 hq3)))
  have HFR := Aside0.mk hfr
  clear hT h hW hn hp0 hp1 hp2 hp3 hq0 hq1 hq2 hq3 hfr
  go_enter Tryd.func35, Tryd.ntmps35
  go_wp2_with (first
    | (go_at_call 39; refine Aside0.out ?_)
    | fail)
  refine Aside0.mk ?_
  refine HFR.out.mono ?_
  rintro e w1 ⟨rfl, hb1⟩
  have HB1 := Aside0.mk hb1
  clear hb1 HFR
  go_wp2_with fail
  have hba := below_alloc (Below.refl w1.heap.size w1) (.cells #[.int .i64 0, .int .i64 0, .int .u8 0, .int .u8 p0, .int .u8 p1, .int .u8 p2, .int .u8 p3, .int .i64 0, .int .i64 32, .int .u8 1, .int .u8 q0, .int .u8 q1, .int .u8 q2, .int .u8 q3] 78)
  have hbb := blk_new w1 (.cells #[.int .i64 0, .int .i64 0, .int .u8 0, .int .u8 p0, .int .u8 p1, .int .u8 p2, .int .u8 p3, .int .i64 0, .int .i64 32, .int .u8 1, .int .u8 q0, .int .u8 q1, .int .u8 q2, .int .u8 q3] 78)
  obtain ⟨w2, hw2⟩ : ∃ w2, w2 = w1.alloc (.cells #[.int .i64 0, .int .i64 0, .int .u8 0, .int .u8 p0, .int .u8 p1, .int .u8 p2, .int .u8 p3, .int .i64 0, .int .i64 32, .int .u8 1, .int .u8 q0, .int .u8 q1, .int .u8 q2, .int .u8 q3] 78) := ⟨_, rfl⟩
  obtain ⟨B, hB⟩ : ∃ B, B = w1.heap.size := ⟨_, rfl⟩
  rw [← hw2] at hba hbb
  rw [← hB] at hbb
  rw [← hw2, ← hB]
  have hb2 := below_step HB1.out hba
  have HD2 := Aside0.mk (HD.out.below hb2)
  have HB2 := Aside0.mk (show Below n₀ w w2 from ⟨hb2.os, hb2.tape, hb2.output, hb2.size, fun k hk => hb2.block k (Nat.lt_of_lt_of_le hk HN.out)⟩)
  have HBK := Aside0.mk hbb
  have HBG := Aside0.mk (show B ≠ g by have := HD.out.hs.lt; have := HB1.out.size; omega)
  clear hba hbb hw2 hB hb2
  go_loopw [13] (fun v13 wr => ∃ (j : Nat) (v : Value) (L : List Wy), v13 = .int .i64 (j : Int) ∧ j ≤ 4 ∧ Aside0 (DS wr n₀ g m a b c d v L []) ∧ Aside0 (Below n₀ w wr) ∧ Aside0 (wr.heap[B]? = some (.cells #[.int .i64 0, .int .i64 0, .int .u8 0, .int .u8 p0, .int .u8 p1, .int .u8 p2, .int .u8 p3, .int .i64 0, .int .i64 32, .int .u8 1, .int .u8 q0, .int .u8 q1, .int .u8 q2, .int .u8 q3] 78 (0, 0))) ∧ Aside0 (L.Perm (firstW (wOf a b c d) j))) (fun v13 _ => 4 - (intOf v13).toNat)
  case atStart => exact ⟨0, v, [], by simp, by omega, HD2, HB2, HBK, ⟨List.Perm.refl _⟩⟩
  case round =>
    clear HD2 HB2 HBK
    obtain ⟨j, v, L, rfl, hj, HD2, HB2, HBK, HP⟩ := hrel
    by_cases hlt : j < 4
    · have hlb : decide ((j : Int) < 4) = true := decide_eq_true (nat4 hlt)
      have hj4 := nat4 hlt
      have hc7 : wr.cell? ⟨B, 7, none⟩ = _ := blk_cell HBK.out 7
      have hc8 : wr.cell? ⟨B, 8, none⟩ = _ := blk_cell HBK.out 8
      have hc9 : wr.cell? ⟨B, 9, none⟩ = _ := blk_cell HBK.out 9
      have hc10 : wr.cell? ⟨B, 10, none⟩ = _ := blk_cell HBK.out 10
      have hc11 : wr.cell? ⟨B, 11, none⟩ = _ := blk_cell HBK.out 11
      have hc12 : wr.cell? ⟨B, 12, none⟩ = _ := blk_cell HBK.out 12
      have hc13 : wr.cell? ⟨B, 13, none⟩ = _ := blk_cell HBK.out 13
      have hll : L.length = j := by rw [HP.out.length_eq]; simp [firstW]
      have had := add_way (s := 0) (i := 1) (t := j) HD2.out (Nat.le_trans HN.out HB2.out.size) HW.out 0 32 1 hlt 0 ⟨by decide, by decide⟩ (by rw [hll]; exact Nat.lt_of_lt_of_le hlt (by decide))
      rw [← HQ.out.1, ← HQ.out.2.1, ← HQ.out.2.2.1, ← HQ.out.2.2.2] at had
      have HAD := Aside0.mk had
      clear had hll
      go_wp2_with (first
        | (go_at_call 44; refine Aside0.out ?_)
        | fail)
      refine Aside0.mk ?_
      refine HAD.out.mono ?_
      rintro e w3 ⟨rfl, v3, L3, hD3, hF3, hN3, hA3⟩
      have hne : some B ≠ v.ownBlock := Kd.R_ne HD2.out.hs.row HBK.out (by decide)
      have hB3 := (hF3.block B (blk_lt HBK.out) HBG.out hne).trans HBK.out
      have hb3 := HB2.out.trans (HD2.out.fr hF3 (Nat.le_trans HN.out HB2.out.size))
      have hP3 : L3.Perm (firstW (wOf a b c d) (j + 1)) := by
        unfold AddP at hA3
        rw [if_neg (by simp), Int.zero_add, ew_nat HW.out] at hA3
        rw [firstW_succ]
        exact hA3.trans (HP.out.append_right _)
      have H3 := Aside0.mk (And.intro hD3 (And.intro hb3 (And.intro hB3 hP3)))
      clear hD3 hF3 hN3 hA3 hne hB3 hb3 hP3 HAD hc7 hc8 hc9 hc10 hc11 hc12 hc13
      go_wp2_with fail
      go_roundw
      case rel => exact ⟨j + 1, v3, L3, by simp, by omega, ⟨H3.out.1⟩, ⟨H3.out.2.1⟩, ⟨H3.out.2.2.1⟩, ⟨H3.out.2.2.2⟩⟩
      case measure => simp [intOf]; omega
    · obtain rfl : j = 4 := by omega
      have hlb : decide (((4 : Nat) : Int) < 4) = false := by decide
      go_wp2_with fail
      go_ret
      exact ⟨by simp, v, L, HD2.out, HB2.out, DJ.start HW.out HP.out⟩
end Go.Proofs.YtijpnlmejphfhaaDoor.P

-- YtijpnlmejphfhaaDoorPDRun
namespace Go.Proofs.YtijpnlmejphfhaaDoor.P
open Go Go.Proofs Go.RowKit Go.Proofs.YtijpnlmejphfhaaDoorW.PrintWords Go.Proofs.YtijpnlmejphfhaaDoorW.PrintLast Go.Proofs.YtijpnlmejphfhaaDoorW.PrintMore
set_option linter.unusedVariables false
set_option linter.unusedSimpArgs false

variable {w w' : World} {n₀ g m : Nat} {a b c d : Int} {v v' : Value} {L L' : List Wy} {ps ps' : List (Int × Int)}
theorem TP.bel (h : TP w) (h0 : 0 < n₀) (hb : Below n₀ w w') : TP w' := by
  have e : ∀ i, w'.cell? ⟨0, i, none⟩ = w.cell? ⟨0, i, none⟩ := fun i => World.cell?_of_block (w := w) (hb.block 0 h0)
  exact ⟨(e 0).trans h.c0, (e 1).trans h.c1, (e 2).trans h.c2, (e 3).trans h.c3⟩
theorem DS.put {o : Obj} (h : DS w n₀ g m a b c d v L ps) (hm : MapIs (ChangeMaps.setBlock w m o) m ps') : DS (ChangeMaps.setBlock w m o) n₀ g m a b c d v L ps' ∧ Below n₀ w (ChangeMaps.setBlock w m o) ∧ ∀ k, k ≠ m → (ChangeMaps.setBlock w m o).heap[k]? = w.heap[k]? := by
  obtain ⟨es, cl, hb, _⟩ := h.map
  have hk : ∀ k, k ≠ m → (ChangeMaps.setBlock w m o).heap[k]? = w.heap[k]? := fun k hk => ChangeMaps.heap_setBlock_other hb o (fun e => hk e)
  refine ⟨⟨⟨(hk g h.mne.1.symm).trans h.hs.blk, ?_, h.hs.low⟩, hm, h.mlow, h.heap⟩, ⟨rfl, rfl, rfl, by show _ ≤ (w.heap.setIfInBounds m o).size; simp, fun k hkn => hk k (by have := h.mlow; omega)⟩, hk⟩
  refine Kd.R_mono (Kd.R_move (Kd.R_bound h.hs.row) (fun k ok => hk k (fun e => ?_))) (fun _ _ => trivial)
  obtain ⟨_, _, _, q, _, cells, hc⟩ := ok
  rw [e, hb] at hc
  cases hc
/-- How much is left to be done. -/
def dmsOf (w : World) (g m : Nat) : Nat := 3 * (256 - (match w.heap[m]? with | some (.map es _) => es.size | _ => 0)) + (match w.cell? ⟨g, 4, none⟩ with | some (.slice _ n _) => n | _ => 0)
theorem DS.dms (h : DS w n₀ g m a b c d v L ps) : dmsOf w g m = 3 * (256 - ps.length) + L.length := by
  obtain ⟨es, cl, hb, he⟩ := h.map
  obtain ⟨A, cc, e⟩ := h.hs.slice
  have h4 : w.cell? ⟨g, 4, none⟩ = some v := blk_cell h.hs.blk 4
  have hl := congrArg List.length he
  simp only [List.length_map] at hl
  unfold dmsOf
  rw [hb, h4, e]
  show 3 * (256 - es.size) + L.length = _
  rw [← hl]; rfl
/-- What is left of ways, behind j edges. -/
def AJ (L1 : List Wy) (ps : List (Int × Int)) (x0 x1 : Wy) : Nat → List Wy → Prop
  | 0, L => L = L1
  | 1, L => AddP L1 L ps x0
  | _, L => ∃ L2, AddP L1 L2 ps x0 ∧ AddP L2 L ps x1
theorem AJ.le {L1 L : List Wy} {ps : List (Int × Int)} {x0 x1 : Wy} {j : Nat} (h : AJ L1 ps x0 x1 j L) : L.length ≤ L1.length + 2 := by
  match j, h with
  | 0, h => rw [show L = L1 from h]; omega
  | 1, h => have := (add_sub (show AddP L1 L ps x0 from h)).2.2.1; omega
  | j + 2, h =>
    obtain ⟨L2, h1, h2⟩ := h
    have := (add_sub h1).2.2.1
    have := (add_sub h2).2.2.1
    omega
def run7.T : Bool × List (List Nat × List Nat) := (true, [([], []), ([0], [0]), ([1], [1]), ([2], [2]), ([], []), ([4], [4]), ([3, 5], [3, 5])])
def run7.B : List Nat := [0, 1, 3, 7, 0, 16, 63]
theorem run7.tab : rtab .any (opsOf Tryd.f36 7) = run7.T := by kernel_rfl
theorem run7.bits : waitsOk run7.T.2 run7.B = true := by kernel_rfl
def run8.T : Bool × List (List Nat × List Nat) := (true, [([], []), ([0], [0]), ([1], [1]), ([2], [2]), ([], []), ([4], [4]), ([3, 5, 0, 1, 2, 3, 4, 5], [3, 5])])
def run8.B : List Nat := [0, 1, 3, 7, 0, 16, 63]
theorem run8.tab : rtab .any (opsOf Tryd.f36 8) = run8.T := by kernel_rfl
theorem run8.bits : waitsOk run8.T.2 run8.B = true := by kernel_rfl
set_option maxRecDepth 100000 in
set_option maxHeartbeats 16000000 in
theorem drun_calls (hT : TP w) (h0 : 0 < n₀) (hn : n₀ ≤ w.heap.size) (h : DS w n₀ g m a b c d v L ps) {D : Int × Int → Nat} (hJ : DJ (wOf a b c d) L ps D) (hW : ∀ q, q < 4 → 0 ≤ wOf a b c d q ∧ wOf a b c d q ≤ 7) :
    Calls Tryd.prog 36 #[.pointer (some ⟨g, 0, none⟩)] w fun e w' =>
      ∃ n : Nat, e = .returned (.tuple #[.int .i64 (n : Int), .int .i64 0]) ∧ IsLeast (wOf a b c d) n ∧ Below n₀ w w' := by
  have hta := ta88
  have HT := Aside0.mk hT
  have HW := Aside0.mk hW
  have HN := Aside0.mk hn
  have H0 := Aside0.mk h0
  have HD := Aside0.mk h
  have HJ := Aside0.mk hJ
  clear hT hW hn h0 h hJ
  go_enter Tryd.func36, Tryd.ntmps36
  go_wp2_with fail
  go_loopw [2] (fun v2 wr => ∃ (v : Value) (L : List Wy) (ps : List (Int × Int)) (D : Int × Int → Nat), Aside0 (DS wr n₀ g m a b c d v L ps) ∧ Aside0 (DJ (wOf a b c d) L ps D) ∧ Aside0 (Below n₀ w wr)) (fun _ wr => dmsOf wr g m)
  case atStart => exact ⟨v, L, ps, D, HD, HJ, ⟨Below.refl _ _⟩⟩
  case round =>
    clear HD HJ
    obtain ⟨v, L, ps, D, HD, HJ, HB⟩ := hrel
    obtain ⟨A, cc, ev⟩ := HD.out.hs.slice
    have hlen := HJ.out.some HW.out
    have hcnt := HJ.out.cnt
    have HMS := Aside0.mk HD.out.dms
    obtain ⟨N, hN⟩ : ∃ N, N = L.length := ⟨_, rfl⟩
    have hc4 : wr.cell? ⟨g, 4, none⟩ = some (.slice A N cc) := by rw [hN, ← ev]; exact blk_cell HD.out.hs.blk 4
    have hlb : decide ((0 : Int) < (N : Int)) = true := decide_eq_true (by omega)
    have hNp : 0 < N := by omega
    have hpop := hpop_calls HD.out.hs HD.out.heap hlen (by omega)
    have HLEN := Aside0.mk (And.intro hlen hcnt)
    obtain ⟨x, hx⟩ : ∃ x, x = L.getD 0 (0, 0, 0) := ⟨_, rfl⟩
    have hxm : x ∈ L := by rw [hx, getD_at L 0 hlen]; exact List.getElem_mem hlen
    have hmin : ∀ y, y ∈ L → x.2.2 ≤ y.2.2 := by
      intro y hy
      obtain ⟨k, hk, rfl⟩ := List.getElem_of_mem hy
      have := root_le HD.out.heap k hk
      unfold farOf at this
      rw [← hx, getD_at L k hk] at this
      exact this
    rw [← hx] at hpop
    obtain ⟨s, t, n, hxe, hway⟩ := HJ.out.way x hxm
    subst hxe
    have HPOP := Aside0.mk hpop
    have HX := Aside0.mk (And.intro hxm (And.intro hmin hway))
    clear hlen hcnt hpop hx hxm hmin hway ev hN
    go_wp2_with (first
      | (go_at_call 45; refine Aside0.out ?_)
      | fail)
    refine Aside0.mk ?_
    refine HPOP.out.mono ?_
    rintro e w1 ⟨rfl, v1, L1, hH1, hF1, hN1, hP1, hh1⟩
    have hm1 := hF1.block m HD.out.mlt HD.out.mne.1 HD.out.mne.2
    have hD1 : DS w1 n₀ g m a b c d v1 L1 ps := ⟨hH1, HD.out.map.of_block hm1, HD.out.mlow, hh1⟩
    have hB1 := HB.out.trans (HD.out.fr hF1 (Nat.le_trans HN.out HB.out.size))
    have H1 := Aside0.mk (And.intro hD1 (And.intro hB1 hP1))
    clear hH1 hF1 hN1 hP1 hh1 hm1 hD1 hB1 HPOP hc4
    by_cases hs0 : s = 0
    · subst hs0
      go_wp2_with fail
      go_ret2
      have hb := below_alloc (Below.refl w1.heap.size w1) (.cells #[.int .i64 0, .int .i64 (t : Int), .int .i64 (n : Int)] 88)
      have hn1 : n₀ ≤ w1.heap.size := Nat.le_trans HN.out H1.out.2.1.size
      exact ⟨n, by simp, HJ.out.least HX.out.1 HX.out.2.1 rfl, H1.out.2.1.trans ⟨hb.os, hb.tape, hb.output, hb.size, fun k hk => hb.block k (Nat.lt_of_lt_of_le hk hn1)⟩⟩
    · have hsb : ((s : Int) == 0) = false := beq_eq_false_iff_ne.mpr (by omega)
      go_wp2_with fail
      have hba := below_alloc (Below.refl w1.heap.size w1) (.cells #[.int .i64 (s : Int), .int .i64 (t : Int), .int .i64 (n : Int)] 88)
      have hbb := blk_new w1 (.cells #[.int .i64 (s : Int), .int .i64 (t : Int), .int .i64 (n : Int)] 88)
      obtain ⟨w2, hw2⟩ : ∃ w2, w2 = w1.alloc (.cells #[.int .i64 (s : Int), .int .i64 (t : Int), .int .i64 (n : Int)] 88) := ⟨_, rfl⟩
      obtain ⟨Y, hY⟩ : ∃ Y, Y = w1.heap.size := ⟨_, rfl⟩
      have hYg : Y ≠ g ∧ some Y ≠ v1.ownBlock ∧ Y ≠ m := by
        refine ⟨?_, fun e => ?_, ?_⟩
        · have := H1.out.1.hs.lt; omega
        · have := (H1.out.1.hs.own Y e.symm).2; omega
        · have := H1.out.1.mlt; omega
      have hn1 : n₀ ≤ w1.heap.size := Nat.le_trans HN.out H1.out.2.1.size
      rw [← hw2] at hba hbb
      rw [← hY] at hbb
      rw [← hw2, ← hY]
      have HY := Aside0.mk hbb
      have HYG := Aside0.mk hYg
      have H2 := Aside0.mk (And.intro (H1.out.1.below hba) (H1.out.2.1.trans (show Below n₀ w1 w2 from ⟨hba.os, hba.tape, hba.output, hba.size, fun k hk => hba.block k (Nat.lt_of_lt_of_le hk hn1)⟩)))
      have HS := Aside0.mk (show w2.drew.cell? ⟨g, 5, none⟩ = some (.map (some m)) ∧ w2.drew.cell? ⟨Y, 0, none⟩ = some (.int .i64 (s : Int)) ∧ w2.drew.cell? ⟨Y, 1, none⟩ = some (.int .i64 (t : Int)) ∧ MapIs w2.drew m ps from
        ⟨blk_cell H2.out.1.hs.blk 5, blk_cell HY.out 0, blk_cell HY.out 1, (H2.out.1.below (below_drew1 (Below.refl _ _))).map⟩)
      clear hba hbb hw2 hY hYg hn1
      refine start_ (n := 7) (S := (fun w' => w'.cell? ⟨g, 5, none⟩ = some (.map (some m)) ∧ w'.cell? ⟨Y, 0, none⟩ = some (.int .i64 (s : Int)) ∧ w'.cell? ⟨Y, 1, none⟩ = some (.int .i64 (t : Int)) ∧ MapIs w' m ps)) (ds := []) #[false, false, false, false, false, false, false] (by kernel_rfl) rfl rfl HS.out (fun hHeld => ?_)
      refine with_tabW run7.tab run7.bits (fun HT_ HW_ => ?_)
      refine pure_ (i := 0) (N := some 33) (v := ?_) (a' := ?_) #[true, false, false, false, false, false, false] rfl rfl (any_of HT_.out (by kernel_rfl)) (fun _ _ _ h => h) (Or.inl ⟨by rfl, ?_⟩) ?_ ?_
      rotate_left
      · intro w'
        go_simp
        with_reducible rfl
      rotate_left
      · simp only [Act.put, List.setIfInBounds_toArray, List.set_cons_zero, List.set_cons_succ, i64_w, i32_w]
        rfl
      refine pure_ (i := 1) (N := some 34) (v := ?_) (a' := ?_) #[true, true, false, false, false, false, false] rfl rfl (any_of HT_.out (by kernel_rfl)) (fun _ _ _ h => h) (Or.inl ⟨by rfl, ?_⟩) ?_ ?_
      rotate_left
      · intro w'
        go_simp
        with_reducible rfl
      rotate_left
      · simp only [Act.put, List.setIfInBounds_toArray, List.set_cons_zero, List.set_cons_succ, i64_w, i32_w]
        rfl
      refine pure_ (i := 2) (N := some 35) (v := ?_) (a' := ?_) #[true, true, true, false, false, false, false] rfl rfl (any_of HT_.out (by kernel_rfl)) (fun _ _ _ h => h) (Or.inl ⟨by rfl, ?_⟩) ?_ ?_
      rotate_left
      · intro w'
        go_simp
        with_reducible rfl
      rotate_left
      · simp only [Act.put, List.setIfInBounds_toArray, List.set_cons_zero, List.set_cons_succ, i64_w, i32_w]
        rfl
      refine take_ (i := 3) (N := some 36) (v := ?_) (a' := ?_) #[true, true, true, true, false, false, false] rfl rfl (take_ofW HT_.out HW_.out (by kernel_rfl)) (fun _ _ _ h => h) (Or.inl ⟨by rfl, ?_⟩) hHeld ?_ ?_
      rotate_left
      · rintro w' ⟨s0, s1, s2, s3⟩
        go_simp
        with_reducible rfl
      rotate_left
      · simp only [Act.put, List.setIfInBounds_toArray, List.set_cons_zero, List.set_cons_succ, i64_w, i32_w]
        rfl
      refine pure_ (i := 4) (N := some 37) (v := ?_) (a' := ?_) #[true, true, true, true, true, false, false] rfl rfl (any_of HT_.out (by kernel_rfl)) (fun _ _ _ h => h) (Or.inl ⟨by rfl, ?_⟩) ?_ ?_
      rotate_left
      · intro w'
        go_simp
        with_reducible rfl
      rotate_left
      · simp only [Act.put, List.setIfInBounds_toArray, List.set_cons_zero, List.set_cons_succ, i64_w, i32_w]
        rfl
      refine take_ (i := 5) (N := some 38) (v := ?_) (a' := ?_) #[true, true, true, true, true, true, false] rfl rfl (take_ofW HT_.out HW_.out (by kernel_rfl)) (fun _ _ _ h => h) (Or.inl ⟨by rfl, ?_⟩) hHeld ?_ ?_
      rotate_left
      · rintro w' ⟨s0, s1, s2, s3⟩
        go_simp
        with_reducible rfl
      rotate_left
      · simp only [Act.put, List.setIfInBounds_toArray, List.set_cons_zero, List.set_cons_succ, i64_w, i32_w]
        rfl
      refine take_ (i := 6) (N := some 39) (v := ?_) (a' := ?_) #[true, true, true, true, true, true, true] rfl rfl (take_ofW HT_.out HW_.out (by kernel_rfl)) (fun _ _ _ h => h) (Or.inl ⟨by rfl, ?_⟩) hHeld ?_ ?_
      rotate_left
      · rintro w' ⟨s0, s1, s2, s3⟩
        have hl := look_run s3 (s : Int) (t : Int); unfold plK at hl; go_simp; with_reducible rfl
      rotate_left
      · simp only [Act.put, List.setIfInBounds_toArray, List.set_cons_zero, List.set_cons_succ, i64_w, i32_w]
        rfl
      refine done_ (done_of HT_.out (by kernel_rfl)) ?_
      clear hHeld
      by_cases hin : ((s : Int), (t : Int)) ∈ ps
      · rw [decide_eq_true hin]
        have hJ2 := HJ.out.again H1.out.2.2 hin
        have hl2 := H1.out.2.2.length_eq
        rw [List.length_cons] at hl2
        have hD2 := H2.out.1.below (below_drew1 (Below.refl _ _))
        have H3 := Aside0.mk (And.intro hJ2 (And.intro hl2 hD2))
        have HB3 := Aside0.mk (below_drew1 H2.out.2)
        clear hin hJ2 hl2 hD2
        obtain ⟨w3, hw3⟩ : ∃ w3, w3 = w2.drew := ⟨_, rfl⟩
        rw [← hw3] at H3 HB3 ⊢
        clear hw3 HS
        go_wp2_with fail
        go_roundw
        case rel => exact ⟨v1, L1, ps, D, ⟨H3.out.2.2⟩, ⟨H3.out.1⟩, HB3⟩
        case measure => rw [HMS.out, H3.out.2.2.dms]; have := H3.out.2.1; omega
      · rw [decide_eq_false hin]
        have HIN := Aside0.mk hin
        clear hin HS
        go_wp2_with fail
        have hD3 := H2.out.1.below (below_drew1 (below_drew1 (Below.refl w2.heap.size w2)))
        obtain ⟨o, hrun, hmap⟩ := put_run hD3.map (s : Int) (t : Int) HIN.out
        unfold plK at hrun
        have HRUN := Aside0.mk hrun
        have hput := hD3.put hmap
        have hY3 := (hput.2.2 Y HYG.out.2.2).trans (show w2.drew.drew.heap[Y]? = _ from HY.out)
        have hb3 := (below_drew1 (below_drew1 H2.out.2)).trans hput.2.1
        have H3 := Aside0.mk (And.intro hput.1 (And.intro hb3 hY3))
        have HS3 := Aside0.mk (show w2.drew.drew.cell? ⟨g, 5, none⟩ = some (.map (some m)) ∧ w2.drew.drew.cell? ⟨Y, 0, none⟩ = some (.int .i64 (s : Int)) ∧ w2.drew.drew.cell? ⟨Y, 1, none⟩ = some (.int .i64 (t : Int)) from
          ⟨blk_cell hD3.hs.blk 5, blk_cell HY.out 0, blk_cell HY.out 1⟩)
        clear hD3 hrun hmap hput hY3 hb3
        refine start_ (n := 7) (S := (fun w' => w'.cell? ⟨g, 5, none⟩ = some (.map (some m)) ∧ w'.cell? ⟨Y, 0, none⟩ = some (.int .i64 (s : Int)) ∧ w'.cell? ⟨Y, 1, none⟩ = some (.int .i64 (t : Int)))) (ds := [6]) #[false, false, false, false, false, false, false] (by kernel_rfl) rfl rfl HS3.out (fun hHeld => ?_)
        refine with_tabW run8.tab run8.bits (fun HT_ HW_ => ?_)
        refine pure_ (i := 0) (N := some 40) (v := ?_) (a' := ?_) #[true, false, false, false, false, false, false] rfl rfl (any_of HT_.out (by kernel_rfl)) (fun _ _ _ h => h) (Or.inl ⟨by rfl, ?_⟩) ?_ ?_
        rotate_left
        · intro w'
          go_simp
          with_reducible rfl
        rotate_left
        · simp only [Act.put, List.setIfInBounds_toArray, List.set_cons_zero, List.set_cons_succ, i64_w, i32_w]
          rfl
        refine pure_ (i := 1) (N := some 41) (v := ?_) (a' := ?_) #[true, true, false, false, false, false, false] rfl rfl (any_of HT_.out (by kernel_rfl)) (fun _ _ _ h => h) (Or.inl ⟨by rfl, ?_⟩) ?_ ?_
        rotate_left
        · intro w'
          go_simp
          with_reducible rfl
        rotate_left
        · simp only [Act.put, List.setIfInBounds_toArray, List.set_cons_zero, List.set_cons_succ, i64_w, i32_w]
          rfl
        refine pure_ (i := 2) (N := some 42) (v := ?_) (a' := ?_) #[true, true, true, false, false, false, false] rfl rfl (any_of HT_.out (by kernel_rfl)) (fun _ _ _ h => h) (Or.inl ⟨by rfl, ?_⟩) ?_ ?_
        rotate_left
        · intro w'
          go_simp
          with_reducible rfl
        rotate_left
        · simp only [Act.put, List.setIfInBounds_toArray, List.set_cons_zero, List.set_cons_succ, i64_w, i32_w]
          rfl
        refine take_ (i := 3) (N := some 43) (v := ?_) (a' := ?_) #[true, true, true, true, false, false, false] rfl rfl (take_ofW HT_.out HW_.out (by kernel_rfl)) (fun _ _ _ h => h) (Or.inl ⟨by rfl, ?_⟩) hHeld ?_ ?_
        rotate_left
        · rintro w' ⟨s0, s1, s2⟩
          go_simp
          with_reducible rfl
        rotate_left
        · simp only [Act.put, List.setIfInBounds_toArray, List.set_cons_zero, List.set_cons_succ, i64_w, i32_w]
          rfl
        refine pure_ (i := 4) (N := some 44) (v := ?_) (a' := ?_) #[true, true, true, true, true, false, false] rfl rfl (any_of HT_.out (by kernel_rfl)) (fun _ _ _ h => h) (Or.inl ⟨by rfl, ?_⟩) ?_ ?_
        rotate_left
        · intro w'
          go_simp
          with_reducible rfl
        rotate_left
        · simp only [Act.put, List.setIfInBounds_toArray, List.set_cons_zero, List.set_cons_succ, i64_w, i32_w]
          rfl
        refine take_ (i := 5) (N := some 45) (v := ?_) (a' := ?_) #[true, true, true, true, true, true, false] rfl rfl (take_ofW HT_.out HW_.out (by kernel_rfl)) (fun _ _ _ h => h) (Or.inl ⟨by rfl, ?_⟩) hHeld ?_ ?_
        rotate_left
        · rintro w' ⟨s0, s1, s2⟩
          go_simp
          with_reducible rfl
        rotate_left
        · simp only [Act.put, List.setIfInBounds_toArray, List.set_cons_zero, List.set_cons_succ, i64_w, i32_w]
          rfl
        refine last_ (i := 6) (N := none) #[true, true, true, true, true, true, true] rfl rfl (one_of HT_.out (by kernel_rfl)) (by decide) (fun K hK => ?_)
        have hrun := HRUN.out
        refine skip_ (w1 := ?_) (by rfl) rfl ?_ ?_
        rotate_left 1
        · go_simp
          rfl
        refine hK.out _ _ ?_
        clear hK K
        refine done_ (done_of HT_.out (by kernel_rfl)) ?_
        clear hrun
        have hway := HX.out.2.2
        have hst := hway.lt
        have hnle : (n : Int) ≤ 28 * 257 := by
          have h1 := HJ.out.far _ HX.out.1
          have h2 := HJ.out.le
          have h1 : (n : Int) ≤ 28 * ((ps.length : Int) + 1) := h1
          omega
        have HNL := Aside0.mk hnle
        have hl2 := H1.out.2.2.length_eq
        rw [List.length_cons] at hl2
        have HL2 := Aside0.mk hl2
        obtain ⟨w4, hw4⟩ : ∃ w4, w4 = ChangeMaps.setBlock w2.drew.drew m o := ⟨_, rfl⟩
        rw [← hw4] at H3 ⊢
        obtain ⟨ps2, hps2⟩ : ∃ ps2, ps2 = ps ++ [((s : Int), (t : Int))] := ⟨_, rfl⟩
        rw [← hps2] at H3
        have HPS := Aside0.mk hps2
        have hs64 : s < 64 := hst.1
        have ht4 : t < 4 := hst.2
        have hY0 : w4.cell? ⟨Y, 0, none⟩ = some (.int .i64 (s : Int)) := blk_cell H3.out.2.2 0
        have hfr := trellis_From.calls (s : Int) _ _ _ _ _ _ _ _ _ _ _ _ _ _ _ w4 (from_f s hs64) (HT.out.bel H0.out H3.out.2.1)
        obtain ⟨p0, hp0⟩ : ∃ p0, p0 = ob s 0 0 := ⟨_, rfl⟩
        obtain ⟨p1, hp1⟩ : ∃ p1, p1 = ob s 0 1 := ⟨_, rfl⟩
        obtain ⟨p2, hp2⟩ : ∃ p2, p2 = ob s 0 2 := ⟨_, rfl⟩
        obtain ⟨p3, hp3⟩ : ∃ p3, p3 = ob s 0 3 := ⟨_, rfl⟩
        obtain ⟨q0, hq0⟩ : ∃ q0, q0 = ob s 1 0 := ⟨_, rfl⟩
        obtain ⟨q1, hq1⟩ : ∃ q1, q1 = ob s 1 1 := ⟨_, rfl⟩
        obtain ⟨q2, hq2⟩ : ∃ q2, q2 = ob s 1 2 := ⟨_, rfl⟩
        obtain ⟨q3, hq3⟩ : ∃ q3, q3 = ob s 1 3 := ⟨_, rfl⟩
        obtain ⟨dI, hdI⟩ : ∃ dI : Nat, dI = s / 2 := ⟨_, rfl⟩
        obtain ⟨dJ, hdJ⟩ : ∃ dJ : Nat, dJ = 32 + s / 2 := ⟨_, rfl⟩
        rw [← hp0, ← hp1, ← hp2, ← hp3, ← hq0, ← hq1, ← hq2, ← hq3, ← hdJ, ← hdI] at hfr
        have HP := Aside0.mk (And.intro hp0 (And.intro hp1 (And.intro hp2 hp3)))
        have HQ := Aside0.mk (And.intro hq0 (And.intro hq1 (And.intro hq2 hq3)))
        have HDD := Aside0.mk (And.intro hdI hdJ)
        have HFR := Aside0.mk hfr
        have HST := Aside0.mk (And.intro hs64 ht4)
        clear hway hst hnle hl2 hw4 hps2 hp0 hp1 hp2 hp3 hq0 hq1 hq2 hq3 hdI hdJ hfr hs64 ht4 HS3 HRUN
        go_wp2_with (first
          | (go_at_call 39; refine Aside0.out ?_)
          | fail)
        refine Aside0.mk ?_
        refine HFR.out.mono ?_
        rintro e w5 ⟨rfl, hb5⟩
        have HB5 := Aside0.mk hb5
        clear hb5 HFR hY0
        go_wp2_with fail
        have hba := below_alloc (Below.refl w5.heap.size w5) (.cells #[.int .i64 (s : Int), .int .i64 (dI : Int), .int .u8 0, .int .u8 p0, .int .u8 p1, .int .u8 p2, .int .u8 p3, .int .i64 (s : Int), .int .i64 (dJ : Int), .int .u8 1, .int .u8 q0, .int .u8 q1, .int .u8 q2, .int .u8 q3] 78)
        obtain ⟨w6, hw6⟩ : ∃ w6, w6 = w5.alloc (.cells #[.int .i64 (s : Int), .int .i64 (dI : Int), .int .u8 0, .int .u8 p0, .int .u8 p1, .int .u8 p2, .int .u8 p3, .int .i64 (s : Int), .int .i64 (dJ : Int), .int .u8 1, .int .u8 q0, .int .u8 q1, .int .u8 q2, .int .u8 q3] 78) := ⟨_, rfl⟩
        rw [← hw6] at hba
        rw [← hw6]
        have hb46 := below_step HB5.out hba
        have hn4 : n₀ ≤ w4.heap.size := Nat.le_trans HN.out H3.out.2.1.size
        have H6 := Aside0.mk (H3.out.1.below hb46)
        have HB6 := Aside0.mk (H3.out.2.1.trans (show Below n₀ w4 w6 from ⟨hb46.os, hb46.tape, hb46.output, hb46.size, fun k hk => hb46.block k (Nat.lt_of_lt_of_le hk hn4)⟩))
        have HY6 := Aside0.mk ((hb46.block Y (blk_lt H3.out.2.2)).trans H3.out.2.2)
        have HG6 := Aside0.mk (show Y ≠ g ∧ some Y ≠ v1.ownBlock from ⟨HYG.out.1, HYG.out.2.1⟩)
        clear hba hw6 hb46 hn4 HB5
        go_loopw [57] (fun v57 wr => ∃ (j : Nat) (v : Value) (L : List Wy), v57 = .int .i64 (j : Int) ∧ j ≤ 2 ∧ Aside0 (DS wr n₀ g m a b c d v L ps2) ∧ Aside0 (Below n₀ w wr) ∧ Aside0 (wr.heap[Y]? = some (.cells #[.int .i64 (s : Int), .int .i64 (t : Int), .int .i64 (n : Int)] 88 (0, 0))) ∧ Aside0 (Y ≠ g ∧ some Y ≠ v.ownBlock) ∧ Aside0 (AJ L1 ps2 ((dst s 0 : Int), (nx t : Int), (n : Int) + en (wOf a b c d) s 0 t) ((dst s 1 : Int), (nx t : Int), (n : Int) + en (wOf a b c d) s 1 t) j L)) (fun v57 _ => 2 - (intOf v57).toNat)
        case atStart => exact ⟨0, v1, L1, by simp, by omega, H6, HB6, HY6, HG6, ⟨rfl⟩⟩
        case round =>
          clear H6 HB6 HY6 HG6
          obtain ⟨j, vv, LL, rfl, hj, HD6, HB6, HY6, HG6, HAJ⟩ := hrel
          have hjc : j = 0 ∨ j = 1 ∨ j = 2 := by omega
          rcases hjc with rfl | rfl | rfl
          · skip
            have hix := fun w' => idx78_0 (.int .i64 (s : Int)) (.int .i64 (dI : Int)) (.int .u8 0) (.int .u8 p0) (.int .u8 p1) (.int .u8 p2) (.int .u8 p3) (.int .i64 (s : Int)) (.int .i64 (dJ : Int)) (.int .u8 1) (.int .u8 q0) (.int .u8 q1) (.int .u8 q2) (.int .u8 q3) w'
            go_wp2_with (first
              | ((with_reducible refine gate_ (.load 77 (.tmp 9)) rfl ?_); refine Aside0.out ?_)
              | fail)
            refine Aside0.mk ?_
            have hba := below_alloc (Below.refl wr.heap.size wr) (.cells #[.int .i64 (s : Int), .int .i64 (dI : Int), .int .u8 0, .int .u8 p0, .int .u8 p1, .int .u8 p2, .int .u8 p3] 77)
            have hbb := blk_new wr (.cells #[.int .i64 (s : Int), .int .i64 (dI : Int), .int .u8 0, .int .u8 p0, .int .u8 p1, .int .u8 p2, .int .u8 p3] 77)
            obtain ⟨w7, hw7⟩ : ∃ w7, w7 = wr.alloc (.cells #[.int .i64 (s : Int), .int .i64 (dI : Int), .int .u8 0, .int .u8 p0, .int .u8 p1, .int .u8 p2, .int .u8 p3] 77) := ⟨_, rfl⟩
            obtain ⟨X, hX⟩ : ∃ X, X = wr.heap.size := ⟨_, rfl⟩
            rw [← hw7] at hba hbb
            rw [← hX] at hbb
            rw [← hw7, ← hX]
            have hY7 := (hba.block Y (blk_lt HY6.out)).trans HY6.out
            have hY1 : w7.cell? ⟨Y, 1, none⟩ = some (.int .i64 (t : Int)) := blk_cell hY7 1
            have hY2 : w7.cell? ⟨Y, 2, none⟩ = some (.int .i64 (n : Int)) := blk_cell hY7 2
            have hX0 : w7.cell? ⟨X, 0, none⟩ = _ := blk_cell hbb 0
            have hX1 : w7.cell? ⟨X, 1, none⟩ = _ := blk_cell hbb 1
            have hX2 : w7.cell? ⟨X, 2, none⟩ = _ := blk_cell hbb 2
            have hX3 : w7.cell? ⟨X, 3, none⟩ = _ := blk_cell hbb 3
            have hX4 : w7.cell? ⟨X, 4, none⟩ = _ := blk_cell hbb 4
            have hX5 : w7.cell? ⟨X, 5, none⟩ = _ := blk_cell hbb 5
            have hX6 : w7.cell? ⟨X, 6, none⟩ = _ := blk_cell hbb 6
            have HY7 := Aside0.mk hY7
            have HBA := Aside0.mk hba
            have hD7 := HD6.out.below hba
            have hn7 : n₀ ≤ w7.heap.size := Nat.le_trans HN.out (Nat.le_trans HB6.out.size hba.size)
            have hle := AJ.le HAJ.out
            have had := add_way (s := s) (i := 0) (t := t) hD7 hn7 HW.out (s : Int) (dI : Int) 0 HST.out.2 (n : Int) ⟨by omega, by have := HNL.out; omega⟩ (by have := HL2.out; have := HLEN.out; omega)
            rw [← HP.out.1, ← HP.out.2.1, ← HP.out.2.2.1, ← HP.out.2.2.2, ew_nat HW.out] at had
            have HAD := Aside0.mk had
            have HD7 := Aside0.mk (And.intro hD7 hn7)
            clear hba hbb hD7 hn7 hle had hw7 hX hY7
            go_wp2_with (first
              | (go_at_call 44; refine Aside0.out ?_)
              | fail)
            refine Aside0.mk ?_
            refine HAD.out.mono ?_
            rintro e w8 ⟨rfl, v8, L8, hD8, hF8, hN8, hA8⟩
            have hY8 := (hF8.block Y (blk_lt HY7.out) HG6.out.1 HG6.out.2).trans HY7.out
            have hb7 : Below n₀ wr w7 := ⟨HBA.out.os, HBA.out.tape, HBA.out.output, HBA.out.size, fun k hk => HBA.out.block k (Nat.lt_of_lt_of_le hk (Nat.le_trans HN.out HB6.out.size))⟩
            have hb8 := (HB6.out.trans hb7).trans (HD7.out.1.fr hF8 HD7.out.2)
            have hG8 := apart_newer hN8 (blk_lt HY7.out) HG6.out
            have hde : dst s 0 = dI := by unfold dst; have := HDD.out; omega
            have hJ8 : AJ L1 ps2 ((dst s 0 : Int), (nx t : Int), (n : Int) + en (wOf a b c d) s 0 t) ((dst s 1 : Int), (nx t : Int), (n : Int) + en (wOf a b c d) s 1 t) 1 L8 := by
              rw [← hde] at hA8
              have e0 : LL = L1 := HAJ.out
              rw [e0] at hA8
              exact hA8
            have H8 := Aside0.mk (And.intro hD8 (And.intro hb8 (And.intro hY8 (And.intro hG8 hJ8))))
            clear hD8 hF8 hN8 hA8 hY8 hb7 hb8 hG8 hde hJ8 HAD HD7 HBA HY7 hix hY1 hY2 hX0 hX1 hX2 hX3 hX4 hX5 hX6
            go_wp2_with fail
            go_roundw
            case rel => exact ⟨1, v8, L8, by simp, by omega, ⟨H8.out.1⟩, ⟨H8.out.2.1⟩, ⟨H8.out.2.2.1⟩, ⟨H8.out.2.2.2.1⟩, ⟨H8.out.2.2.2.2⟩⟩
            case measure => simp [intOf]
          · skip
            have hix := fun w' => idx78_1 (.int .i64 (s : Int)) (.int .i64 (dI : Int)) (.int .u8 0) (.int .u8 p0) (.int .u8 p1) (.int .u8 p2) (.int .u8 p3) (.int .i64 (s : Int)) (.int .i64 (dJ : Int)) (.int .u8 1) (.int .u8 q0) (.int .u8 q1) (.int .u8 q2) (.int .u8 q3) w'
            go_wp2_with (first
              | ((with_reducible refine gate_ (.load 77 (.tmp 9)) rfl ?_); refine Aside0.out ?_)
              | fail)
            refine Aside0.mk ?_
            have hba := below_alloc (Below.refl wr.heap.size wr) (.cells #[.int .i64 (s : Int), .int .i64 (dJ : Int), .int .u8 1, .int .u8 q0, .int .u8 q1, .int .u8 q2, .int .u8 q3] 77)
            have hbb := blk_new wr (.cells #[.int .i64 (s : Int), .int .i64 (dJ : Int), .int .u8 1, .int .u8 q0, .int .u8 q1, .int .u8 q2, .int .u8 q3] 77)
            obtain ⟨w7, hw7⟩ : ∃ w7, w7 = wr.alloc (.cells #[.int .i64 (s : Int), .int .i64 (dJ : Int), .int .u8 1, .int .u8 q0, .int .u8 q1, .int .u8 q2, .int .u8 q3] 77) := ⟨_, rfl⟩
            obtain ⟨X, hX⟩ : ∃ X, X = wr.heap.size := ⟨_, rfl⟩
            rw [← hw7] at hba hbb
            rw [← hX] at hbb
            rw [← hw7, ← hX]
            have hY7 := (hba.block Y (blk_lt HY6.out)).trans HY6.out
            have hY1 : w7.cell? ⟨Y, 1, none⟩ = some (.int .i64 (t : Int)) := blk_cell hY7 1
            have hY2 : w7.cell? ⟨Y, 2, none⟩ = some (.int .i64 (n : Int)) := blk_cell hY7 2
            have hX0 : w7.cell? ⟨X, 0, none⟩ = _ := blk_cell hbb 0
            have hX1 : w7.cell? ⟨X, 1, none⟩ = _ := blk_cell hbb 1
            have hX2 : w7.cell? ⟨X, 2, none⟩ = _ := blk_cell hbb 2
            have hX3 : w7.cell? ⟨X, 3, none⟩ = _ := blk_cell hbb 3
            have hX4 : w7.cell? ⟨X, 4, none⟩ = _ := blk_cell hbb 4
            have hX5 : w7.cell? ⟨X, 5, none⟩ = _ := blk_cell hbb 5
            have hX6 : w7.cell? ⟨X, 6, none⟩ = _ := blk_cell hbb 6
            have HY7 := Aside0.mk hY7
            have HBA := Aside0.mk hba
            have hD7 := HD6.out.below hba
            have hn7 : n₀ ≤ w7.heap.size := Nat.le_trans HN.out (Nat.le_trans HB6.out.size hba.size)
            have hle := AJ.le HAJ.out
            have had := add_way (s := s) (i := 1) (t := t) hD7 hn7 HW.out (s : Int) (dJ : Int) 1 HST.out.2 (n : Int) ⟨by omega, by have := HNL.out; omega⟩ (by have := HL2.out; have := HLEN.out; omega)
            rw [← HQ.out.1, ← HQ.out.2.1, ← HQ.out.2.2.1, ← HQ.out.2.2.2, ew_nat HW.out] at had
            have HAD := Aside0.mk had
            have HD7 := Aside0.mk (And.intro hD7 hn7)
            clear hba hbb hD7 hn7 hle had hw7 hX hY7
            go_wp2_with (first
              | (go_at_call 44; refine Aside0.out ?_)
              | fail)
            refine Aside0.mk ?_
            refine HAD.out.mono ?_
            rintro e w8 ⟨rfl, v8, L8, hD8, hF8, hN8, hA8⟩
            have hY8 := (hF8.block Y (blk_lt HY7.out) HG6.out.1 HG6.out.2).trans HY7.out
            have hb7 : Below n₀ wr w7 := ⟨HBA.out.os, HBA.out.tape, HBA.out.output, HBA.out.size, fun k hk => HBA.out.block k (Nat.lt_of_lt_of_le hk (Nat.le_trans HN.out HB6.out.size))⟩
            have hb8 := (HB6.out.trans hb7).trans (HD7.out.1.fr hF8 HD7.out.2)
            have hG8 := apart_newer hN8 (blk_lt HY7.out) HG6.out
            have hde : dst s 1 = dJ := by unfold dst; have := HDD.out; omega
            have hJ8 : AJ L1 ps2 ((dst s 0 : Int), (nx t : Int), (n : Int) + en (wOf a b c d) s 0 t) ((dst s 1 : Int), (nx t : Int), (n : Int) + en (wOf a b c d) s 1 t) 2 L8 := by
              rw [← hde] at hA8
              exact ⟨LL, HAJ.out, hA8⟩
            have H8 := Aside0.mk (And.intro hD8 (And.intro hb8 (And.intro hY8 (And.intro hG8 hJ8))))
            clear hD8 hF8 hN8 hA8 hY8 hb7 hb8 hG8 hde hJ8 HAD HD7 HBA HY7 hix hY1 hY2 hX0 hX1 hX2 hX3 hX4 hX5 hX6
            go_wp2_with fail
            go_roundw
            case rel => exact ⟨2, v8, L8, by simp, by omega, ⟨H8.out.1⟩, ⟨H8.out.2.1⟩, ⟨H8.out.2.2.1⟩, ⟨H8.out.2.2.2.1⟩, ⟨H8.out.2.2.2.2⟩⟩
            case measure => simp [intOf]
          · have hJ3 := HAJ.out
            obtain ⟨L2, hA1, hA2⟩ := hJ3
            rw [HPS.out] at hA1 hA2
            have hJn := HJ.out.next HW.out H1.out.2.2 HX.out.2.1 hs0 HIN.out hA1 hA2
            rw [← HPS.out] at hJn
            have hle := AJ.le HAJ.out
            have hpl : ps2.length = ps.length + 1 := by rw [HPS.out]; simp
            have hp256 := hJn.le
            have HJN := Aside0.mk (And.intro hJn (And.intro hle (And.intro hpl hp256)))
            clear hA1 hA2 hJn hle hpl hp256
            go_wp2_with fail
            go_roundw
            case rel => exact ⟨vv, LL, ps2, _, HD6, ⟨HJN.out.1⟩, HB6⟩
            case measure =>
              rw [HMS.out, HD6.out.dms]
              have h1 := HJN.out.2.1
              have h2 := HJN.out.2.2.1
              have h3 := HJN.out.2.2.2
              have h4 := HL2.out
              omega
end Go.Proofs.YtijpnlmejphfhaaDoor.P

-- YtijpnlmejphfhaaDoorPDLeast
namespace Go.Proofs.YtijpnlmejphfhaaDoor.P
open Go Go.Proofs Go.RowKit Go.Proofs.YtijpnlmejphfhaaDoorW.PrintWords Go.Proofs.YtijpnlmejphfhaaDoorW.PrintLast Go.Proofs.YtijpnlmejphfhaaDoorW.PrintMore
set_option linter.unusedVariables false
set_option linter.unusedSimpArgs false
attribute [local go_sem] run_index_arr

theorem blk_new' (w : World) : (w.alloc (.map #[] 0)).heap[w.heap.size]? = some (.map #[] 0) := by
  show (w.heap.push (.map #[] 0))[w.heap.size]? = _
  exact Array.getElem?_push_size
theorem arr22 : Tryd.prog.underlying 22 = some (.array (Tryd.prog.arrayLen 22) (Tryd.prog.elem 22)) := by kernel_rfl
theorem len22 : Tryd.prog.arrayLen 22 = 4 := by kernel_rfl
theorem el22 : Tryd.prog.elem 22 = 3 := by kernel_rfl
theorem idx22 (x0 x1 x2 x3 : Int) (i : Nat) (hi : i < 4) (w : World) : (Instr.index 22 (.agg #[.int .i64 x0, .int .i64 x1, .int .i64 x2, .int .i64 x3]) (.int .i64 (i : Int))).run Tryd.prog w = .ok (.int .i64 (wOf x0 x1 x2 x3 i)) w := by
  rw [run_index_arr w 22 _ .i64 (i : Int) arr22, len22, el22, if_pos (by omega)]
  obtain rfl | rfl | rfl | rfl : i = 0 ∨ i = 1 ∨ i = 2 ∨ i = 3 := by omega
  all_goals kernel_rfl
set_option maxRecDepth 100000 in
set_option maxHeartbeats 8000000 in
theorem dleast_calls (a b c d : Int) {w : World} (hT : TP w) (hw : wok a b c d = true) :
    Calls Tryd.prog 18 #[.agg #[.int .i64 a, .int .i64 b, .int .i64 c, .int .i64 d]] w fun e w' =>
      ∃ n : Nat, e = .returned (.tuple #[.int .i64 (n : Int), .int .i64 0]) ∧ IsLeast (wOf a b c d) n ∧ Below w.heap.size w w' := by
  have HT := Aside0.mk hT
  have HW := Aside0.mk (wok_in hw)
  have hmm := @run_makeMap Tryd.prog
  clear hT hw
  go_enter Tryd.func18, Tryd.ntmps18
  go_wp2_with fail
  have hba := below_alloc (Below.refl w.heap.size w) (.cells #[.int .i64 a, .int .i64 b, .int .i64 c, .int .i64 d] 22)
  have hbb := blk_new w (.cells #[.int .i64 a, .int .i64 b, .int .i64 c, .int .i64 d] 22)
  obtain ⟨w1, hw1⟩ : ∃ w1, w1 = w.alloc (.cells #[.int .i64 a, .int .i64 b, .int .i64 c, .int .i64 d] 22) := ⟨_, rfl⟩
  obtain ⟨x0, hx0⟩ : ∃ x0, x0 = w.heap.size := ⟨_, rfl⟩
  rw [← hw1] at hba hbb
  rw [← hx0] at hbb
  rw [← hw1, ← hx0]
  have H1 := Aside0.mk (And.intro hba hbb)
  clear hba hbb hw1 hx0
  go_loopw [9] (fun v9 wr => ∃ i : Nat, v9 = .int .i64 (i : Int) ∧ i ≤ 4 ∧ wr = w1) (fun v9 _ => 4 - (intOf v9).toNat)
  case atStart => exact ⟨0, by simp, by omega, rfl⟩
  case round =>
    obtain ⟨i, rfl, hi, rfl⟩ := hrel
    by_cases hlt : i < 4
    · have hlb : decide ((i : Int) < 4) = true := decide_eq_true (by omega)
      have hi4 : (i : Int) < 4 := by omega
      have hix := idx22 a b c d i hlt
      have hv := HW.out i hlt
      obtain ⟨y, hy⟩ : ∃ y, y = wOf a b c d i := ⟨_, rfl⟩
      rw [← hy] at hix hv
      have hd1 : decide (y < 0) = false := decide_eq_false (by omega)
      have hd2 : decide (7 < y) = false := decide_eq_false (by omega)
      clear hy
      go_wp2_with fail
      go_roundw
      case rel => exact ⟨i + 1, by simp, by omega, by first | trivial | rfl⟩
      case measure => simp [intOf]; omega
    · obtain rfl : i = 4 := by omega
      have hlb : decide (((4 : Nat) : Int) < 4) = false := by decide
      have hc0 := blk_cell H1.out.2 0
      have hc1 := blk_cell H1.out.2 1
      have hc2 := blk_cell H1.out.2 2
      have hc3 := blk_cell H1.out.2 3
      go_wp2_with (first
        | (go_at_call 35; refine Aside0.out ?_)
        | fail)
      refine Aside0.mk ?_
      have hba := below_alloc (Below.refl wr.heap.size wr) (.map #[] 0)
      have hbb := blk_new' wr
      obtain ⟨w2, hw2⟩ : ∃ w2, w2 = wr.alloc (.map #[] 0) := ⟨_, rfl⟩
      have hz2 : w2.heap.size = wr.heap.size + 1 := by rw [hw2, World.size_alloc]
      obtain ⟨m, hm⟩ : ∃ m, m = wr.heap.size := ⟨_, rfl⟩
      rw [← hw2] at hba hbb
      rw [← hm] at hbb
      rw [← hw2, ← hz2, ← hm]
      have hba2 := below_alloc (Below.refl w2.heap.size w2) (.cells #[.int .i64 a, .int .i64 b, .int .i64 c, .int .i64 d, .slice none 0 0, .map (some m)] 72)
      have hbb2 := blk_new w2 (.cells #[.int .i64 a, .int .i64 b, .int .i64 c, .int .i64 d, .slice none 0 0, .map (some m)] 72)
      obtain ⟨w3, hw3⟩ : ∃ w3, w3 = w2.alloc (.cells #[.int .i64 a, .int .i64 b, .int .i64 c, .int .i64 d, .slice none 0 0, .map (some m)] 72) := ⟨_, rfl⟩
      obtain ⟨g, hg⟩ : ∃ g, g = w2.heap.size := ⟨_, rfl⟩
      rw [← hw3] at hba2 hbb2
      rw [← hg] at hbb2
      rw [← hw3, ← hg]
      have hwr : w.heap.size ≤ wr.heap.size := H1.out.1.size
      have hB3 := below_step (below_step H1.out.1 hba) hba2
      have hDS : DS w3 w.heap.size g m a b c d (.slice none 0 0) [] [] := by
        refine ⟨⟨hbb2, Kd.R_nil _ _ _ _ _, by omega⟩, ⟨#[], 0, (hba2.block m (by omega)).trans hbb, rfl⟩, by omega, fun k h0 hk => absurd hk (Nat.not_lt_zero _)⟩
      have HDS := Aside0.mk hDS
      have HB3 := Aside0.mk hB3
      clear hba hbb hw2 hz2 hm hba2 hbb2 hw3 hg hwr hB3 hDS hc0 hc1 hc2 hc3 hmm
      refine (dbegin_calls (TP_of HT.out HB3.out) HDS.out HB3.out.size HW.out).mono ?_
      rintro e w4 ⟨rfl, v4, L4, hD4, hb4, hJ4⟩
      have HR := Aside0.mk (drun_calls (TP_of HT.out (HB3.out.trans hb4)) HT.out.lt (Nat.le_trans HB3.out.size hb4.size) hD4 hJ4 HW.out)
      have HB4 := Aside0.mk (HB3.out.trans hb4)
      clear hD4 hb4 hJ4 HDS
      go_wp2_with (first
        | (go_at_call 36; refine Aside0.out ?_)
        | fail)
      refine Aside0.mk ?_
      refine HR.out.mono ?_
      rintro e w5 ⟨n, rfl, hl, hb5⟩
      have H5 := Aside0.mk (And.intro hl (HB4.out.trans hb5))
      clear hl hb5 HR
      go_wp2_with fail
      go_ret2
      exact ⟨n, by simp, H5.out.1, H5.out.2⟩
set_option maxRecDepth 100000 in
set_option maxHeartbeats 8000000 in
theorem dleast_bad (a b c d : Int) (w : World) (hw : wok a b c d = false) :
    Calls Tryd.prog 18 #[.agg #[.int .i64 a, .int .i64 b, .int .i64 c, .int .i64 d]] w fun e w' => e = .returned (.tuple #[.int .i64 0, .int .i64 1]) ∧ Below w.heap.size w w' := by
  have HW := Aside0.mk hw
  clear hw
  go_enter Tryd.func18, Tryd.ntmps18
  go_wp2_with fail
  have hba := below_alloc (Below.refl w.heap.size w) (.cells #[.int .i64 a, .int .i64 b, .int .i64 c, .int .i64 d] 22)
  obtain ⟨w1, hw1⟩ : ∃ w1, w1 = w.alloc (.cells #[.int .i64 a, .int .i64 b, .int .i64 c, .int .i64 d] 22) := ⟨_, rfl⟩
  obtain ⟨x0, hx0⟩ : ∃ x0, x0 = w.heap.size := ⟨_, rfl⟩
  rw [← hw1] at hba
  rw [← hw1, ← hx0]
  have H1 := Aside0.mk hba
  clear hba hw1 hx0
  go_loopw [9] (fun v9 wr => ∃ i : Nat, v9 = .int .i64 (i : Int) ∧ i ≤ 4 ∧ wr = w1 ∧ Aside0 (∀ q, q < i → inW (wOf a b c d q) 7 = true)) (fun v9 _ => 4 - (intOf v9).toNat)
  case atStart => exact ⟨0, by simp, by omega, rfl, ⟨fun q hq => absurd hq (Nat.not_lt_zero _)⟩⟩
  case round =>
    obtain ⟨i, rfl, hi, rfl, HQ⟩ := hrel
    by_cases hlt : i < 4
    · have hlb : decide ((i : Int) < 4) = true := decide_eq_true (by omega)
      have hi4 : (i : Int) < 4 := by omega
      have hix := idx22 a b c d i hlt
      by_cases hv : inW (wOf a b c d i) 7 = true
      · have HQ2 := Aside0.mk (show ∀ q, q < i + 1 → inW (wOf a b c d q) 7 = true from fun q hq => by
          by_cases e : q = i
          · rw [e]; exact hv
          · exact HQ.out q (by omega))
        have hv2 := (inW_iff _ _).1 hv
        obtain ⟨y, hy⟩ : ∃ y, y = wOf a b c d i := ⟨_, rfl⟩
        rw [← hy] at hix hv2
        have hd1 : decide (y < 0) = false := decide_eq_false (by omega)
        have hd2 : decide (7 < y) = false := decide_eq_false (by omega)
        clear hy hv
        go_wp2_with fail
        go_roundw
        case rel => exact ⟨i + 1, by simp, by omega, by first | trivial | rfl, HQ2⟩
        case measure => simp [intOf]; omega
      · have hv2 : ¬ (0 ≤ wOf a b c d i ∧ wOf a b c d i ≤ 7) := fun h => hv ((inW_iff _ _).2 h)
        obtain ⟨y, hy⟩ : ∃ y, y = wOf a b c d i := ⟨_, rfl⟩
        rw [← hy] at hix hv2
        clear hy hv
        by_cases hy0 : y < 0
        · have hd1 : decide (y < 0) = true := decide_eq_true hy0
          clear hv2
          go_wp2_with fail
          go_ret2
          exact ⟨by simp, H1.out⟩
        · have hd1 : decide (y < 0) = false := decide_eq_false hy0
          have hd2 : decide (7 < y) = true := decide_eq_true (by omega)
          clear hv2
          go_wp2_with fail
          go_ret2
          exact ⟨by simp, H1.out⟩
    · obtain rfl : i = 4 := by omega
      have h0 := HQ.out 0 (by decide)
      have h1 := HQ.out 1 (by decide)
      have h2 := HQ.out 2 (by decide)
      have h3 := HQ.out 3 (by decide)
      have hw := HW.out
      unfold wok at hw
      rw [show inW a 7 = true from h0, show inW b 7 = true from h1, show inW c 7 = true from h2, show inW d 7 = true from h3] at hw
      cases hw
end Go.Proofs.YtijpnlmejphfhaaDoor.P

-- YtijpnlmejphfhaaDoorPDLaw0
namespace Go.Proofs.YtijpnlmejphfhaaDoor.P
open Go Go.Proofs Go.RowKit Go.Proofs.YtijpnlmejphfhaaDoorW.PrintWords Go.Proofs.YtijpnlmejphfhaaDoorW.PrintLast Go.Proofs.YtijpnlmejphfhaaDoorW.PrintMore
set_option linter.unusedVariables false
set_option linter.unusedSimpArgs false
attribute [local go_sem] max2_int min2_int max_two min_two max_three min_three max_four min_four

/-- How far states are at least, where each bit weighs one. -/
def potL : List Nat := [20, 16, 14, 14, 11, 15, 13, 13, 8, 14, 12, 14, 11, 13, 11, 13, 6, 14, 12, 14, 9, 11, 11, 15, 8, 12, 12, 12, 11, 15, 11, 11, 4, 16, 12, 14, 9, 13, 13, 13, 8, 14, 10, 12, 9, 13, 15, 13, 6, 12, 10, 14, 11, 13, 11, 15, 8, 12, 14, 14, 9, 15, 11, 11]
def bitsN (s i : Nat) : Nat := (ob s i 0 + ob s i 1 + ob s i 2 + ob s i 3).toNat
theorem pot_all : (List.range 64).all (fun s => s == 0 || (List.range 2).all fun i => decide (potL.getD (dst s i) 0 ≤ potL.getD s 0 + bitsN s i)) = true := by decide +kernel
theorem wOfz (v : Nat) : wOf 0 0 0 0 v = 0 := by unfold wOf; split <;> rfl
theorem enz (s i t : Nat) : en (wOf 0 0 0 0) s i t = 0 := by
  unfold en ew wsum wsum wsum wsum wsum
  simp only [wOfz, Int.mul_zero, Int.add_zero]
  rfl
theorem wOf1 (v : Nat) : wOf 1 1 1 1 v = 1 := by unfold wOf; split <;> rfl
theorem en1 (s i t : Nat) : en (wOf 1 1 1 1) s i t = bitsN s i := by
  unfold en ew bitsN wsum wsum wsum wsum wsum o4
  simp only [wOf1]
  congr 1
  omega
theorem pot_way {s t x : Nat} (h : Way (wOf 1 1 1 1) s t x) : potL.getD s 0 ≤ x := by
  induction h with
  | first t ht => rw [en1]; decide +kernel
  | next s t x i hw hs hi ih =>
    have h1 := List.all_eq_true.1 pot_all s (List.mem_range.2 hw.lt.1)
    simp only [Bool.or_eq_true, beq_iff_eq] at h1
    rcases h1 with h1 | h1
    · exact absurd h1 hs
    · have h2 := of_decide_eq_true (List.all_eq_true.1 h1 i (List.mem_range.2 hi))
      rw [en1]; omega
theorem least1 {n : Nat} (h : IsLeast (wOf 1 1 1 1) n) : 12 ≤ n := by
  obtain ⟨t, hw⟩ := h.1
  have := pot_way hw
  have e : potL.getD 0 0 = 20 := rfl
  omega
theorem way0 {s t x : Nat} (h : Way (wOf 0 0 0 0) s t x) : x = 0 := by
  induction h with
  | first t ht => exact enz 0 1 t
  | next s t x i hw hs hi ih => rw [ih, enz]
theorem least0 {n : Nat} (h : IsLeast (wOf 0 0 0 0) n) : n = 0 := by
  obtain ⟨t, hw⟩ := h.1
  exact way0 hw
set_option maxRecDepth 100000 in
set_option maxHeartbeats 8000000 in
theorem apart_calls {w : World} (hT : TP w) : Calls Tryd.prog 19 #[] w fun e w' => e = .returned (.bool true) ∧ Below w.heap.size w w' := by
  have HT := Aside0.mk hT
  have HA := Aside0.mk (dleast_calls 1 1 1 1 hT (by decide))
  clear hT
  go_enter Tryd.func19, Tryd.ntmps19
  go_wp2_with (first
    | (go_at_call 18; refine Aside0.out ?_)
    | fail)
  refine Aside0.mk ?_
  refine HA.out.mono ?_
  rintro e w1 ⟨n, rfl, hl, hb⟩
  have hn := least1 hl
  have hd : decide ((12 : Int) ≤ (n : Int)) = true := decide_eq_true (by omega)
  have HB := Aside0.mk hb
  have HZ := Aside0.mk (dleast_calls 0 0 0 0 (TP_of HT.out hb) (by decide))
  clear hl hb HA
  go_wp2_with (first
    | (go_at_call 18; refine Aside0.out ?_)
    | fail)
  refine Aside0.mk ?_
  refine HZ.out.mono ?_
  rintro e w2 ⟨k, rfl, hl, hb⟩
  have hk := least0 hl
  subst hk
  have HB2 := Aside0.mk (below_step HB.out hb)
  clear hl hb HZ
  go_wp2_with fail
  go_ret
  exact ⟨by simp, HB2.out⟩
/-- How many turned bits are mended, of a least distance. -/
def mendN (n : Nat) : Nat := (n - 1) / 2
set_option maxRecDepth 100000 in
set_option maxHeartbeats 8000000 in
theorem mends_calls (a b c d : Int) {w : World} (hT : TP w) (hw : wok a b c d = true) :
    Calls Tryd.prog 22 #[.agg #[.int .i64 a, .int .i64 b, .int .i64 c, .int .i64 d]] w fun e w' =>
      ∃ n : Nat, e = .returned (.tuple #[.int .i64 (mendN n : Int), .int .i64 0]) ∧ IsLeast (wOf a b c d) n ∧ n ≤ 1000 ∧ Below w.heap.size w w' := by
  have HT := Aside0.mk hT
  have HK := Aside0.mk hw
  clear hT hw
  go_enter Tryd.func22, Tryd.ntmps22
  go_wp2_with (first
    | ((with_reducible refine gate_ (.load 22 (.tmp 1)) rfl ?_); refine Aside0.out ?_)
    | fail)
  refine Aside0.mk ?_
  have hba := below_alloc (Below.refl w.heap.size w) (.cells #[.int .i64 a, .int .i64 b, .int .i64 c, .int .i64 d] 22)
  have hbb := blk_new w (.cells #[.int .i64 a, .int .i64 b, .int .i64 c, .int .i64 d] 22)
  obtain ⟨w1, hw1⟩ : ∃ w1, w1 = w.alloc (.cells #[.int .i64 a, .int .i64 b, .int .i64 c, .int .i64 d] 22) := ⟨_, rfl⟩
  obtain ⟨x0, hx0⟩ : ∃ x0, x0 = w.heap.size := ⟨_, rfl⟩
  rw [← hw1] at hba hbb
  rw [← hx0] at hbb
  rw [← hw1, ← hx0]
  have HB1 := Aside0.mk hba
  have HX1 := Aside0.mk hbb
  have HX0 := Aside0.mk (show w.heap.size ≤ x0 by rw [hx0]; exact Nat.le_refl _)
  clear hba hbb hw1 hx0
  have hc0 := blk_cell HX1.out 0
  have hc1 := blk_cell HX1.out 1
  have hc2 := blk_cell HX1.out 2
  have hc3 := blk_cell HX1.out 3
  have HA := Aside0.mk (dleast_calls a b c d (TP_of HT.out HB1.out) HK.out)
  go_wp2_with (first
    | (go_at_call 18; refine Aside0.out ?_)
    | fail)
  refine Aside0.mk ?_
  refine HA.out.mono ?_
  rintro e w2 ⟨n, rfl, hl, hb⟩
  have hn : n ≤ 196 := by
    obtain ⟨t, x, hw, hx⟩ := some_way (wOf a b c d) (wok_in HK.out)
    have := hl.2 t x hw
    omega
  have HL := Aside0.mk (And.intro hl (below_step HB1.out hb))
  clear hl hb HA HK HB1 hc0 hc1 hc2 hc3
  by_cases h0 : n = 0
  · subst h0
    go_wp2_with fail
    have hrs : (Tryd.f22).results = #[.tmp 2, .tmp 3] := by kernel_rfl
    refine bodyPost_ret (results_tmp2 hrs _ _ _) rfl ?_
    exact ⟨0, by simp [mendN], HL.out.1, by omega, HL.out.2⟩
  · obtain ⟨k, rfl⟩ : ∃ k, n = k + 1 := ⟨n - 1, by omega⟩
    have hk1 : ((k + 1 : Nat) : Int) - 1 = (k : Int) := by omega
    have hk2 : Int.tdiv (k : Int) 2 = ((k / 2 : Nat) : Int) := by rw [Int.tdiv_eq_ediv_of_nonneg (by omega)]; omega
    have hk3 : (k : Int) / 2 = ((k / 2 : Nat) : Int) := by omega
    have HN := Aside0.mk hn
    obtain ⟨z, hz⟩ : ∃ z : Int, z = ((k + 1 : Nat) : Int) := ⟨_, rfl⟩
    rw [← hz] at hk1 ⊢
    have hzb : 0 ≤ z ∧ z ≤ 1000 := by omega
    have hkb : (k : Int) ≤ 1000 := by omega
    have hd0 : decide ((k : Int) < 0) = false := decide_eq_false (by omega)
    have hd1 : ¬ (k : Int) < 0 := by omega
    obtain ⟨p, hp⟩ : ∃ p, p = k / 2 := ⟨_, rfl⟩
    rw [← hp] at hk2 hk3
    have hpj : p ≤ k := by omega
    have HP := Aside0.mk hp
    obtain ⟨y, hy⟩ : ∃ y : Int, y = (k : Int) := ⟨_, rfl⟩
    rw [← hy] at hk1 hk2 hk3 hkb hd0 hd1
    have hpb : (p : Int) ≤ 1000 := by omega
    have hy0 : 0 ≤ y := by omega
    clear hz hp hy
    go_wp2_with fail
    have hrs : (Tryd.f22).results = #[.tmp 2, .tmp 3] := by kernel_rfl
    refine bodyPost_ret (results_tmp2 hrs _ _ _) rfl ?_
    exact ⟨k + 1, by rw [HP.out]; simp [mendN], HL.out.1, by have := HN.out; omega, HL.out.2⟩
set_option maxRecDepth 100000 in
set_option maxHeartbeats 8000000 in
theorem mends_bad (a b c d : Int) (w : World) (hw : wok a b c d = false) :
    Calls Tryd.prog 22 #[.agg #[.int .i64 a, .int .i64 b, .int .i64 c, .int .i64 d]] w fun e w' => e = .returned (.tuple #[.int .i64 0, .int .i64 1]) ∧ Below w.heap.size w w' := by
  have HK := Aside0.mk hw
  clear hw
  go_enter Tryd.func22, Tryd.ntmps22
  go_wp2_with (first
    | ((with_reducible refine gate_ (.load 22 (.tmp 1)) rfl ?_); refine Aside0.out ?_)
    | fail)
  refine Aside0.mk ?_
  have hba := below_alloc (Below.refl w.heap.size w) (.cells #[.int .i64 a, .int .i64 b, .int .i64 c, .int .i64 d] 22)
  have hbb := blk_new w (.cells #[.int .i64 a, .int .i64 b, .int .i64 c, .int .i64 d] 22)
  obtain ⟨w1, hw1⟩ : ∃ w1, w1 = w.alloc (.cells #[.int .i64 a, .int .i64 b, .int .i64 c, .int .i64 d] 22) := ⟨_, rfl⟩
  obtain ⟨x0, hx0⟩ : ∃ x0, x0 = w.heap.size := ⟨_, rfl⟩
  rw [← hw1] at hba hbb
  rw [← hx0] at hbb
  rw [← hw1, ← hx0]
  have HB1 := Aside0.mk hba
  have HX1 := Aside0.mk hbb
  have HX0 := Aside0.mk (show w.heap.size ≤ x0 by rw [hx0]; exact Nat.le_refl _)
  clear hba hbb hw1 hx0
  have hc0 := blk_cell HX1.out 0
  have hc1 := blk_cell HX1.out 1
  have hc2 := blk_cell HX1.out 2
  have hc3 := blk_cell HX1.out 3
  have HA := Aside0.mk (dleast_bad a b c d w1 HK.out)
  go_wp2_with (first
    | (go_at_call 18; refine Aside0.out ?_)
    | fail)
  refine Aside0.mk ?_
  refine HA.out.mono ?_
  rintro e w2 ⟨rfl, hb⟩
  have HB := Aside0.mk (below_step HB1.out hb)
  clear hb HA HB1 hc0 hc1 hc2 hc3
  go_wp2_with fail
  go_ret2
  exact ⟨by simp, HB.out⟩
end Go.Proofs.YtijpnlmejphfhaaDoor.P

-- YtijpnlmejphfhaaDoorPDRight
namespace Go.Proofs.YtijpnlmejphfhaaDoor.P
open Go Go.Proofs Go.RowKit Go.Proofs.YtijpnlmejphfhaaDoorW.PrintWords Go.Proofs.YtijpnlmejphfhaaDoorW.PrintLast Go.Proofs.YtijpnlmejphfhaaDoorW.PrintMore
set_option linter.unusedVariables false
set_option linter.unusedSimpArgs false

set_option maxRecDepth 100000 in
set_option maxHeartbeats 8000000 in
theorem right_calls (a b c d : Int) (w : World) :
    Calls Tryd.prog 23 #[.agg #[.int .i64 a, .int .i64 b, .int .i64 c, .int .i64 d]] w fun e w' => e = .returned (.bool (wok a b c d)) ∧ Below w.heap.size w w' := by
  go_enter Tryd.func23, Tryd.ntmps23
  go_wp2_with fail
  have hba := below_alloc (Below.refl w.heap.size w) (.cells #[.int .i64 a, .int .i64 b, .int .i64 c, .int .i64 d] 22)
  have hbb := blk_new w (.cells #[.int .i64 a, .int .i64 b, .int .i64 c, .int .i64 d] 22)
  obtain ⟨w1, hw1⟩ : ∃ w1, w1 = w.alloc (.cells #[.int .i64 a, .int .i64 b, .int .i64 c, .int .i64 d] 22) := ⟨_, rfl⟩
  obtain ⟨x0, hx0⟩ : ∃ x0, x0 = w.heap.size := ⟨_, rfl⟩
  rw [← hw1] at hba hbb
  rw [← hx0] at hbb
  rw [← hw1, ← hx0]
  have HB1 := Aside0.mk hba
  have HX1 := Aside0.mk hbb
  clear hba hbb hw1 hx0
  go_loopw [3] (fun v3 wr => ∃ i : Nat, v3 = .int .i64 (i : Int) ∧ i ≤ 4 ∧ wr = w1 ∧ Aside0 (∀ q, q < i → inW (wOf a b c d q) 7 = true)) (fun v3 _ => 4 - (intOf v3).toNat)
  case atStart => exact ⟨0, by simp, by omega, rfl, ⟨fun q hq => absurd hq (Nat.not_lt_zero _)⟩⟩
  case round =>
    obtain ⟨i, rfl, hi, rfl, HQ⟩ := hrel
    obtain ⟨w1, hwe⟩ : ∃ w1, w1 = wr := ⟨_, rfl⟩
    subst hwe
    have hcase : i = 0 ∨ i = 1 ∨ i = 2 ∨ i = 3 ∨ i = 4 := by omega
    rcases hcase with rfl | rfl | rfl | rfl | rfl
    · skip
      have hc : w1.cell? ⟨x0, 0, none⟩ = some (.int .i64 a) := blk_cell HX1.out 0
      by_cases hy0 : a < 0
      · have hd1 : decide (a < 0) = true := decide_eq_true hy0
        go_wp2_with fail
        go_ret
        refine ⟨?_, HB1.out⟩
        have : wok a b c d = false := by
          cases hk : wok a b c d
          · rfl
          · have := wok_in hk 0 (by decide)
            simp only [wOf] at this
            omega
        rw [this]; simp
      · have hd1 : decide (a < 0) = false := decide_eq_false hy0
        by_cases hy7 : 7 < a
        · have hd2 : decide (7 < a) = true := decide_eq_true hy7
          go_wp2_with fail
          go_ret
          refine ⟨?_, HB1.out⟩
          have : wok a b c d = false := by
            cases hk : wok a b c d
            · rfl
            · have := wok_in hk 0 (by decide)
              simp only [wOf] at this
              omega
          rw [this]; simp
        · have hd2 : decide (7 < a) = false := decide_eq_false hy7
          have HQ2 := Aside0.mk (show ∀ q, q < 0 + 1 → inW (wOf a b c d q) 7 = true from fun q hq => by
            by_cases e : q = 0
            · rw [e]; exact (inW_iff _ _).2 (by show 0 ≤ a ∧ a ≤ 7; omega)
            · exact HQ.out q (by omega))
          go_wp2_with fail
          go_roundw
          case rel => exact ⟨0 + 1, by simp, by omega, by first | trivial | rfl, HQ2⟩
          case measure => simp [intOf]
    · skip
      have hc : w1.cell? ⟨x0, 1, none⟩ = some (.int .i64 b) := blk_cell HX1.out 1
      by_cases hy0 : b < 0
      · have hd1 : decide (b < 0) = true := decide_eq_true hy0
        go_wp2_with fail
        go_ret
        refine ⟨?_, HB1.out⟩
        have : wok a b c d = false := by
          cases hk : wok a b c d
          · rfl
          · have := wok_in hk 1 (by decide)
            simp only [wOf] at this
            omega
        rw [this]; simp
      · have hd1 : decide (b < 0) = false := decide_eq_false hy0
        by_cases hy7 : 7 < b
        · have hd2 : decide (7 < b) = true := decide_eq_true hy7
          go_wp2_with fail
          go_ret
          refine ⟨?_, HB1.out⟩
          have : wok a b c d = false := by
            cases hk : wok a b c d
            · rfl
            · have := wok_in hk 1 (by decide)
              simp only [wOf] at this
              omega
          rw [this]; simp
        · have hd2 : decide (7 < b) = false := decide_eq_false hy7
          have HQ2 := Aside0.mk (show ∀ q, q < 1 + 1 → inW (wOf a b c d q) 7 = true from fun q hq => by
            by_cases e : q = 1
            · rw [e]; exact (inW_iff _ _).2 (by show 0 ≤ b ∧ b ≤ 7; omega)
            · exact HQ.out q (by omega))
          go_wp2_with fail
          go_roundw
          case rel => exact ⟨1 + 1, by simp, by omega, by first | trivial | rfl, HQ2⟩
          case measure => simp [intOf]
    · skip
      have hc : w1.cell? ⟨x0, 2, none⟩ = some (.int .i64 c) := blk_cell HX1.out 2
      by_cases hy0 : c < 0
      · have hd1 : decide (c < 0) = true := decide_eq_true hy0
        go_wp2_with fail
        go_ret
        refine ⟨?_, HB1.out⟩
        have : wok a b c d = false := by
          cases hk : wok a b c d
          · rfl
          · have := wok_in hk 2 (by decide)
            simp only [wOf] at this
            omega
        rw [this]; simp
      · have hd1 : decide (c < 0) = false := decide_eq_false hy0
        by_cases hy7 : 7 < c
        · have hd2 : decide (7 < c) = true := decide_eq_true hy7
          go_wp2_with fail
          go_ret
          refine ⟨?_, HB1.out⟩
          have : wok a b c d = false := by
            cases hk : wok a b c d
            · rfl
            · have := wok_in hk 2 (by decide)
              simp only [wOf] at this
              omega
          rw [this]; simp
        · have hd2 : decide (7 < c) = false := decide_eq_false hy7
          have HQ2 := Aside0.mk (show ∀ q, q < 2 + 1 → inW (wOf a b c d q) 7 = true from fun q hq => by
            by_cases e : q = 2
            · rw [e]; exact (inW_iff _ _).2 (by show 0 ≤ c ∧ c ≤ 7; omega)
            · exact HQ.out q (by omega))
          go_wp2_with fail
          go_roundw
          case rel => exact ⟨2 + 1, by simp, by omega, by first | trivial | rfl, HQ2⟩
          case measure => simp [intOf]
    · skip
      have hc : w1.cell? ⟨x0, 3, none⟩ = some (.int .i64 d) := blk_cell HX1.out 3
      by_cases hy0 : d < 0
      · have hd1 : decide (d < 0) = true := decide_eq_true hy0
        go_wp2_with fail
        go_ret
        refine ⟨?_, HB1.out⟩
        have : wok a b c d = false := by
          cases hk : wok a b c d
          · rfl
          · have := wok_in hk 3 (by decide)
            simp only [wOf] at this
            omega
        rw [this]; simp
      · have hd1 : decide (d < 0) = false := decide_eq_false hy0
        by_cases hy7 : 7 < d
        · have hd2 : decide (7 < d) = true := decide_eq_true hy7
          go_wp2_with fail
          go_ret
          refine ⟨?_, HB1.out⟩
          have : wok a b c d = false := by
            cases hk : wok a b c d
            · rfl
            · have := wok_in hk 3 (by decide)
              simp only [wOf] at this
              omega
          rw [this]; simp
        · have hd2 : decide (7 < d) = false := decide_eq_false hy7
          have HQ2 := Aside0.mk (show ∀ q, q < 3 + 1 → inW (wOf a b c d q) 7 = true from fun q hq => by
            by_cases e : q = 3
            · rw [e]; exact (inW_iff _ _).2 (by show 0 ≤ d ∧ d ≤ 7; omega)
            · exact HQ.out q (by omega))
          go_wp2_with fail
          go_roundw
          case rel => exact ⟨3 + 1, by simp, by omega, by first | trivial | rfl, HQ2⟩
          case measure => simp [intOf]
    · go_wp2_with fail
      go_ret
      refine ⟨?_, HB1.out⟩
      have h0 := HQ.out 0 (by decide)
      have h1 := HQ.out 1 (by decide)
      have h2 := HQ.out 2 (by decide)
      have h3 := HQ.out 3 (by decide)
      have hw : wok a b c d = true := by
        unfold wok
        rw [show inW a 7 = true from h0, show inW b 7 = true from h1, show inW c 7 = true from h2, show inW d 7 = true from h3]
        rfl
      rw [hw]; simp
end Go.Proofs.YtijpnlmejphfhaaDoor.P

-- YtijpnlmejphfhaaDoorPStr
namespace Go.Proofs.YtijpnlmejphfhaaDoor.P
open Go.RowKit Go.Proofs.YtijpnlmejphfhaaDoorW.PrintWords Go.Proofs.YtijpnlmejphfhaaDoorW.PrintLast Go.Proofs.YtijpnlmejphfhaaDoorW.PrintMore

theorem toList_loop (b : ByteArray) (d : Nat) : ∀ (i : Nat) (r : List UInt8), i + d = b.size → ByteArray.toList.loop b i r = r.reverse ++ b.data.toList.drop i := by
  induction d with
  | zero =>
    intro i r hi
    unfold ByteArray.toList.loop
    have hs : b.data.toList.length = b.size := by rw [Array.length_toList]; rfl
    rw [if_neg (by omega), List.drop_eq_nil_of_le (by omega), List.append_nil]
  | succ d ih =>
    intro i r hi
    unfold ByteArray.toList.loop
    have hs : b.data.toList.length = b.size := by rw [Array.length_toList]; rfl
    rw [if_pos (by omega), ih (i + 1) _ (by omega), List.reverse_cons, List.append_assoc, drop_cons b.data.toList i (by omega)]
    congr 1
    show [b.get! i] ++ _ = _
    rw [show b.get! i = b.data.toList[i]'(by omega) from by
      show b.data[i]! = _
      have h : i < b.data.size := by rw [← Array.length_toList]; omega
      rw [getElem!_pos b.data i h]; simp]
    rfl
theorem toList_data (b : ByteArray) : b.toList = b.data.toList := by
  unfold ByteArray.toList
  rw [toList_loop b b.size 0 [] (by omega)]; simp
theorem str_list (l : List Int) : (strOfNums l).toList = l.map fun n => UInt8.ofNat n.toNat := by
  rw [toList_data, strOfNums_data]
theorem str_inj : ∀ {a b : List Int}, (∀ x ∈ a, 0 ≤ x ∧ x ≤ 255) → (∀ x ∈ b, 0 ≤ x ∧ x ≤ 255) → (strOfNums a).toList = (strOfNums b).toList → a = b
  | [], [], _, _, _ => rfl
  | [], _ :: _, _, _, h => by rw [str_list, str_list] at h; cases h
  | _ :: _, [], _, _, h => by rw [str_list, str_list] at h; cases h
  | x :: a, y :: b, ha, hb, h => by
    rw [str_list, str_list] at h
    simp only [List.map_cons, List.cons.injEq] at h
    have h1 := ha x List.mem_cons_self
    have h2 := hb y List.mem_cons_self
    have e : x = y := by
      have := congrArg UInt8.toNat h.1
      rw [UInt8.toNat_ofNat', UInt8.toNat_ofNat'] at this
      omega
    rw [e, str_inj (fun z hz => ha z (List.mem_cons_of_mem _ hz)) (fun z hz => hb z (List.mem_cons_of_mem _ hz)) (by rw [str_list, str_list]; exact h.2)]
theorem str_beq {a b : List Int} (ha : ∀ x ∈ a, 0 ≤ x ∧ x ≤ 255) (hb : ∀ x ∈ b, 0 ≤ x ∧ x ≤ 255) : ((strOfNums a).toList == (strOfNums b).toList) = decide (a = b) := by
  by_cases h : a = b
  · subst h; simp
  · rw [decide_eq_false h]
    exact beq_eq_false_iff_ne.2 fun e => h (str_inj ha hb e)

end Go.Proofs.YtijpnlmejphfhaaDoor.P

-- YtijpnlmejphfhaaDoorPDHolds
namespace Go.Proofs.YtijpnlmejphfhaaDoor.P
open Go Go.Proofs Go.RowKit Go.Proofs.YtijpnlmejphfhaaDoorW.PrintWords Go.Proofs.YtijpnlmejphfhaaDoorW.PrintLast Go.Proofs.YtijpnlmejphfhaaDoorW.PrintMore
set_option linter.unusedVariables false
set_option linter.unusedSimpArgs false

theorem modH (m : Int) (hm : 0 < m) (a : Int) (hm2 : m ≤ 100000) : ∃ N : Nat, IntKind.i64.wrap (Int.tmod (IntKind.u64.wrap a) m) = (N : Int) ∧ (N : Int) < m := by
  have h1 : 0 ≤ IntKind.u64.wrap a := by rw [IntKind.wrap_u64]; omega
  have h2 : 0 ≤ (IntKind.u64.wrap a).tmod m := Int.tmod_nonneg _ h1
  have h3 : (IntKind.u64.wrap a).tmod m < m := Int.tmod_lt_of_pos _ hm
  refine ⟨((IntKind.u64.wrap a).tmod m).toNat, ?_, by omega⟩
  rw [IntKind.wrap_i64]; omega
def hAt (a b c d n0 n1 n2 n3 : Int) : Nat → Array Value
  | 0 => #[.int .i64 a, .int .i64 b, .int .i64 c, .int .i64 d]
  | 1 => #[.int .i64 n0, .int .i64 b, .int .i64 c, .int .i64 d]
  | 2 => #[.int .i64 n0, .int .i64 n1, .int .i64 c, .int .i64 d]
  | 3 => #[.int .i64 n0, .int .i64 n1, .int .i64 n2, .int .i64 d]
  | _ => #[.int .i64 n0, .int .i64 n1, .int .i64 n2, .int .i64 n3]
theorem hmeas {i M : Nat} (h : i < M) (e : wrap64 ((i : Int) + 1) = ((i + 1 : Nat) : Int)) : M - (intOf (Value.int IntKind.i64 (wrap64 ((i : Int) + 1)))).toNat < M - (intOf (Value.int IntKind.i64 (i : Int))).toNat := by
  rw [e]
  have q : ∀ z : Int, intOf (Value.int IntKind.i64 z) = z := fun z => rfl
  rw [q, q, Int.toNat_natCast, Int.toNat_natCast]; omega
theorem drew_set (w : World) (p : Addr) (v : Value) : (w.setCell p v).drew = w.drew.setCell p v := rfl
/-- The first i places by exclusive or. -/
def xorTo (x y : List Int) (i : Nat) (X : List Int) : Prop := X.length = x.length ∧ ∀ j, j < x.length → X.getD j 0 = if j < i then Go.bits .xor .u8 (x.getD j 0) (y.getD j 0) else x.getD j 0
theorem xorTo.next {x y X : List Int} {i : Nat} (h : xorTo x y i X) (hi : i < x.length) : xorTo x y (i + 1) (X.set i (Go.bits .xor .u8 (X.getD i 0) (y.getD i 0))) := by
  refine ⟨by rw [List.length_set]; exact h.1, fun j hj => ?_⟩
  rw [set_getD _ _ _ _ (by rw [h.1]; exact hi)]
  by_cases e : j = i
  · subst e
    rw [if_pos rfl, if_pos (by omega), h.2 j hj, if_neg (by omega)]
  · rw [if_neg e, h.2 j hj]
    by_cases e2 : j < i
    · rw [if_pos e2, if_pos (by omega)]
    · rw [if_neg e2, if_neg (by omega)]
def holds8.T : Bool × List (List Nat × List Nat) := (true, [([], []), ([0], [0]), ([1, 0], [1]), ([2], [2]), ([3, 2], [2, 3]), ([2, 4], [2, 4]), ([5, 2], [5]), ([6], [6]), ([6], [6]), ([7, 8, 6], [6, 7, 8]), ([9, 6], [6, 9]), ([6], [6]), ([6], [6]), ([11, 12, 6], [6, 11, 12]), ([13, 6], [6, 13]), ([10, 14, 6], [6, 10, 14]), ([6, 15], [6, 15])])
def holds8.B : List Nat := [0, 1, 3, 7, 15, 31, 63, 127, 127, 511, 1023, 127, 127, 6271, 14463, 32767, 65535]
theorem holds8.tab : rtab .any (opsOf Tryd.f7 8) = holds8.T := by kernel_rfl
theorem holds8.bits : waitsOk holds8.T.2 holds8.B = true := by kernel_rfl
def holds10.T : Bool × List (List Nat × List Nat) := (true, [([], []), ([], []), ([0, 1], [0, 1]), ([2], [2]), ([], []), ([], []), ([4, 5], [4, 5]), ([6, 3], [6]), ([3, 7, 0, 1, 2, 3], [3]), ([7, 8, 0, 1, 2, 3, 4, 5, 6, 7, 8], [7])])
def holds10.B : List Nat := [0, 0, 3, 7, 0, 0, 48, 127, 255, 511]
theorem holds10.tab : rtab .any (opsOf Tryd.f7 10) = holds10.T := by kernel_rfl
theorem holds10.bits : waitsOk holds10.T.2 holds10.B = true := by kernel_rfl
def holds14.T : Bool × List (List Nat × List Nat) := (true, [([], []), ([], []), ([], []), ([], []), ([2, 3], [2, 3]), ([4], [4]), ([], []), ([], []), ([6, 7], [6, 7]), ([8], [8]), ([5, 9], [5, 9]), ([0, 1, 0, 1, 2, 3, 4, 5, 6, 7, 8, 9, 10], [0, 1]), ([11, 10, 0, 1, 2, 3, 4, 5, 6, 7, 8, 9, 10], [10, 11])])
def holds14.B : List Nat := [0, 0, 0, 0, 12, 28, 0, 0, 192, 448, 1020, 2047, 4095]
theorem holds14.tab : rtab .any (opsOf Tryd.f7 14) = holds14.T := by kernel_rfl
theorem holds14.bits : waitsOk holds14.T.2 holds14.B = true := by kernel_rfl
set_option maxRecDepth 100000 in
set_option maxHeartbeats 8000000 in
theorem lawDHolds.walk {w : World} (a b c d : Int) (A0 : Option Addr) (c0 : Nat) (l0 : List Int) (hr0 : Kd.C (Kd.int .u8) w A0 l0.length l0) (hc0 : l0.length ≤ c0) (hw0 : ∀ x ∈ l0, (Lit.int .u8 x).wf = true)
    (A1 : Option Addr) (c1 : Nat) (l1 : List Int) (hr1 : Kd.C (Kd.int .u8) w A1 l1.length l1) (hc1 : l1.length ≤ c1) (hw1 : ∀ x ∈ l1, (Lit.int .u8 x).wf = true) (_w : World) (hT : TP w := by assumption) :
    Calls Tryd.prog 7 #[.agg #[.int .i64 a, .int .i64 b, .int .i64 c, .int .i64 d], .slice A0 l0.length c0, .slice A1 l1.length c1] w fun e w' => e = .returned (.bool true) ∧ Below w.heap.size w w' := by
  have HT := Aside0.mk hT
  have HR0 := Aside0.mk hr0
  have HR1 := Aside0.mk hr1
  have HC0 := Aside0.mk hc0
  have HC1 := Aside0.mk hc1
  have HF0 := Aside0.mk (show shuttleref01_Few.f 100 l0 80 = some (few l0 80) from few_f l0 (u8_of_wf hw0) 80 (by omega) 100 (by omega))
  have HF1 := Aside0.mk (show shuttleref01_Few.f 100 l1 80 = some (few l1 80) from few_f l1 (u8_of_wf hw1) 80 (by omega) 100 (by omega))
  clear hT hr0 hr1 hc0 hc1 hw0 hw1
  obtain ⟨n0, hn0, hl0⟩ := modH 8 (by decide) a (by decide)
  obtain ⟨n1, hn1, hl1⟩ := modH 8 (by decide) b (by decide)
  obtain ⟨n2, hn2, hl2⟩ := modH 8 (by decide) c (by decide)
  obtain ⟨n3, hn3, hl3⟩ := modH 8 (by decide) d (by decide)
  have HWK := Aside0.mk (show wok (n0 : Int) (n1 : Int) (n2 : Int) (n3 : Int) = true by
    unfold wok
    simp only [Bool.and_eq_true, inW_iff]
    omega)
  have HWB := Aside0.mk (show ∀ v, v < 4 → 0 ≤ wOf n0 n1 n2 n3 v ∧ wOf n0 n1 n2 n3 v ≤ 7 from fun v hv => by
    rcases (show v = 0 ∨ v = 1 ∨ v = 2 ∨ v = 3 by omega) with rfl | rfl | rfl | rfl
    all_goals (simp only [wOf]; omega))
  obtain ⟨fa, hfa⟩ : ∃ fa, fa = few l0 80 := ⟨_, rfl⟩
  obtain ⟨fb, hfb⟩ : ∃ fb, fb = few l1 80 := ⟨_, rfl⟩
  rw [← hfa] at HF0
  rw [← hfb] at HF1
  have HFA := Aside0.mk (show ∀ x ∈ fa, isb x from fun x hx => by rw [hfa] at hx; exact few_bit x hx)
  have HFB := Aside0.mk (show ∀ x ∈ fb, isb x from fun x hx => by rw [hfb] at hx; exact few_bit x hx)
  have HLA := Aside0.mk (show fa.length ≤ 80 by rw [hfa]; exact few_length l0 80)
  have HLB := Aside0.mk (show fb.length ≤ 80 by rw [hfb]; exact few_length l1 80)
  clear hfa hfb
  go_enter Tryd.func7, Tryd.ntmps7
  go_wp2_with fail
  have hba := below_alloc (Below.refl w.heap.size w) (.cells #[.int .i64 a, .int .i64 b, .int .i64 c, .int .i64 d] 22)
  have hbb := blk_new w (.cells #[.int .i64 a, .int .i64 b, .int .i64 c, .int .i64 d] 22)
  obtain ⟨w1, hw1⟩ : ∃ w1, w1 = w.alloc (.cells #[.int .i64 a, .int .i64 b, .int .i64 c, .int .i64 d] 22) := ⟨_, rfl⟩
  obtain ⟨x0, hx0⟩ : ∃ x0, x0 = w.heap.size := ⟨_, rfl⟩
  have HX0 := Aside0.mk (show w.heap.size ≤ x0 by rw [hx0]; exact Nat.le_refl _)
  rw [← hw1] at hba hbb
  rw [← hx0] at hbb
  rw [← hw1, ← hx0]
  have HB1 := Aside0.mk hba
  have HX1 := Aside0.mk (show w1.heap[x0]? = some (.cells (hAt a b c d n0 n1 n2 n3 0) 22 (0, 0)) from hbb)
  clear hba hbb hw1 hx0
  go_loopw [7] (fun v7 wr => ∃ v : Nat, v7 = .int .i64 (v : Int) ∧ v ≤ 4 ∧ Aside0 (wr.heap[x0]? = some (.cells (hAt a b c d n0 n1 n2 n3 v) 22 (0, 0))) ∧ Aside0 (Below w.heap.size w wr)) (fun v7 _ => 4 - (intOf v7).toNat)
  case atStart => exact ⟨0, by simp, by omega, HX1, HB1⟩
  case round =>
    clear HX1 HB1
    obtain ⟨v, rfl, hv, HX, HB⟩ := hrel
    have hc : v = 0 ∨ v = 1 ∨ v = 2 ∨ v = 3 ∨ v = 4 := by omega
    rcases hc with rfl | rfl | rfl | rfl | rfl
    · skip
      have hfz := blk_frozen HX.out 0
      have hc : wr.cell? ⟨x0, 0, none⟩ = some (.int .i64 a) := blk_cell HX.out 0
      go_wp2_with fail
      have HX2 := Aside0.mk (show (wr.setCell ⟨x0, 0, none⟩ (.int .i64 n0)).heap[x0]? = some (.cells (hAt a b c d n0 n1 n2 n3 (0 + 1)) 22 (0, 0)) from blk_put HX.out 0 _ rfl)
      have HB2 := Aside0.mk (show Below w.heap.size w (wr.setCell ⟨x0, 0, none⟩ (.int .i64 n0)) from HB.out.trans ((Put1.set x0 0 wr _).below HX0.out))
      clear hc hfz HX HB
      go_roundw
      case rel => exact ⟨0 + 1, by simp, by omega, HX2, HB2⟩
      case measure => simp [intOf]
    · skip
      have hfz := blk_frozen HX.out 1
      have hc : wr.cell? ⟨x0, 1, none⟩ = some (.int .i64 b) := blk_cell HX.out 1
      go_wp2_with fail
      have HX2 := Aside0.mk (show (wr.setCell ⟨x0, 1, none⟩ (.int .i64 n1)).heap[x0]? = some (.cells (hAt a b c d n0 n1 n2 n3 (1 + 1)) 22 (0, 0)) from blk_put HX.out 1 _ rfl)
      have HB2 := Aside0.mk (show Below w.heap.size w (wr.setCell ⟨x0, 1, none⟩ (.int .i64 n1)) from HB.out.trans ((Put1.set x0 1 wr _).below HX0.out))
      clear hc hfz HX HB
      go_roundw
      case rel => exact ⟨1 + 1, by simp, by omega, HX2, HB2⟩
      case measure => simp [intOf]
    · skip
      have hfz := blk_frozen HX.out 2
      have hc : wr.cell? ⟨x0, 2, none⟩ = some (.int .i64 c) := blk_cell HX.out 2
      go_wp2_with fail
      have HX2 := Aside0.mk (show (wr.setCell ⟨x0, 2, none⟩ (.int .i64 n2)).heap[x0]? = some (.cells (hAt a b c d n0 n1 n2 n3 (2 + 1)) 22 (0, 0)) from blk_put HX.out 2 _ rfl)
      have HB2 := Aside0.mk (show Below w.heap.size w (wr.setCell ⟨x0, 2, none⟩ (.int .i64 n2)) from HB.out.trans ((Put1.set x0 2 wr _).below HX0.out))
      clear hc hfz HX HB
      go_roundw
      case rel => exact ⟨2 + 1, by simp, by omega, HX2, HB2⟩
      case measure => simp [intOf]
    · skip
      have hfz := blk_frozen HX.out 3
      have hc : wr.cell? ⟨x0, 3, none⟩ = some (.int .i64 d) := blk_cell HX.out 3
      go_wp2_with fail
      have HX2 := Aside0.mk (show (wr.setCell ⟨x0, 3, none⟩ (.int .i64 n3)).heap[x0]? = some (.cells (hAt a b c d n0 n1 n2 n3 (3 + 1)) 22 (0, 0)) from blk_put HX.out 3 _ rfl)
      have HB2 := Aside0.mk (show Below w.heap.size w (wr.setCell ⟨x0, 3, none⟩ (.int .i64 n3)) from HB.out.trans ((Put1.set x0 3 wr _).below HX0.out))
      clear hc hfz HX HB
      go_roundw
      case rel => exact ⟨3 + 1, by simp, by omega, HX2, HB2⟩
      case measure => simp [intOf]
    · skip
      clear hn0 hn1 hn2 hn3 hl0 hl1 hl2 hl3 hv
      obtain ⟨N0, hN0⟩ : ∃ N0 : Int, N0 = (n0 : Int) := ⟨_, rfl⟩
      obtain ⟨N1, hN1⟩ : ∃ N1 : Int, N1 = (n1 : Int) := ⟨_, rfl⟩
      obtain ⟨N2, hN2⟩ : ∃ N2 : Int, N2 = (n2 : Int) := ⟨_, rfl⟩
      obtain ⟨N3, hN3⟩ : ∃ N3 : Int, N3 = (n3 : Int) := ⟨_, rfl⟩
      rw [← hN0, ← hN1, ← hN2, ← hN3] at HX HWK HWB
      clear hN0 hN1 hN2 hN3
      have HX : Aside0 (wr.heap[x0]? = some (.cells #[.int .i64 N0, .int .i64 N1, .int .i64 N2, .int .i64 N3] 22 (0, 0))) := HX
      have hlb : decide (((4 : Nat) : Int) < 4) = false := by decide
      have HCA := Aside0.mk (shuttleref01_Few.calls 100 A0 c0 l0 80 fa wr (Kd.C_below HR0.out HB.out) HC0.out HF0.out)
      go_wp2_with (first
        | (go_at_call 17; refine Aside0.out ?_)
        | fail)
      refine Aside0.mk ?_
      refine HCA.out.mono ?_
      rintro e w2 ⟨va, rfl, hra, hb⟩
      obtain ⟨Aa, ca, rfl⟩ := Kd.R_slice hra
      have HRA := Aside0.mk (Kd.R_reads' hra).2.2
      have HCP := Aside0.mk (Kd.R_reads' hra).2.1
      have HX2 := Aside0.mk ((hb.block x0 (blk_lt HX.out)).trans HX.out)
      have HB2 := Aside0.mk (below_step HB.out hb)
      have HCB := Aside0.mk (shuttleref01_Few.calls 100 A1 c1 l1 80 fb w2 (Kd.C_below HR1.out HB2.out) HC1.out HF1.out)
      clear hra hb HX HB HCA HR0 HC0 HF0
      go_wp2_with (first
        | (go_at_call 17; refine Aside0.out ?_)
        | fail)
      refine Aside0.mk ?_
      refine HCB.out.mono ?_
      rintro e w3 ⟨vb, rfl, hrb, hb⟩
      obtain ⟨Ab, cb, rfl⟩ := Kd.R_slice hrb
      have HRA3 := Aside0.mk (Kd.C_below HRA.out hb)
      have HRB := Aside0.mk (Kd.R_reads' hrb).2.2
      have HCQ := Aside0.mk (Kd.R_reads' hrb).2.1
      have HX3 := Aside0.mk ((hb.block x0 (blk_lt HX2.out)).trans HX2.out)
      have HB3 := Aside0.mk (below_step HB2.out hb)
      clear hrb hb HX2 HB2 HCB HR1 HC1 HF1 HRA
      have hc0 := blk_cell HX3.out 0
      have hc1 := blk_cell HX3.out 1
      have hc2 := blk_cell HX3.out 2
      have hc3 := blk_cell HX3.out 3
      obtain ⟨n, hn⟩ : ∃ n, n = min fa.length fb.length := ⟨_, rfl⟩
      have hnn : (if (fb.length : Int) < (fa.length : Int) then (fb.length : Int) else (fa.length : Int)) = (n : Int) := by
        split <;> omega
      have hnn2 : (if fb.length < fa.length then (fb.length : Int) else (fa.length : Int)) = (n : Int) := by
        split <;> omega
      have HNA := Aside0.mk (show n ≤ fa.length by omega)
      have HNB := Aside0.mk (show n ≤ fb.length by omega)
      clear hn
      have HLE := Aside0.mk (dleast_calls N0 N1 N2 N3 (TP_of HT.out HB3.out) HWK.out)
      go_wp2_with (first
        | (go_at_call 18; refine Aside0.out ?_)
        | fail)
      refine Aside0.mk ?_
      refine HLE.out.mono ?_
      rintro e w4 ⟨m, rfl, hm, hb⟩
      have HM := Aside0.mk hm
      have HRA4 := Aside0.mk (Kd.C_below HRA3.out hb)
      have HRB4 := Aside0.mk (Kd.C_below HRB.out hb)
      have HX4 := Aside0.mk ((hb.block x0 (blk_lt HX3.out)).trans HX3.out)
      have HB4 := Aside0.mk (below_step HB3.out hb)
      clear hb hm HLE HX3 HB3 HRA3 HRB hc0 hc1 hc2 hc3 hnn hnn2 HX HWK hlb
      have hd4 : Below w4.heap.size w4 w4.drew := below_drew1 (Below.refl _ _)
      have HRA5 := Aside0.mk (Kd.C_below HRA4.out hd4)
      have HRB5 := Aside0.mk (Kd.C_below HRB4.out hd4)
      have HX5 := Aside0.mk ((hd4.block x0 (blk_lt HX4.out)).trans HX4.out)
      have HB5 := Aside0.mk (below_step HB4.out hd4)
      clear hd4 HRA4 HRB4 HX4 HB4
      have HAP := Aside0.mk (apart_calls (TP_of HT.out HB5.out))
      go_wp2_with fail
      obtain ⟨i0, hi0, _, hsz, _⟩ := info_parts info5
      have hcuta := cut_to (P := Tryd.prog) 39 5 .i64 Tryd.underlying39 hi0 Aa fa.length ca (n : Int) (by omega) (by have := HNA.out; omega) HCP.out
      have hcutb := cut_to (P := Tryd.prog) 39 5 .i64 Tryd.underlying39 hi0 Ab fb.length cb (n : Int) (by omega) (by have := HNB.out; omega) HCQ.out
      simp only [Int.toNat_natCast] at hcuta hcutb
      obtain ⟨ya, hya⟩ : ∃ ya, ya = fa.take n := ⟨_, rfl⟩
      obtain ⟨yb, hyb⟩ : ∃ yb, yb = fb.take n := ⟨_, rfl⟩
      have HYL := Aside0.mk (show ya.length = n by rw [hya, List.length_take]; have := HNA.out; omega)
      have HYM := Aside0.mk (show yb.length = n by rw [hyb, List.length_take]; have := HNB.out; omega)
      have HYA := Aside0.mk (show Kd.C (Kd.int .u8) w4.drew Aa n ya by
        have h := Kd.C_take (m := n) HRA5.out HNA.out
        rw [← hya, HYL.out] at h; exact h)
      have HYB := Aside0.mk (show Kd.C (Kd.int .u8) w4.drew Ab n yb by
        have h := Kd.C_take (m := n) HRB5.out HNB.out
        rw [← hyb, HYM.out] at h; exact h)
      have HE := Aside0.mk (show ya = fa.take n ∧ yb = fb.take n from ⟨hya, hyb⟩)
      clear hya hyb HRA5 HRB5 hi0 hsz
      have HST := Aside0.mk (show (convert 39 9 (.slice Aa n ca)).run Tryd.prog w4.drew = .ok (.string (strOfNums ya)) w4.drew ∧ (convert 39 9 (.slice Ab n cb)).run Tryd.prog w4.drew = .ok (.string (strOfNums yb)) w4.drew from
        ⟨Kd.C_string Tryd.underlying39 Tryd.underlying5 Tryd.underlying9 HYA.out, Kd.C_string Tryd.underlying39 Tryd.underlying5 Tryd.underlying9 HYB.out⟩)
      refine start_ (n := 17) (S := (fun w' => (convert 39 9 (.slice Aa n ca)).run Tryd.prog w' = .ok (.string (strOfNums ya)) w' ∧ (convert 39 9 (.slice Ab n cb)).run Tryd.prog w' = .ok (.string (strOfNums yb)) w')) (ds := []) #[false, false, false, false, false, false, false, false, false, false, false, false, false, false, false, false, false] (by kernel_rfl) rfl rfl HST.out (fun hHeld => ?_)
      refine with_tabW holds8.tab holds8.bits (fun HT_ HW_ => ?_)
      refine one_ (i := 0) (N := some 40) #[true, false, false, false, false, false, false, false, false, false, false, false, false, false, false, false, false] rfl rfl (one_of HT_.out (by kernel_rfl)) (by decide) (fun K hK => ?_)
      refine goes_ Tryd.func19 (by kernel_rfl) rfl _ (by rfl) rfl rfl (by (try simp only [List.map_toArray, List.map_cons, List.map_nil]); first | done | rfl | (go_simp; done) | simp [Act.eval]) ?_
      refine HAP.out.mono ?_
      rintro e w5 ⟨rfl, hb⟩
      have HX6 := Aside0.mk ((hb.block x0 (blk_lt HX5.out)).trans HX5.out)
      have HB6 := Aside0.mk (below_step HB5.out hb)
      have HYA6 := Aside0.mk (Kd.C_below HYA.out hb)
      have HYB6 := Aside0.mk (Kd.C_below HYB.out hb)
      clear hb HAP HX5 HB5 HYA HYB HST
      refine ⟨_, rfl, ?_⟩
      refine hK.out _ _ ⟨Kd.C_string Tryd.underlying39 Tryd.underlying5 Tryd.underlying9 HYA6.out, Kd.C_string Tryd.underlying39 Tryd.underlying5 Tryd.underlying9 HYB6.out⟩ (fun hHeld => ?_)
      clear hK K
      refine norm_ (a' := ?_) ?_ ?_
      rotate_left
      · show Act.put _ (some 40) _ = _
        simp only [Act.put, List.setIfInBounds_toArray, List.set_cons_zero, List.set_cons_succ, i64_w, i32_w]
        rfl
      refine pure_ (i := 1) (N := some 41) (v := ?_) (a' := ?_) #[true, true, false, false, false, false, false, false, false, false, false, false, false, false, false, false, false] rfl rfl (any_of HT_.out (by kernel_rfl)) (fun _ _ _ h => h) (Or.inl ⟨by rfl, ?_⟩) ?_ ?_
      rotate_left
      · intro w'
        go_simp
        with_reducible rfl
      rotate_left
      · simp only [Act.put, List.setIfInBounds_toArray, List.set_cons_zero, List.set_cons_succ, i64_w, i32_w]
        rfl
      refine pure_ (i := 2) (N := some 42) (v := ?_) (a' := ?_) #[true, true, true, false, false, false, false, false, false, false, false, false, false, false, false, false, false] rfl rfl (any_of HT_.out (by kernel_rfl)) (fun _ _ _ h => h) (Or.inl ⟨by rfl, ?_⟩) ?_ ?_
      rotate_left
      · intro w'
        go_simp
        with_reducible rfl
      rotate_left
      · simp only [Act.put, List.setIfInBounds_toArray, List.set_cons_zero, List.set_cons_succ, i64_w, i32_w]
        rfl
      refine pure_ (i := 3) (N := some 43) (v := ?_) (a' := ?_) #[true, true, true, true, false, false, false, false, false, false, false, false, false, false, false, false, false] rfl rfl (any_of HT_.out (by kernel_rfl)) (fun _ _ _ h => h) (Or.inl ⟨by rfl, ?_⟩) ?_ ?_
      rotate_left
      · intro w'
        go_simp
        with_reducible rfl
      rotate_left
      · simp only [Act.put, List.setIfInBounds_toArray, List.set_cons_zero, List.set_cons_succ, i64_w, i32_w]
        rfl
      refine pure_ (i := 4) (N := some 44) (v := ?_) (a' := ?_) #[true, true, true, true, true, false, false, false, false, false, false, false, false, false, false, false, false] rfl rfl (any_of HT_.out (by kernel_rfl)) (fun _ _ _ h => h) (Or.inl ⟨by rfl, ?_⟩) ?_ ?_
      rotate_left
      · intro w'
        go_simp
        with_reducible rfl
      rotate_left
      · simp only [Act.put, List.setIfInBounds_toArray, List.set_cons_zero, List.set_cons_succ, i64_w, i32_w]
        rfl
      refine pure_ (i := 5) (N := some 45) (v := ?_) (a' := ?_) #[true, true, true, true, true, true, false, false, false, false, false, false, false, false, false, false, false] rfl rfl (any_of HT_.out (by kernel_rfl)) (fun _ _ _ h => h) (Or.inl ⟨by rfl, ?_⟩) ?_ ?_
      rotate_left
      · intro w'
        go_simp
        with_reducible rfl
      rotate_left
      · simp only [Act.put, List.setIfInBounds_toArray, List.set_cons_zero, List.set_cons_succ, i64_w, i32_w]
        rfl
      refine pure_ (i := 6) (N := some 46) (v := ?_) (a' := ?_) #[true, true, true, true, true, true, true, false, false, false, false, false, false, false, false, false, false] rfl rfl (any_of HT_.out (by kernel_rfl)) (fun _ _ _ h => h) (Or.inl ⟨by rfl, ?_⟩) ?_ ?_
      rotate_left
      · intro w'
        go_simp
        with_reducible rfl
      rotate_left
      · simp only [Act.put, List.setIfInBounds_toArray, List.set_cons_zero, List.set_cons_succ, i64_w, i32_w]
        rfl
      refine pure_ (i := 7) (N := some 47) (v := ?_) (a' := ?_) #[true, true, true, true, true, true, true, true, false, false, false, false, false, false, false, false, false] rfl rfl (any_of HT_.out (by kernel_rfl)) (fun _ _ _ h => h) (Or.inl ⟨by rfl, ?_⟩) ?_ ?_
      rotate_left
      · intro w'
        go_simp
        with_reducible rfl
      rotate_left
      · simp only [Act.put, List.setIfInBounds_toArray, List.set_cons_zero, List.set_cons_succ, i64_w, i32_w]
        rfl
      refine pure_ (i := 8) (N := some 48) (v := ?_) (a' := ?_) #[true, true, true, true, true, true, true, true, true, false, false, false, false, false, false, false, false] rfl rfl (any_of HT_.out (by kernel_rfl)) (fun _ _ _ h => h) (Or.inl ⟨by rfl, ?_⟩) ?_ ?_
      rotate_left
      · intro w'
        go_simp
        with_reducible rfl
      rotate_left
      · simp only [Act.put, List.setIfInBounds_toArray, List.set_cons_zero, List.set_cons_succ, i64_w, i32_w]
        rfl
      refine pure_ (i := 9) (N := some 49) (v := ?_) (a' := ?_) #[true, true, true, true, true, true, true, true, true, true, false, false, false, false, false, false, false] rfl rfl (any_of HT_.out (by kernel_rfl)) (fun _ _ _ h => h) (Or.inl ⟨by rfl, ?_⟩) ?_ ?_
      rotate_left
      · intro w'
        go_simp
        with_reducible rfl
      rotate_left
      · simp only [Act.put, List.setIfInBounds_toArray, List.set_cons_zero, List.set_cons_succ, i64_w, i32_w]
        rfl
      refine take_ (i := 10) (N := some 50) (v := ?_) (a' := ?_) #[true, true, true, true, true, true, true, true, true, true, true, false, false, false, false, false, false] rfl rfl (take_ofW HT_.out HW_.out (by kernel_rfl)) (fun _ _ _ h => h) (Or.inl ⟨by rfl, ?_⟩) hHeld ?_ ?_
      rotate_left
      · rintro w' ⟨s0, s1⟩
        go_simp
        with_reducible rfl
      rotate_left
      · simp only [Act.put, List.setIfInBounds_toArray, List.set_cons_zero, List.set_cons_succ, i64_w, i32_w]
        rfl
      refine pure_ (i := 11) (N := some 51) (v := ?_) (a' := ?_) #[true, true, true, true, true, true, true, true, true, true, true, true, false, false, false, false, false] rfl rfl (any_of HT_.out (by kernel_rfl)) (fun _ _ _ h => h) (Or.inl ⟨by rfl, ?_⟩) ?_ ?_
      rotate_left
      · intro w'
        go_simp
        with_reducible rfl
      rotate_left
      · simp only [Act.put, List.setIfInBounds_toArray, List.set_cons_zero, List.set_cons_succ, i64_w, i32_w]
        rfl
      refine pure_ (i := 12) (N := some 52) (v := ?_) (a' := ?_) #[true, true, true, true, true, true, true, true, true, true, true, true, true, false, false, false, false] rfl rfl (any_of HT_.out (by kernel_rfl)) (fun _ _ _ h => h) (Or.inl ⟨by rfl, ?_⟩) ?_ ?_
      rotate_left
      · intro w'
        go_simp
        with_reducible rfl
      rotate_left
      · simp only [Act.put, List.setIfInBounds_toArray, List.set_cons_zero, List.set_cons_succ, i64_w, i32_w]
        rfl
      refine pure_ (i := 13) (N := some 53) (v := ?_) (a' := ?_) #[true, true, true, true, true, true, true, true, true, true, true, true, true, true, false, false, false] rfl rfl (any_of HT_.out (by kernel_rfl)) (fun _ _ _ h => h) (Or.inl ⟨by rfl, ?_⟩) ?_ ?_
      rotate_left
      · intro w'
        go_simp
        with_reducible rfl
      rotate_left
      · simp only [Act.put, List.setIfInBounds_toArray, List.set_cons_zero, List.set_cons_succ, i64_w, i32_w]
        rfl
      refine take_ (i := 14) (N := some 54) (v := ?_) (a' := ?_) #[true, true, true, true, true, true, true, true, true, true, true, true, true, true, true, false, false] rfl rfl (take_ofW HT_.out HW_.out (by kernel_rfl)) (fun _ _ _ h => h) (Or.inl ⟨by rfl, ?_⟩) hHeld ?_ ?_
      rotate_left
      · rintro w' ⟨s0, s1⟩
        go_simp
        with_reducible rfl
      rotate_left
      · simp only [Act.put, List.setIfInBounds_toArray, List.set_cons_zero, List.set_cons_succ, i64_w, i32_w]
        rfl
      refine pure_ (i := 15) (N := some 55) (v := ?_) (a' := ?_) #[true, true, true, true, true, true, true, true, true, true, true, true, true, true, true, true, false] rfl rfl (any_of HT_.out (by kernel_rfl)) (fun _ _ _ h => h) (Or.inl ⟨by rfl, ?_⟩) ?_ ?_
      rotate_left
      · intro w'
        go_simp
        with_reducible rfl
      rotate_left
      · simp only [Act.put, List.setIfInBounds_toArray, List.set_cons_zero, List.set_cons_succ, i64_w, i32_w]
        rfl
      refine pure_ (i := 16) (N := some 56) (v := ?_) (a' := ?_) #[true, true, true, true, true, true, true, true, true, true, true, true, true, true, true, true, true] rfl rfl (any_of HT_.out (by kernel_rfl)) (fun _ _ _ h => h) (Or.inl ⟨by rfl, ?_⟩) ?_ ?_
      rotate_left
      · intro w'
        go_simp
        with_reducible rfl
      rotate_left
      · simp only [Act.put, List.setIfInBounds_toArray, List.set_cons_zero, List.set_cons_succ, i64_w, i32_w]
        rfl
      refine done_ (done_of HT_.out (by kernel_rfl)) ?_
      clear hHeld
      have hse : ((strOfNums ya).toList == (strOfNums yb).toList) = decide (ya = yb) := by
        have ba : ∀ x ∈ ya, 0 ≤ x ∧ x ≤ 255 := fun x hx => by
          rw [HE.out.1] at hx
          have := isb01 (HFA.out x (List.mem_of_mem_take hx)); omega
        have bb : ∀ x ∈ yb, 0 ≤ x ∧ x ≤ 255 := fun x hx => by
          rw [HE.out.2] at hx
          have := isb01 (HFB.out x (List.mem_of_mem_take hx)); omega
        exact str_beq ba bb
      rw [hse]
      clear hse
      by_cases hy : ya = yb
      · rw [decide_eq_true hy]
        clear hy
        have HAP2 := Aside0.mk (apart_calls (TP_of HT.out HB6.out))
        clear HX6 HYA6 HYB6 hcuta hcutb HYL HYM
        go_wp2_with (first
          | (go_at_call 19; refine HAP2.out.mono ?_; rintro e w6 ⟨rfl, hb⟩; have HB7 := Aside0.mk (below_step HB6.out hb); clear hb HAP2 HB6)
          | fail)
        have hrs : (Tryd.f7).results = #[.tmp 6] := by kernel_rfl
        refine bodyPost_ret (results_tmp hrs _ _ _) rfl ?_
        exact ⟨by simp, HB7.out⟩
      · skip
        as_aux_lemma =>
          rw [decide_eq_false hy]
          have HNE := Aside0.mk hy
          clear hy
          have hd5 : Below w5.heap.size w5 w5.drew := below_drew1 (Below.refl _ _)
          have HYA7 := Aside0.mk (Kd.C_below HYA6.out hd5)
          have HYB7 := Aside0.mk (Kd.C_below HYB6.out hd5)
          have HX7 := Aside0.mk ((hd5.block x0 (blk_lt HX6.out)).trans HX6.out)
          have HB7 := Aside0.mk (below_step HB6.out hd5)
          have HCX := Aside0.mk (show Calls Tryd.prog 20 #[.slice Aa n ca] w5.drew fun e w' => ∃ v0_ : Value, e = .returned (v0_) ∧ Kd.R (Kd.int .u8) 5 w' w5.drew.heap.size (fun _ => True) v0_ (code ya) ∧ Below w5.drew.heap.size w5.drew w' by
            have h := shuttleref06_Code.calls 1000 Aa ca ya (code ya) w5.drew (by rw [HYL.out]; exact HYA7.out) (by rw [HYL.out]; have := HNA.out; have := HCP.out; omega) (rcode_f ya (by rw [HE.out.1]; exact take_isb HFA.out n) (by have := HNA.out; have := HLA.out; have := HYL.out; omega) 1000 (by have := HNA.out; have := HLA.out; have := HYL.out; omega))
            rw [HYL.out] at h; exact h)
          have HCY := Aside0.mk (show ∀ w6, Below w5.drew.heap.size w5.drew w6 → Calls Tryd.prog 20 #[.slice Ab n cb] w6 fun e w' => ∃ v0_ : Value, e = .returned (v0_) ∧ Kd.R (Kd.int .u8) 5 w' w6.heap.size (fun _ => True) v0_ (code yb) ∧ Below w6.heap.size w6 w' by
            intro w6 hb
            have h := shuttleref06_Code.calls 1000 Ab cb yb (code yb) w6 (by rw [HYM.out]; exact Kd.C_below HYB7.out hb) (by rw [HYM.out]; have := HNB.out; have := HCQ.out; omega) (rcode_f yb (by rw [HE.out.2]; exact take_isb HFB.out n) (by have := HNB.out; have := HLB.out; have := HYM.out; omega) 1000 (by have := HNB.out; have := HLB.out; have := HYM.out; omega))
            rw [HYM.out] at h; exact h)
          clear hd5 HYA6 HYB6 HX6 HB6 HYB7 HYA7
          go_wp2_with fail
          refine start_ (n := 10) (S := fun _ => True) (ds := []) #[false, false, false, false, false, false, false, false, false, false] (by kernel_rfl) rfl rfl trivial (fun hHeld => ?_)
          refine with_tabW holds10.tab holds10.bits (fun HT_ HW_ => ?_)
          refine pure_ (i := 0) (N := some 62) (v := ?_) (a' := ?_) #[true, false, false, false, false, false, false, false, false, false] rfl rfl (any_of HT_.out (by kernel_rfl)) (fun _ _ _ h => h) (Or.inl ⟨by rfl, ?_⟩) ?_ ?_
          rotate_left
          · intro w'
            go_simp
            with_reducible rfl
          rotate_left
          · simp only [Act.put, List.setIfInBounds_toArray, List.set_cons_zero, List.set_cons_succ, i64_w, i32_w]
            rfl
          refine pure_ (i := 1) (N := some 63) (v := ?_) (a' := ?_) #[true, true, false, false, false, false, false, false, false, false] rfl rfl (any_of HT_.out (by kernel_rfl)) (fun _ _ _ h => h) (Or.inl ⟨by rfl, ?_⟩) ?_ ?_
          rotate_left
          · intro w'
            go_simp
            with_reducible rfl
          rotate_left
          · simp only [Act.put, List.setIfInBounds_toArray, List.set_cons_zero, List.set_cons_succ, i64_w, i32_w]
            rfl
          refine pure_ (i := 2) (N := some 64) (v := ?_) (a' := ?_) #[true, true, true, false, false, false, false, false, false, false] rfl rfl (any_of HT_.out (by kernel_rfl)) (fun _ _ _ h => h) (Or.inl ⟨by rfl, ?_⟩) ?_ ?_
          rotate_left
          · intro w'
            go_simp
            with_reducible rfl
          rotate_left
          · simp only [Act.put, List.setIfInBounds_toArray, List.set_cons_zero, List.set_cons_succ, i64_w, i32_w]
            rfl
          refine pure_ (i := 4) (N := some 66) (v := ?_) (a' := ?_) #[true, true, true, false, true, false, false, false, false, false] rfl rfl (any_of HT_.out (by kernel_rfl)) (fun _ _ _ h => h) (Or.inl ⟨by rfl, ?_⟩) ?_ ?_
          rotate_left
          · intro w'
            go_simp
            with_reducible rfl
          rotate_left
          · simp only [Act.put, List.setIfInBounds_toArray, List.set_cons_zero, List.set_cons_succ, i64_w, i32_w]
            rfl
          refine pure_ (i := 5) (N := some 67) (v := ?_) (a' := ?_) #[true, true, true, false, true, true, false, false, false, false] rfl rfl (any_of HT_.out (by kernel_rfl)) (fun _ _ _ h => h) (Or.inl ⟨by rfl, ?_⟩) ?_ ?_
          rotate_left
          · intro w'
            go_simp
            with_reducible rfl
          rotate_left
          · simp only [Act.put, List.setIfInBounds_toArray, List.set_cons_zero, List.set_cons_succ, i64_w, i32_w]
            rfl
          refine pure_ (i := 6) (N := some 68) (v := ?_) (a' := ?_) #[true, true, true, false, true, true, true, false, false, false] rfl rfl (any_of HT_.out (by kernel_rfl)) (fun _ _ _ h => h) (Or.inl ⟨by rfl, ?_⟩) ?_ ?_
          rotate_left
          · intro w'
            go_simp
            with_reducible rfl
          rotate_left
          · simp only [Act.put, List.setIfInBounds_toArray, List.set_cons_zero, List.set_cons_succ, i64_w, i32_w]
            rfl
          refine one_ (i := 3) (N := some 65) #[true, true, true, true, true, true, true, false, false, false] rfl rfl (one_of HT_.out (by kernel_rfl)) (by decide) (fun K hK => ?_)
          refine goes_ Tryd.func20 (by kernel_rfl) rfl _ (by rfl) rfl rfl (by (try simp only [List.map_toArray, List.map_cons, List.map_nil]); first | done | rfl | (go_simp; done) | simp [Act.eval]) ?_
          refine HCX.out.mono ?_
          rintro e w6 ⟨vx, rfl, hvx, hb⟩
          have HCY6 := Aside0.mk (HCY.out w6 hb)
          have HVX := Aside0.mk hvx
          have HX8 := Aside0.mk ((hb.block x0 (blk_lt HX7.out)).trans HX7.out)
          have HB8 := Aside0.mk (below_step HB7.out hb)
          have HS8 := Aside0.mk (show w.heap.size ≤ w5.drew.heap.size ∧ x0 < w5.drew.heap.size from ⟨HB7.out.size, blk_lt HX7.out⟩)
          clear hvx hb HCX HCY HX7 HB7
          refine ⟨_, rfl, ?_⟩
          refine hK.out _ _ trivial (fun hHeld => ?_)
          clear hK K
          refine norm_ (a' := ?_) ?_ ?_
          rotate_left
          · show Act.put _ (some 65) _ = _
            simp only [Act.put, List.setIfInBounds_toArray, List.set_cons_zero, List.set_cons_succ, i64_w, i32_w]
            rfl
          refine one_ (i := 7) (N := some 69) #[true, true, true, true, true, true, true, true, false, false] rfl rfl (one_of HT_.out (by kernel_rfl)) (by decide) (fun K hK => ?_)
          refine goes_ Tryd.func20 (by kernel_rfl) rfl _ (by rfl) rfl rfl (by (try simp only [List.map_toArray, List.map_cons, List.map_nil]); first | done | rfl | (go_simp; done) | simp [Act.eval]) ?_
          refine HCY6.out.mono ?_
          rintro e w7 ⟨vy, rfl, hvy, hb⟩
          have HVX7 := Aside0.mk (Kd.R_elder' HVX.out (Kd.R_base hvy) hb)
          have HVY7 := Aside0.mk (Kd.R_new' hvy (Kd.R_lt HVX.out))
          have HX9 := Aside0.mk ((hb.block x0 (blk_lt HX8.out)).trans HX8.out)
          have HB9 := Aside0.mk (below_step HB8.out hb)
          clear hvy hb HCY6 HVX HX8 HB8
          refine ⟨_, rfl, ?_⟩
          refine hK.out _ _ trivial (fun hHeld => ?_)
          clear hK K
          refine norm_ (a' := ?_) ?_ ?_
          rotate_left
          · show Act.put _ (some 69) _ = _
            simp only [Act.put, List.setIfInBounds_toArray, List.set_cons_zero, List.set_cons_succ, i64_w, i32_w]
            rfl
          refine pure_ (i := 8) (N := some 11) (v := ?_) (a' := ?_) #[true, true, true, true, true, true, true, true, true, false] rfl rfl (any_of HT_.out (by kernel_rfl)) (fun _ _ _ h => h) (Or.inl ⟨by rfl, ?_⟩) ?_ ?_
          rotate_left
          · intro w'
            go_simp
            with_reducible rfl
          rotate_left
          · simp only [Act.put, List.setIfInBounds_toArray, List.set_cons_zero, List.set_cons_succ, i64_w, i32_w]
            rfl
          refine pure_ (i := 9) (N := some 12) (v := ?_) (a' := ?_) #[true, true, true, true, true, true, true, true, true, true] rfl rfl (any_of HT_.out (by kernel_rfl)) (fun _ _ _ h => h) (Or.inl ⟨by rfl, ?_⟩) ?_ ?_
          rotate_left
          · intro w'
            go_simp
            with_reducible rfl
          rotate_left
          · simp only [Act.put, List.setIfInBounds_toArray, List.set_cons_zero, List.set_cons_succ, i64_w, i32_w]
            rfl
          refine done_ (done_of HT_.out (by kernel_rfl)) ?_
          clear hHeld
          have lx : (code ya).length = 4 * (n + 6) := by rw [code_length, HYL.out]
          have ly : (code yb).length = 4 * (n + 6) := by rw [code_length, HYM.out]
          obtain ⟨gx, cx, rfl, hgx, _, _⟩ := Kd.R_form HVX7.out (by rw [lx]; omega)
          obtain ⟨gy, cy, rfl, hgy, _, _⟩ := Kd.R_form HVY7.out (by rw [ly]; omega)
          have hcx := (Kd.R_reads' HVX7.out).2.1
          obtain ⟨M, hM⟩ : ∃ M, M = 4 * (n + 6) := ⟨_, rfl⟩
          obtain ⟨x, hx⟩ : ∃ x, x = code ya := ⟨_, rfl⟩
          obtain ⟨y, hy⟩ : ∃ y, y = code yb := ⟨_, rfl⟩
          rw [← hx, ← hM] at lx
          rw [← hy, ← hM] at ly
          rw [← hx, lx] at hcx
          rw [← hx, lx] at HVX7
          rw [← hy, ly] at HVY7
          rw [← hx, ← hy, lx, ly]
          have HCX := Aside0.mk hcx
          have HGX := Aside0.mk (show w.heap.size ≤ gx ∧ x0 ≠ gx by have := HS8.out; omega)
          have HRX := Aside0.mk (Kd.R_mono HVX7.out (ok' := fun _ => True) (fun _ _ => trivial))
          have HRY := Aside0.mk (Kd.R_mono HVY7.out (ok' := fun k => k ≠ gx) (fun k hk => by
            intro e; subst e; exact hk.2 rfl))
          have HD := Aside0.mk (show x = code ya ∧ y = code yb ∧ M = 4 * (n + 6) ∧ x.length = M from ⟨hx, hy, hM, lx⟩)
          clear hx hy hM lx ly hgx hgy hcx HVX7 HVY7 HS8
          go_wp2_with fail
          go_loopw [13] (fun v13 wr => ∃ (i : Nat) (X : List Int), v13 = .int .i64 (i : Int) ∧ i ≤ M ∧ Aside0 (xorTo x y i X) ∧ Aside0 (Kd.R (Kd.int .u8) 5 wr w5.drew.heap.size (fun _ => True) (.slice (some ⟨gx, 0, none⟩) M cx) X) ∧ Aside0 (Kd.R (Kd.int .u8) 5 wr w6.heap.size (fun k => k ≠ gx) (.slice (some ⟨gy, 0, none⟩) M cy) y) ∧ Aside0 (wr.heap[x0]? = some (.cells #[.int .i64 N0, .int .i64 N1, .int .i64 N2, .int .i64 N3] 22 (0, 0))) ∧ Aside0 (Below w.heap.size w wr)) (fun v13 _ => M - (intOf v13).toNat)
          case atStart => exact ⟨0, x, by simp, by omega, ⟨⟨rfl, fun j hj => by rw [if_neg (by omega)]⟩⟩, HRX, HRY, HX9, HB9⟩
          case round =>
            clear HRX HRY HX9 HB9
            obtain ⟨i, X, rfl, hi, HXO, HRX, HRY, HXX, HBB⟩ := hrel
            by_cases hlt : i < M
            · skip
              as_aux_lemma =>
                have hlt' : (i : Int) < (M : Int) := by omega
                have HI1 := Aside0.mk (show i + 1 ≤ M from hlt)
                have HES := Aside0.mk (show wrap64 ((i : Int) + 1) = ((i + 1 : Nat) : Int) from wrap_succ i (by have := HD.out.2.2.1; have := HNA.out; have := HLA.out; omega))
                have hi0 : (0 : Int) ≤ (i : Int) := by omega
                have hcx := Kd.R_celln (0 : Int) HRX.out (i : Int) hi0 hlt'
                have hcy := Kd.R_celln (0 : Int) HRY.out (i : Int) hi0 hlt'
                obtain ⟨p, hp⟩ : ∃ p, p = X.getD i 0 := ⟨_, rfl⟩
                obtain ⟨q, hq⟩ : ∃ q, q = y.getD i 0 := ⟨_, rfl⟩
                have hfz : wr.drew.frozen? ⟨gx, i, none⟩ = false := hcx.2
                have HST2 := Aside0.mk (show wr.drew.cell? ⟨gx, i, none⟩ = some (.int .u8 p) ∧ wr.drew.cell? ⟨gy, i, none⟩ = some (.int .u8 q) from by rw [hp, hq]; exact ⟨hcx.1, hcy.1⟩)
                have HPQ := Aside0.mk (show p = X.getD i 0 ∧ q = y.getD i 0 from ⟨hp, hq⟩)
                have hd6 : Below wr.heap.size wr wr.drew := below_drew1 (Below.refl _ _)
                have HRX2 := Aside0.mk (Kd.R_below HRX.out hd6)
                have HRY2 := Aside0.mk (Kd.R_below HRY.out hd6)
                have HXX2 := Aside0.mk ((hd6.block x0 (blk_lt HXX.out)).trans HXX.out)
                have HBB2 := Aside0.mk (below_step HBB.out hd6)
                clear hcx hcy hp hq hd6 HRX HRY HXX HBB
                go_wp2_with fail
                refine start_ (n := 13) (S := (fun w' => w'.cell? ⟨gx, i, none⟩ = some (.int .u8 p) ∧ w'.cell? ⟨gy, i, none⟩ = some (.int .u8 q))) (ds := [12]) #[false, false, false, false, false, false, false, false, false, false, false, false, false] (by kernel_rfl) rfl rfl HST2.out (fun hHeld => ?_)
                refine with_tabW holds14.tab holds14.bits (fun HT_ HW_ => ?_)
                refine pure_ (i := 0) (N := some 76) (v := ?_) (a' := ?_) #[true, false, false, false, false, false, false, false, false, false, false, false, false] rfl rfl (any_of HT_.out (by kernel_rfl)) (fun _ _ _ h => h) (Or.inl ⟨by rfl, ?_⟩) ?_ ?_
                rotate_left
                · intro w'
                  go_simp
                  with_reducible rfl
                rotate_left
                · simp only [Act.put, List.setIfInBounds_toArray, List.set_cons_zero, List.set_cons_succ, i64_w, i32_w]
                  rfl
                refine pure_ (i := 1) (N := some 77) (v := ?_) (a' := ?_) #[true, true, false, false, false, false, false, false, false, false, false, false, false] rfl rfl (any_of HT_.out (by kernel_rfl)) (fun _ _ _ h => h) (Or.inl ⟨by rfl, ?_⟩) ?_ ?_
                rotate_left
                · intro w'
                  go_simp
                  with_reducible rfl
                rotate_left
                · simp only [Act.put, List.setIfInBounds_toArray, List.set_cons_zero, List.set_cons_succ, i64_w, i32_w]
                  rfl
                refine pure_ (i := 2) (N := some 78) (v := ?_) (a' := ?_) #[true, true, true, false, false, false, false, false, false, false, false, false, false] rfl rfl (any_of HT_.out (by kernel_rfl)) (fun _ _ _ h => h) (Or.inl ⟨by rfl, ?_⟩) ?_ ?_
                rotate_left
                · intro w'
                  go_simp
                  with_reducible rfl
                rotate_left
                · simp only [Act.put, List.setIfInBounds_toArray, List.set_cons_zero, List.set_cons_succ, i64_w, i32_w]
                  rfl
                refine pure_ (i := 3) (N := some 79) (v := ?_) (a' := ?_) #[true, true, true, true, false, false, false, false, false, false, false, false, false] rfl rfl (any_of HT_.out (by kernel_rfl)) (fun _ _ _ h => h) (Or.inl ⟨by rfl, ?_⟩) ?_ ?_
                rotate_left
                · intro w'
                  go_simp
                  with_reducible rfl
                rotate_left
                · simp only [Act.put, List.setIfInBounds_toArray, List.set_cons_zero, List.set_cons_succ, i64_w, i32_w]
                  rfl
                refine pure_ (i := 4) (N := some 80) (v := ?_) (a' := ?_) #[true, true, true, true, true, false, false, false, false, false, false, false, false] rfl rfl (any_of HT_.out (by kernel_rfl)) (fun _ _ _ h => h) (Or.inl ⟨by rfl, ?_⟩) ?_ ?_
                rotate_left
                · intro w'
                  go_simp
                  with_reducible rfl
                rotate_left
                · simp only [Act.put, List.setIfInBounds_toArray, List.set_cons_zero, List.set_cons_succ, i64_w, i32_w]
                  rfl
                refine take_ (i := 5) (N := some 81) (v := ?_) (a' := ?_) #[true, true, true, true, true, true, false, false, false, false, false, false, false] rfl rfl (take_ofW HT_.out HW_.out (by kernel_rfl)) (fun _ _ _ h => h) (Or.inl ⟨by rfl, ?_⟩) hHeld ?_ ?_
                rotate_left
                · rintro w' ⟨s0, s1⟩
                  go_simp
                  with_reducible rfl
                rotate_left
                · simp only [Act.put, List.setIfInBounds_toArray, List.set_cons_zero, List.set_cons_succ, i64_w, i32_w]
                  rfl
                refine pure_ (i := 6) (N := some 82) (v := ?_) (a' := ?_) #[true, true, true, true, true, true, true, false, false, false, false, false, false] rfl rfl (any_of HT_.out (by kernel_rfl)) (fun _ _ _ h => h) (Or.inl ⟨by rfl, ?_⟩) ?_ ?_
                rotate_left
                · intro w'
                  go_simp
                  with_reducible rfl
                rotate_left
                · simp only [Act.put, List.setIfInBounds_toArray, List.set_cons_zero, List.set_cons_succ, i64_w, i32_w]
                  rfl
                refine pure_ (i := 7) (N := some 83) (v := ?_) (a' := ?_) #[true, true, true, true, true, true, true, true, false, false, false, false, false] rfl rfl (any_of HT_.out (by kernel_rfl)) (fun _ _ _ h => h) (Or.inl ⟨by rfl, ?_⟩) ?_ ?_
                rotate_left
                · intro w'
                  go_simp
                  with_reducible rfl
                rotate_left
                · simp only [Act.put, List.setIfInBounds_toArray, List.set_cons_zero, List.set_cons_succ, i64_w, i32_w]
                  rfl
                refine pure_ (i := 8) (N := some 84) (v := ?_) (a' := ?_) #[true, true, true, true, true, true, true, true, true, false, false, false, false] rfl rfl (any_of HT_.out (by kernel_rfl)) (fun _ _ _ h => h) (Or.inl ⟨by rfl, ?_⟩) ?_ ?_
                rotate_left
                · intro w'
                  go_simp
                  with_reducible rfl
                rotate_left
                · simp only [Act.put, List.setIfInBounds_toArray, List.set_cons_zero, List.set_cons_succ, i64_w, i32_w]
                  rfl
                refine take_ (i := 9) (N := some 85) (v := ?_) (a' := ?_) #[true, true, true, true, true, true, true, true, true, true, false, false, false] rfl rfl (take_ofW HT_.out HW_.out (by kernel_rfl)) (fun _ _ _ h => h) (Or.inl ⟨by rfl, ?_⟩) hHeld ?_ ?_
                rotate_left
                · rintro w' ⟨s0, s1⟩
                  go_simp
                  with_reducible rfl
                rotate_left
                · simp only [Act.put, List.setIfInBounds_toArray, List.set_cons_zero, List.set_cons_succ, i64_w, i32_w]
                  rfl
                refine pure_ (i := 10) (N := some 86) (v := ?_) (a' := ?_) #[true, true, true, true, true, true, true, true, true, true, true, false, false] rfl rfl (any_of HT_.out (by kernel_rfl)) (fun _ _ _ h => h) (Or.inl ⟨by rfl, ?_⟩) ?_ ?_
                rotate_left
                · intro w'
                  go_simp
                  with_reducible rfl
                rotate_left
                · simp only [Act.put, List.setIfInBounds_toArray, List.set_cons_zero, List.set_cons_succ, i64_w, i32_w]
                  rfl
                refine pure_ (i := 11) (N := some 87) (v := ?_) (a' := ?_) #[true, true, true, true, true, true, true, true, true, true, true, true, false] rfl rfl (any_of HT_.out (by kernel_rfl)) (fun _ _ _ h => h) (Or.inl ⟨by rfl, ?_⟩) ?_ ?_
                rotate_left
                · intro w'
                  go_simp
                  with_reducible rfl
                rotate_left
                · simp only [Act.put, List.setIfInBounds_toArray, List.set_cons_zero, List.set_cons_succ, i64_w, i32_w]
                  rfl
                refine last_ (i := 12) (N := none) #[true, true, true, true, true, true, true, true, true, true, true, true, true] rfl rfl (one_of HT_.out (by kernel_rfl)) (by decide) (fun K hK => ?_)
                refine skip_ (w1 := ?_) (by rfl) rfl ?_ ?_
                rotate_left 1
                · go_simp
                  rfl
                refine hK.out _ _ ?_
                clear hK K
                refine done_ (done_of HT_.out (by kernel_rfl)) ?_
                clear hHeld
                obtain ⟨u, hu⟩ : ∃ u, u = Go.bits .xor .u8 p q := ⟨_, rfl⟩
                rw [← hu, drew_set]
                have hpg := Kd.R_putg HRX2.out (i : Int) u
                have hP := Put1.set gx i wr.drew (.int .u8 u)
                have HRX3 := Aside0.mk (show Kd.R (Kd.int .u8) 5 (wr.drew.setCell ⟨gx, i, none⟩ (.int .u8 u)) w5.drew.heap.size (fun _ => True) (.slice (some ⟨gx, 0, none⟩) M cx) (X.set i u) from hpg.1)
                have HRY3 := Aside0.mk (show Kd.R (Kd.int .u8) 5 (wr.drew.setCell ⟨gx, i, none⟩ (.int .u8 u)) w6.heap.size (fun k => k ≠ gx) (.slice (some ⟨gy, 0, none⟩) M cy) y from Kd.R_grown HRY2.out hpg.2 (fun k hk e => hk (Option.some.inj e)))
                have HXX3 := Aside0.mk (show (wr.drew.setCell ⟨gx, i, none⟩ (.int .u8 u)).heap[x0]? = some (.cells #[.int .i64 N0, .int .i64 N1, .int .i64 N2, .int .i64 N3] 22 (0, 0)) from (hP.block x0 HGX.out.2).trans HXX2.out)
                have HBB3 := Aside0.mk (show Below w.heap.size w (wr.drew.setCell ⟨gx, i, none⟩ (.int .u8 u)) from HBB2.out.trans (hP.below HGX.out.1))
                have HXO3 := Aside0.mk (show xorTo x y (i + 1) (X.set i u) by
                  have h := HXO.out.next (by rw [HD.out.2.2.2]; exact hlt)
                  rw [← HPQ.out.1, ← HPQ.out.2, ← hu] at h
                  exact h)
                obtain ⟨w9, hw9⟩ : ∃ w9, w9 = wr.drew.setCell ⟨gx, i, none⟩ (.int .u8 u) := ⟨_, rfl⟩
                rw [← hw9] at HRX3 HRY3 HXX3 HBB3 ⊢
                clear hw9
                clear hu hpg hP HRX2 HRY2 HXX2 HBB2 HXO HPQ HST2 hfz
                go_wp2_with fail
                have es := HES.out
                go_roundw
                case rel => exact ⟨i + 1, X.set i u, by rw [es], HI1.out, HXO3, HRX3, HRY3, HXX3, HBB3⟩
                case measure =>
                  exact hmeas HI1.out es
            · skip
              as_aux_lemma =>
                obtain rfl : i = M := by omega
                have hXl : X.length = 4 * (n + 6) := by have := HXO.out.1; have := HD.out.2.2.2; have := HD.out.2.2.1; omega
                have hXL : X.length = i := by have := HD.out.2.2.1; omega
                have hXv : ∀ j, j < 4 * (n + 6) → X.getD j 0 = Go.bits .xor .u8 ((code (fa.take n)).getD j 0) ((code (fb.take n)).getD j 0) := fun j hj => by
                  rw [HXO.out.2 j (by rw [HD.out.2.2.2, HD.out.2.2.1]; exact hj), if_pos (by rw [HD.out.2.2.1]; exact hj), HD.out.1, HD.out.2.1, HE.out.1, HE.out.2]
                have hXb : ∀ z ∈ X, isb z := fun z hz => by
                  obtain ⟨j, hj, rfl⟩ := List.getElem_of_mem hz
                  have e : X[j] = X.getD j 0 := by rw [List.getD_eq_getElem?_getD, List.getElem?_eq_getElem hj]; rfl
                  rw [e, hXv j (by omega)]
                  exact xor_isb (getD_isb (codeN_isb (take_isb HFA.out n) _) j) (getD_isb (codeN_isb (take_isb HFB.out n) _) j)
                have hge : (m : Int) ≤ wcode (wOf N0 N1 N2 N3) X X.length := by
                  rw [hXl]
                  exact holds HWB.out HFA.out HFB.out n m HNA.out HNB.out (fun e => HNE.out (by rw [HE.out.1, HE.out.2]; exact e)) HM.out hXl hXv
                have hwf := weight_f HWB.out hXb (by have := HNA.out; have := HLA.out; omega)
                have hwc := shuttleref12_Weight.calls 1000 (some ⟨gx, 0, none⟩) cx X N0 N1 N2 N3 _ wr (by rw [hXL]; have h := (Kd.R_reads' HRX.out).2.2; rw [hXL] at h; exact h) (by rw [hXL]; exact HCX.out) hwf
                obtain ⟨z, hz⟩ : ∃ z, z = wcode (wOf N0 N1 N2 N3) X X.length := ⟨_, rfl⟩
                rw [← hz] at hwc hge
                rw [hXL] at hwc
                have HWC := Aside0.mk hwc
                have HGE := Aside0.mk hge
                have hc0 := blk_cell HXX.out 0
                have hc1 := blk_cell HXX.out 1
                have hc2 := blk_cell HXX.out 2
                have hc3 := blk_cell HXX.out 3
                have hdz : decide ((i : Int) < (i : Int)) = false := decide_eq_false (by omega)
                clear hXl hXL hXv hXb hwf hwc hz hge HXO HRX HRY
                go_wp2_with (first
                  | (go_at_call 21; refine Aside0.out ?_)
                  | fail)
                refine Aside0.mk ?_
                refine HWC.out.mono ?_
                rintro e w8 ⟨rfl, hb⟩
                have HB10 := Aside0.mk (below_step HBB.out hb)
                have hge := HGE.out
                have hge2 : z ≥ (m : Int) := hge
                have hge3 : decide (z ≥ (m : Int)) = true := decide_eq_true hge
                clear hb HWC hc0 hc1 hc2 hc3
                go_wp2_with fail
                have hrs : (Tryd.f7).results = #[.tmp 6] := by kernel_rfl
                refine bodyPost_ret (results_tmp hrs _ _ _) rfl ?_
                exact ⟨by simp, HB10.out⟩
end Go.Proofs.YtijpnlmejphfhaaDoor.P

-- YtijpnlmejphfhaaDoorPArrRow
namespace Go.Proofs.YtijpnlmejphfhaaDoor.P
open Go Go.WideMaps Go.ChangeShapes Go.WideShapes
section
variable {H : Type} {enc : TypeId × Value → H} {P : Program} {k e : TypeId} {q : IntKind} {W : World} {base : Nat} {sp : Nat → Bool} {held : Bool}
theorem arr_cells {n : Nat} (A : ArrKey P k e n) {r : Reach} {b0 : Nat} {v : Value} (h : Value.okWide P W r b0 k v) : ∃ l : List Value, v = .agg l.toArray ∧ l.length = n := by
  simp only [Value.okWide, A.hu] at h
  obtain ⟨cs, rfl, h2, _⟩ := h
  rw [A.size] at h2
  exact ⟨cs.toList, by simp, by simpa using h2⟩
theorem open_arr3 (A : ArrKey P k e 3) (he : P.underlying e = some (.int q)) {r : Reach} {b0 : Nat} {v : Value} {d : DataW H} {ps : List MemPlace} (hval : Value.okWide P W r b0 k v) (hd : DataW.Trod enc P W base sp held k v d ps) :
    ∃ a b c : Int, v = .agg #[.int q a, .int q b, .int q c] ∧ d = .agg [.lit (.int q a), .lit (.int q b), .lit (.int q c)] ∧ ps = [] ∧ (Lit.int q a).wf = true ∧ (Lit.int q b).wf = true ∧ (Lit.int q c).wf = true := by
  obtain ⟨l, rfl, hl⟩ := arr_cells A hval
  match l, hl with
  | [c0, c1, c2], _ =>
    obtain ⟨fuel, hf⟩ := hd
    cases fuel with
    | zero => simp [DataW.trod] at hf
    | succ n =>
      rw [DataW.trod_step] at hf
      unfold DataW.trodStep at hf
      simp only [A.hu, Value.cells] at hf
      rw [if_pos (by rw [A.size]; rfl)] at hf
      simp only [Option.map_eq_some_iff] at hf
      obtain ⟨xs, hx, e1⟩ := hf
      rw [show List.range 3 = [0, 1, 2] from rfl, List.mapM_cons, List.mapM_cons, List.mapM_cons, List.mapM_nil] at hx
      simp only [bind, Option.bind_eq_some_iff, pure, Option.some.injEq, A.one] at hx
      obtain ⟨y0, h0, _, ⟨y1, h1, _, ⟨y2, h2, _, rfl, rfl⟩, rfl⟩, rfl⟩ := hx
      obtain ⟨a, ea, rfl, wa⟩ := DataW.trod_int he h0
      obtain ⟨b, eb, rfl, wb⟩ := DataW.trod_int he h1
      obtain ⟨c, ec, rfl, wc⟩ := DataW.trod_int he h2
      simp at ea eb ec
      subst ea; subst eb; subst ec
      simp only [Prod.mk.injEq] at e1
      exact ⟨a, b, c, rfl, by rw [← e1.1]; rfl, by rw [← e1.2]; rfl, wa, wb, wc⟩
theorem open_arr4 (A : ArrKey P k e 4) (he : P.underlying e = some (.int q)) {r : Reach} {b0 : Nat} {v : Value} {d : DataW H} {ps : List MemPlace} (hval : Value.okWide P W r b0 k v) (hd : DataW.Trod enc P W base sp held k v d ps) :
    ∃ a b c f : Int, v = .agg #[.int q a, .int q b, .int q c, .int q f] ∧ d = .agg [.lit (.int q a), .lit (.int q b), .lit (.int q c), .lit (.int q f)] ∧ ps = [] ∧ (Lit.int q a).wf = true ∧ (Lit.int q b).wf = true ∧ (Lit.int q c).wf = true ∧ (Lit.int q f).wf = true := by
  obtain ⟨l, rfl, hl⟩ := arr_cells A hval
  match l, hl with
  | [c0, c1, c2, c3], _ =>
    obtain ⟨fuel, hf⟩ := hd
    cases fuel with
    | zero => simp [DataW.trod] at hf
    | succ n =>
      rw [DataW.trod_step] at hf
      unfold DataW.trodStep at hf
      simp only [A.hu, Value.cells] at hf
      rw [if_pos (by rw [A.size]; rfl)] at hf
      simp only [Option.map_eq_some_iff] at hf
      obtain ⟨xs, hx, e1⟩ := hf
      rw [show List.range 4 = [0, 1, 2, 3] from rfl, List.mapM_cons, List.mapM_cons, List.mapM_cons, List.mapM_cons, List.mapM_nil] at hx
      simp only [bind, Option.bind_eq_some_iff, pure, Option.some.injEq, A.one] at hx
      obtain ⟨y0, h0, _, ⟨y1, h1, _, ⟨y2, h2, _, ⟨y3, h3, _, rfl, rfl⟩, rfl⟩, rfl⟩, rfl⟩ := hx
      obtain ⟨a, ea, rfl, wa⟩ := DataW.trod_int he h0
      obtain ⟨b, eb, rfl, wb⟩ := DataW.trod_int he h1
      obtain ⟨c, ec, rfl, wc⟩ := DataW.trod_int he h2
      obtain ⟨f, ef, rfl, wf⟩ := DataW.trod_int he h3
      simp at ea eb ec ef
      subst ea; subst eb; subst ec; subst ef
      simp only [Prod.mk.injEq] at e1
      exact ⟨a, b, c, f, rfl, by rw [← e1.1]; rfl, by rw [← e1.2]; rfl, wa, wb, wc, wf⟩
theorem shut_arr3 (A : ArrKey P k e 3) (he : P.underlying e = some (.int q)) {a b c : Int} (wa : (Lit.int q a).wf = true) (wb : (Lit.int q b).wf = true) (wc : (Lit.int q c).wf = true) :
    DataW.Trod enc P W base sp held k (.agg #[.int q a, .int q b, .int q c]) (.agg [.lit (.int q a), .lit (.int q b), .lit (.int q c)]) [] :=
  ⟨2, by
    show DataW.trod enc P W base sp held (1 + 1) k [.int q a, .int q b, .int q c] = _
    rw [DataW.trod_step]
    unfold DataW.trodStep
    simp only [A.hu]
    rw [if_pos (by rw [A.size]; rfl), show List.range 3 = [0, 1, 2] from rfl, List.mapM_cons, List.mapM_cons, List.mapM_cons, List.mapM_nil]
    simp [A.one, DataW.trod, he, wa, wb, wc]⟩
theorem shut_arr4 (A : ArrKey P k e 4) (he : P.underlying e = some (.int q)) {a b c f : Int} (wa : (Lit.int q a).wf = true) (wb : (Lit.int q b).wf = true) (wc : (Lit.int q c).wf = true) (wf : (Lit.int q f).wf = true) :
    DataW.Trod enc P W base sp held k (.agg #[.int q a, .int q b, .int q c, .int q f]) (.agg [.lit (.int q a), .lit (.int q b), .lit (.int q c), .lit (.int q f)]) [] :=
  ⟨2, by
    show DataW.trod enc P W base sp held (1 + 1) k [.int q a, .int q b, .int q c, .int q f] = _
    rw [DataW.trod_step]
    unfold DataW.trodStep
    simp only [A.hu]
    rw [if_pos (by rw [A.size]; rfl), show List.range 4 = [0, 1, 2, 3] from rfl, List.mapM_cons, List.mapM_cons, List.mapM_cons, List.mapM_cons, List.mapM_nil]
    simp [A.one, DataW.trod, he, wa, wb, wc, wf]⟩
end
end Go.Proofs.YtijpnlmejphfhaaDoor.P
