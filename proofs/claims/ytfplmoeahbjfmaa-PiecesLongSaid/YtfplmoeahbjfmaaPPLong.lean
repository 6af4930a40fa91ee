/- PiecesLong by hand: a text too long is refused; the longest comes back. No condition. -/
import Derived.Test.YtfplmoeahbjfmaaPPLoop
namespace Go.Proofs.Ytfplmoeahbjfmaa.P
open Go Go.Proofs Go.RowKit Go.Shelf Go.Proofs.YtfplmoeahbjfmaaW.PrintWords Go.Proofs.YtfplmoeahbjfmaaW.PrintLast Go.Proofs.YtfplmoeahbjfmaaW.PrintMore
set_option linter.unusedVariables false
set_option linter.unusedSimpArgs false

set_option maxRecDepth 100000 in
set_option maxHeartbeats 4000000 in
theorem long_calls (a0 : Int) (w : World) : Calls Try.prog 5 #[.int .i64 a0] w fun e w' => e = .returned (.bool true) ∧ Below w.heap.size w w' := by
  obtain ⟨q, hq, hq2⟩ := modN 4 (by decide) (by decide) a0
  obtain ⟨N, hN⟩ : ∃ N : Nat, (65535 : Int) + (q : Int) = (N : Int) := ⟨65535 + q, by omega⟩
  have hN1 : (N : Int) < 65540 := by omega
  have hN0 : 65535 ≤ (N : Int) := by omega
  have HN := Aside0.mk hN
  go_enter Try.func5, Try.ntmps5
  go_wp2_with ((with_reducible refine gate_dst (N := 18) rfl ?_); refine Kd.R_make (Kd.int .u8) _ 5 rfl (N := 18) rfl 31 _ _ rfl (N : Int) rfl rfl Try.underlying31 (.int .u8 0) 1 u8_infoS rfl (by decide) (by omega) 0 (ok := fun _ => True) (okp := fun _ => True) rfl (fun _ hk => hk) trivial (by omega) (by omega) (Below.refl _ _) (Nat.le_refl _) ?_; intro v13 w6 ho hb hg_ hnew_; rw [Int.toNat_natCast] at ho; have HO := Aside0.mk ho; have HB1 := Aside0.mk hb; clear hg_ hnew_ ho hb)
  obtain ⟨l, hl⟩ : ∃ l, l = List.replicate N (0 : Int) := ⟨_, rfl⟩
  rw [← hl] at HO
  have hll : l.length = N := by rw [hl, List.length_replicate]
  clear hl hq hN
  by_cases hbig : N ≤ 65536
  · refine (split_own _ _ _ v13 l HO.out (by omega)).mono ?_
    rintro e w7 ⟨g1, c1, rfl, hr, hb⟩
    obtain ⟨mc, hmc⟩ : ∃ mc, mc = mcount l.length := ⟨_, rfl⟩
    rw [← hmc] at hr ⊢
    have HB2 := Aside0.mk (below_step HB1.out hb)
    have HR := Aside0.mk (Kd.R_lower hr HB1.out.size)
    have HMC := Aside0.mk hmc
    have HLL := Aside0.mk hll
    have hNb : decide ((N : Int) ≤ 65536) = true := decide_eq_true (by omega)
    have hmc2 : mc ≤ 1100 := by rw [hmc]; unfold mcount; omega
    have hq1 : ((mc : Int) == ((N : Int) + 62) / 63) = true := by rw [beq_iff_eq, hmc, hll]; unfold mcount; omega
    clear hr hb hmc hll HO HB1
    go_wp2_with (go_at_call 17; refine (splits_calls _).mono ?_; rintro e w8 ⟨rfl, hb⟩; have HB3 := Aside0.mk (below_step HB2.out hb); have HR3 := Aside0.mk (Kd.R_below HR.out hb); clear HB2 HR hb; go_wp2_with (go_at_call 18; refine (new_calls _ w.heap.size HB3.out.size).mono ?_; rintro e w9 ⟨g, rfl, hg, hj, hb⟩; have HLS := Aside0.mk (LS.new (w0 := w) (l := l) (by rw [← HMC.out]; exact HR3.out) HB3.out hj hg hb); clear hg hj hb HR3 HB3))
    go_loopw [7] (fun v7 wr => ∃ (i : Nat) (u : Bool) (v : Value) (xs : List Int) (nx : Int), v7 = .int .i64 (i : Int) ∧ i ≤ mc ∧ Aside0 (At l u xs nx i) ∧ Aside0 (i = 0 → u = false) ∧ Aside0 (LS w wr g u v xs nx 0 (.slice (some ⟨g1, 0, none⟩) mc c1) l)) (fun v7 _ => mc - (intOf v7).toNat)
    case atStart => exact ⟨0, false, _, _, _, by simp, by omega, ⟨At.zero _ _ _ _ (by decide) (by decide)⟩, ⟨fun _ => rfl⟩, HLS⟩
    case round =>
      clear HLS
      obtain ⟨i, u, v, xs, nx, rfl, hi, HAT, HU, HLS⟩ := hrel
      by_cases hlt : i < mc
      · have hlb : decide ((i : Int) < (mc : Int)) = true := decide_eq_true (by omega)
        obtain ⟨A, n, c, hcell, hn, hct⟩ := HLS.out.takes HAT.out hlt (by rw [HLL.out]; exact hbig) (by decide) (by decide)
        rw [← HMC.out] at hct
        obtain ⟨y, hy⟩ : ∃ y : Bool, y = decide (i + 1 = mc) := ⟨_, rfl⟩
        rw [← hy] at hct
        have HCT := Aside0.mk hct
        have HY := Aside0.mk hy
        have hyi : ((i : Int) == (mc : Int) - 1) = y := by
          rw [hy]
          by_cases q : i + 1 = mc
          · rw [decide_eq_true q, beq_iff_eq]; omega
          · rw [decide_eq_false q, beq_eq_false_iff_ne]; omega
        clear hct hn hy
        go_wp2_with fail
        refine HCT.out.mono ?_
        rintro e w10 ⟨t, v', rfl, ht, hls, hs, hf, hnw⟩
        have hat := HAT.out.step (by rw [← HMC.out]; exact hlt) (by rw [HLL.out]; exact hbig)
        rw [← HMC.out, ← HY.out] at hat
        have hb0 : bd1 u i 0 = 0 := by unfold bd1; rw [if_neg (fun e => by have := HU.out e.1; rw [e.2] at this; cases this)]
        rw [hb0] at hls
        obtain ⟨At_, ct_, et⟩ := Kd.R_slice ht
        subst et
        have HLS2 := Aside0.mk hls
        have HAT2 := Aside0.mk hat
        obtain ⟨n6, hn6⟩ : ∃ n6, n6 = (if i + 1 = mc then l else []).length := ⟨_, rfl⟩
        rw [← hn6]
        have hn6y : y = true → ((n6 : Int) != (N : Int)) = false := by
          intro e
          rw [HY.out] at e
          rw [hn6, if_pos (of_decide_eq_true e), HLL.out]; simp
        clear hls hat hs hf hnw hb0 hn6 ht HCT HLS HAT hcell
        cases y with
        | false =>
          clear hn6y
          go_wp2
          go_roundw
          case rel => exact ⟨i + 1, _, _, _, _, by simp, by omega, HAT2, ⟨fun e => by omega⟩, HLS2⟩
          case measure => simp [intOf]; omega
        | true =>
          have hn6z := hn6y rfl
          clear hn6y
          go_wp2
          go_roundw
          case rel => exact ⟨i + 1, _, _, _, _, by simp, by omega, HAT2, ⟨fun e => by omega⟩, HLS2⟩
          case measure => simp [intOf]; omega
      · have hlb : decide ((i : Int) < (mc : Int)) = false := decide_eq_false (by omega)
        go_wp2
        go_ret
        exact ⟨by simp [hq1], HLS.out.bel⟩
  · have hNb : decide ((N : Int) ≤ 65536) = false := decide_eq_false (by omega)
    obtain ⟨A, c, e⟩ := Kd.R_slice HO.out
    subst e
    obtain ⟨_, hc, hC⟩ := Kd.R_reads' HO.out
    refine (split_calls A c l _ hC hc (by omega)).mono ?_
    rintro e w7 ⟨v', h1, hb⟩
    rw [if_neg (by omega)] at h1
    subst h1
    have HB2 := Aside0.mk (below_step HB1.out hb)
    clear HO HB1 hb hC
    go_wp2_with (go_at_call 17; refine (splits_calls _).mono ?_; rintro e w8 ⟨rfl, hb⟩; have HB3 := Aside0.mk (below_step HB2.out hb); clear HB2 hb)
    go_ret
    exact ⟨by simp, HB3.out⟩
end Go.Proofs.Ytfplmoeahbjfmaa.P
