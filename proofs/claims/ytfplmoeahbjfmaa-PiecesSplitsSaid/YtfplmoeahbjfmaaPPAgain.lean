/- PiecesAgain by hand: texts that come whole, one behind the other, are told. No condition. -/
import Derived.Test.YtfplmoeahbjfmaaPPLoop
import Derived.Test.YtfplmoeahbjfmaaP15
namespace Go.Proofs.Ytfplmoeahbjfmaa.P
open Go Go.Proofs Go.RowKit Go.Shelf Go.Proofs.YtfplmoeahbjfmaaW.PrintWords Go.Proofs.YtfplmoeahbjfmaaW.PrintLast Go.Proofs.YtfplmoeahbjfmaaW.PrintMore
set_option linter.unusedVariables false
set_option linter.unusedSimpArgs false

theorem text_some (x0 : Int) : ∀ (k : Nat) (x5 : List Int) (i : Nat), i ≤ x5.length → x5.length < k + i → x5.length ≤ 1000 → ∃ r, shuttlelaw34_text.l0 k x0 x5 (i : Int) = some r ∧ r.length = x5.length := by
  intro k
  induction k with
  | zero => intro x5 i h1 h2; omega
  | succ k ih =>
    intro x5 i h1 h2 h3
    unfold shuttlelaw34_text.l0
    by_cases hlt : (i : Int) < (x5.length : Int)
    · rw [if_pos hlt, if_pos (by omega), show wrap64 ((i : Int) + 1) = ((i + 1 : Nat) : Int) by unfold wrap64; omega]
      obtain ⟨r, hr, hl⟩ := ih (x5.set (i : Int).toNat ((x0 + ((wrap64 ((i : Int) * (i : Int))) % 256)) % 256)) (i + 1) (by rw [List.length_set]; omega) (by rw [List.length_set]; omega) (by rw [List.length_set]; omega)
      exact ⟨r, hr, by rw [hl, List.length_set]⟩
    · rw [if_neg hlt]; exact ⟨x5, rfl, rfl⟩
theorem text_calls (a0 a1 : Int) (w : World) : Calls Try.prog 21 #[.int .u8 a0, .int .i64 a1] w fun e w' => ∃ v r, e = .returned v ∧ r.length < 300 ∧ Kd.R (Kd.int .u8) 5 w' w.heap.size (fun _ => True) v r ∧ Below w.heap.size w w' := by
  obtain ⟨N, hN, hN2⟩ := modN 300 (by decide) (by decide) a1
  have hN' : wrap64 (Int.tmod (IntKind.u64.wrap (a1)) 300) = (N : Int) := (i64_w _).symm.trans hN
  obtain ⟨r, hr, hl⟩ := text_some a0 400 (List.replicate N 0) 0 (by omega) (by rw [List.length_replicate]; omega) (by rw [List.length_replicate]; omega)
  rw [List.length_replicate] at hl
  refine (shuttlelaw34_text.calls 400 a0 a1 r w ?_).mono ?_
  · unfold shuttlelaw34_text.f
    rw [hN', if_pos (by omega), Int.toNat_natCast, if_pos (by omega)]
    exact hr
  · rintro e w' ⟨v, rfl, h, hb⟩
    exact ⟨v, r, rfl, by omega, h, hb⟩
/-- The document's Split of a row of our own. -/
theorem rsplit_own (w : World) (n₀ : Nat) (ok : Nat → Prop) (v : Value) (l : List Int) (h : Kd.R (Kd.int .u8) 5 w n₀ ok v l) (hl : l.length ≤ 65536) :
    Calls Try.prog 20 #[v] w fun e w' => ∃ g c, e = .returned (.slice (some ⟨g, 0, none⟩) (mcount l.length) c) ∧ Kd.R kRow 31 w' w.heap.size (fun _ => True) (.slice (some ⟨g, 0, none⟩) (mcount l.length) c) (msgs l (mcount l.length)) ∧ Below w.heap.size w w' := by
  obtain ⟨A, c, e⟩ := Kd.R_slice h
  subst e
  obtain ⟨_, hc, hC⟩ := Kd.R_reads' h
  refine (rsplit_calls A c l w hC hc hl).mono ?_
  rintro e w' ⟨v', rfl, hr, hb⟩
  obtain ⟨g, c', e', _, _, _⟩ := Kd.R_form hr (by rw [msgs_length]; unfold mcount; omega)
  rw [msgs_length] at e'
  subst e'
  exact ⟨g, c', rfl, hr, hb⟩
set_option maxRecDepth 100000 in
set_option maxHeartbeats 8000000 in
theorem again_calls (A0 : Option Addr) (c0 : Nat) (l0 : List Int) (a1 : Int) (w : World) (hr0 : Kd.C (Kd.int .i64) w A0 l0.length l0) (hc0 : l0.length ≤ c0) :
    Calls Try.prog 7 #[.slice A0 l0.length c0, .int .i64 a1] w fun e w' => e = .returned (.bool true) ∧ Below w.heap.size w w' := by
  have HR0 := Aside0.mk hr0
  clear hr0
  go_enter Try.func7, Try.ntmps7
  go_wp2_with (go_at_call 18; refine (new_calls _ w.heap.size (Nat.le_refl _)).mono ?_; rintro e w1 ⟨g, rfl, hg, hj, hb⟩; have HJ1 := Aside0.mk hj; have HB1 := Aside0.mk hb; clear hg hj hb; go_wp2_with (go_at_call 17; refine (splits_calls _).mono ?_; rintro e w2 ⟨rfl, hb⟩; have HJ2 := Aside0.mk (HJ1.out.below hb); have HB2 := Aside0.mk (below_step HB1.out hb); clear HB1 HJ1 hb; go_wp2_with (go_at_call 21; refine (text_calls 5 299 _).mono ?_; rintro e w3 ⟨v3, l, rfl, hl3, hr3, hb⟩; have HJ3 := Aside0.mk (HJ2.out.below hb); have HB3 := Aside0.mk (below_step HB2.out hb); have HR3 := Aside0.mk hr3; clear HB2 HJ2 hb hr3; go_wp2_with (go_at_call 20; refine (rsplit_own _ _ _ v3 l HR3.out (by omega)).mono ?_; rintro e w4 ⟨gr, c4, rfl, hr4, hb⟩; have HLS := Aside0.mk (LS.row_new (l := l) HJ3.out HB3.out hr4 hb); clear hr4 hb HR3 HJ3 HB3; obtain ⟨mc, hmc⟩ : ∃ mc, mc = mcount l.length := ⟨_, rfl⟩; rw [← hmc] at HLS ⊢; have HMC := Aside0.mk hmc; have hmc1 : 0 < mc := (by rw [hmc]; unfold mcount; omega); have hmc2 : mc ≤ 1100 := (by rw [hmc]; unfold mcount; omega); obtain ⟨q, hq, hq2⟩ := modN (mc : Int) (by omega) (by omega) a1; clear hmc))))
  clear hq
  have hq3 : q < mc := by omega
  have HL3 := Aside0.mk hl3
  clear hq2 hl3
  go_loopw [8] (fun v8 wr => ∃ (i : Nat) (u : Bool) (v : Value) (xs : List Int) (nx : Int), v8 = .int .i64 (i : Int) ∧ i ≤ q ∧ Aside0 (At l u xs nx i) ∧ Aside0 (i = 0 → u = false) ∧ Aside0 (LS w wr g u v xs nx 0 (.slice (some ⟨gr, 0, none⟩) mc c4) l)) (fun v8 _ => q - (intOf v8).toNat)
  case atStart => exact ⟨0, false, _, _, _, by simp, by omega, ⟨At.zero _ _ _ _ (by decide) (by decide)⟩, ⟨fun _ => rfl⟩, HLS⟩
  case round =>
    clear HLS
    obtain ⟨i, u, v, xs, nx, rfl, hi, HAT, HU, HLS⟩ := hrel
    by_cases hlt : i < q
    · have hlb : decide ((i : Int) < (q : Int)) = true := decide_eq_true (by omega)
      obtain ⟨A, n, c, hcell, hn, hct⟩ := HLS.out.takes HAT.out (by omega) (by have := HL3.out; omega) (by decide) (by decide)
      have HCT := Aside0.mk hct
      clear hct hn
      go_wp2_with fail
      refine HCT.out.mono ?_
      rintro e w10 ⟨t, v', rfl, ht, hls, hs, hf, hnw⟩
      have hat := HAT.out.step (by rw [← HMC.out]; omega) (by have := HL3.out; omega)
      have hb0 : bd1 u i 0 = 0 := by unfold bd1; rw [if_neg (fun e => by have := HU.out e.1; rw [e.2] at this; cases this)]
      rw [hb0] at hls
      have HLS2 := Aside0.mk hls
      have HAT2 := Aside0.mk hat
      clear hls hat hs hf hnw hb0 ht HCT HLS HAT hcell
      go_wp2
      go_roundw
      case rel => exact ⟨i + 1, _, _, _, _, by simp, by omega, HAT2, ⟨fun e => by omega⟩, HLS2⟩
      case measure => simp [intOf]; omega
    · have hlb : decide ((i : Int) < (q : Int)) = false := decide_eq_false (by omega)
      have HJ5 := Aside0.mk HLS.out.js
      have HB5 := Aside0.mk HLS.out.bel
      have hn0 := HAT.out.n0
      have hn1 := HAT.out.n1
      clear HLS HAT HU HL3 HMC hmc1 hmc2 hi hq3
      go_wp2
      go_loopw [9] (fun v9 wr => ∃ (i : Nat) (u : Bool) (v : Value) (xs : List Int) (nx bd : Int), v9 = .int .i64 (i : Int) ∧ i ≤ 8 ∧ Aside0 (JS wr w.heap.size g u v xs nx bd) ∧ Aside0 (Below w.heap.size w wr) ∧ 0 ≤ nx ∧ nx ≤ 1000000 ∧ 0 ≤ bd ∧ bd ≤ 1 ∧ (u = true → bd = 0)) (fun v9 _ => 8 - (intOf v9).toNat)
      case atStart => exact ⟨0, _, _, _, _, _, by simp, by omega, HJ5, HB5, hn0, hn1, by decide, by decide, fun _ => rfl⟩
      case round =>
        clear HJ5 HB5 hn0 hn1
        obtain ⟨i, u, v, xs, nx, bd, rfl, hi, HJ, HB, hn0, hn1, hbd0, hbd1, hub⟩ := hrel
        by_cases hlt : i < l0.length
        · have hlb : decide ((i : Int) < (l0.length : Int)) = true := decide_eq_true (by omega)
          by_cases hlt8 : i < 8
          · have hlb8 : decide ((i : Int) < 8) = true := decide_eq_true (by omega)
            obtain ⟨ad, rfl, hcell⟩ := ReadsOf.at_ (Kd.reads_of_C (d := (0 : Int)) (Kd.C_below HR0.out HB.out)) (i : Int) (by omega) (by omega)
            rw [Int.toNat_natCast] at hcell
            have HUB := Aside0.mk (And.intro (And.intro hbd0 hbd1) hub)
            have HNX := Aside0.mk (And.intro hn0 hn1)
            clear hub hbd0 hbd1 hn0 hn1
            have HJ0 := Aside0.mk HJ.out
            have HB0 := Aside0.mk HB.out.size
            go_wp2_with (go_at_call 21; refine (text_calls _ _ _).mono ?_; rintro e w3 ⟨v3, l, rfl, hl3, hr3, hb⟩; have HJ3 := Aside0.mk (HJ.out.below hb); have HB3 := Aside0.mk (below_step HB.out hb); have HR3 := Aside0.mk hr3; clear HB HJ hb hr3; go_wp2_with (go_at_call 16; refine (split_own _ _ _ v3 l HR3.out (by omega)).mono ?_; rintro e w4 ⟨gr, c4, rfl, hr4, hb⟩; have HLS := Aside0.mk (LS.row_new (l := l) HJ3.out HB3.out hr4 hb); obtain ⟨mc, hmc⟩ : ∃ mc, mc = mcount l.length := ⟨_, rfl⟩; rw [← hmc] at HLS ⊢; have HMC := Aside0.mk hmc; have hmc1 : 0 < mc := (by rw [hmc]; unfold mcount; omega); have hmc2 : mc ≤ 1100 := (by rw [hmc]; unfold mcount; omega); clear hmc))
            have hT := Kd.R_mono (Kd.R_bound HR3.out) (ok' := fun k => k ≠ g ∧ some k ≠ v.ownBlock) (fun k ok => ⟨by have := ok.2.1; have := HJ0.out.lt; omega, fun e => by have := (HJ0.out.own k e.symm).2; have := ok.2.1; omega⟩)
            have HT := Aside0.mk (Kd.R_below (Kd.R_lower hT HB0.out) hb)
            have HL := Aside0.mk hl3
            clear hT hr4 hb HR3 HJ3 HB3 hl3 hcell HJ0 HB0
            go_loopw [13] (fun v13 wr => ∃ (k : Nat) (u : Bool) (v : Value) (xs : List Int) (nx bd : Int), v13 = .int .i64 (k : Int) ∧ k ≤ mc ∧ Aside0 (At l u xs nx k) ∧ Aside0 ((0 ≤ bd ∧ bd ≤ 1) ∧ (k = 0 → u = true → bd = 0)) ∧ Aside0 (LS w wr g u v xs nx bd (.slice (some ⟨gr, 0, none⟩) mc c4) l) ∧ Aside0 (Kd.R (Kd.int .u8) 5 wr w.heap.size (fun k => k ≠ g ∧ some k ≠ v.ownBlock) v3 l)) (fun v13 _ => mc - (intOf v13).toNat)
            case atStart => exact ⟨0, u, v, xs, nx, bd, by simp, by omega, ⟨At.zero _ _ _ _ HNX.out.1 HNX.out.2⟩, ⟨HUB.out.1, fun _ => HUB.out.2⟩, HLS, HT⟩
            case round =>
              clear HLS HT HUB HNX
              obtain ⟨k, u, v, xs, nx, bd, rfl, hk, HAT, HUB, HLS, HT⟩ := hrel
              by_cases hkl : k < mc
              · have hkb : decide ((k : Int) < (mc : Int)) = true := decide_eq_true (by omega)
                obtain ⟨A, n, c, hcell, hn, hct⟩ := HLS.out.takes HAT.out hkl (by have := HL.out; omega) HUB.out.1.1 (by have := HUB.out.1.2; omega)
                rw [← HMC.out] at hct
                obtain ⟨y, hy⟩ : ∃ y : Bool, y = decide (k + 1 = mc) := ⟨_, rfl⟩
                rw [← hy] at hct
                have HCT := Aside0.mk hct
                have HY := Aside0.mk hy
                have hyi : ((k : Int) == (mc : Int) - 1) = y := by
                  rw [hy]
                  by_cases q : k + 1 = mc
                  · rw [decide_eq_true q, beq_iff_eq]; omega
                  · rw [decide_eq_false q, beq_eq_false_iff_ne]; omega
                clear hct hn hy
                go_wp2_with fail
                refine HCT.out.mono ?_
                rintro e w10 ⟨t, v', rfl, ht, hls, hs, hf, hnw⟩
                have hat := HAT.out.step (by rw [← HMC.out]; exact hkl) (by have := HL.out; omega)
                rw [← HMC.out, ← HY.out] at hat
                have hbd : (0 ≤ bd1 u k bd ∧ bd1 u k bd ≤ 1) := by
                  have h1 := HUB.out
                  unfold bd1; split
                  · rename_i e; have := h1.2 e.1 e.2; omega
                  · exact h1.1
                have HLS2 := Aside0.mk hls
                have HAT2 := Aside0.mk hat
                have HBD2 := Aside0.mk hbd
                have HT2 := Aside0.mk (Kd.R_fr HT.out hf hnw)
                have hcv2 := own_string (P := Try.prog) Try.underlying31 Try.underlying5 Try.underlying9 (Kd.own_of_R HT2.out)
                have hty : y = true → (convert 31 9 t).run Try.prog w10 = .ok (.string (strOfNums l)) w10 := by
                  intro e
                  rw [HY.out] at e
                  rw [if_pos (of_decide_eq_true e)] at ht
                  exact own_string (P := Try.prog) Try.underlying31 Try.underlying5 Try.underlying9 (Kd.own_of_R ht)
                clear hls hat hs hf hnw hbd ht HCT HLS HAT HUB HT hcell
                cases y with
                | false =>
                  clear hty hcv2
                  go_wp2
                  go_roundw
                  case rel => exact ⟨k + 1, _, _, _, _, _, by simp, by omega, HAT2, ⟨HBD2.out, fun e => by omega⟩, HLS2, HT2⟩
                  case measure => simp [intOf]; omega
                | true =>
                  have htz := hty rfl
                  clear hty
                  go_wp2
                  go_roundw
                  case rel => exact ⟨k + 1, _, _, _, _, _, by simp, by omega, HAT2, ⟨HBD2.out, fun e => by omega⟩, HLS2, HT2⟩
                  case measure => simp [intOf]; omega
              · have hkb : decide ((k : Int) < (mc : Int)) = false := decide_eq_false (by omega)
                obtain rfl : mc = k := by omega
                have HFI := Aside0.mk (HAT.out.fin HMC.out)
                have HN := Aside0.mk (And.intro HAT.out.n0 HAT.out.n1)
                clear HT HL HAT
                go_wp2
                go_roundw
                case rel => exact ⟨i + 1, _, _, _, _, _, by simp, by omega, ⟨HLS.out.js⟩, ⟨HLS.out.bel⟩, HN.out.1, HN.out.2, HUB.out.1.1, HUB.out.1.2, fun e => by rw [HFI.out.1] at e; cases e⟩
                case measure => simp [intOf]; omega
          · have hlb8 : decide ((i : Int) < 8) = false := decide_eq_false (by omega)
            go_wp2_with (go_at_call 22; refine (bad_calls _ _ _ _ _ _ _ _ HJ.out).mono ?_; rintro e w3 ⟨rfl, rfl⟩)
            go_ret
            exact ⟨by simp, HB.out⟩
        · have hlb : decide ((i : Int) < (l0.length : Int)) = false := decide_eq_false (by omega)
          go_wp2_with (go_at_call 22; refine (bad_calls _ _ _ _ _ _ _ _ HJ.out).mono ?_; rintro e w3 ⟨rfl, rfl⟩)
          go_ret
          exact ⟨by simp, HB.out⟩
end Go.Proofs.Ytfplmoeahbjfmaa.P
