/- The laws' own check of one count; SpectrumFirst by hand. No condition. -/
import Derived.Test.YtijpnlmejphfhaaDoorPSPlain
namespace Go.Proofs.YtijpnlmejphfhaaDoor.P
open Go Go.Proofs Go.RowKit Go.Proofs.YtijpnlmejphfhaaDoorW.PrintWords Go.Proofs.YtijpnlmejphfhaaDoorW.PrintLast Go.Proofs.YtijpnlmejphfhaaDoorW.PrintMore
set_option linter.unusedVariables false
set_option linter.unusedSimpArgs false
attribute [local go_sem] max2_int min2_int max_two min_two max_three min_three max_four min_four

theorem C_of_ints {w : World} {F n : Nat} {l : List Int} (h : w.heap[F]? = some (.cells (ints l) 3 (0, 0))) (hl : l.length = n) (hn : n ≤ 100000) : Kd.C (Kd.int .i64) w (some ⟨F, 0, none⟩) n l :=
  C_of_blk h rfl ⟨hl.symm, by omega⟩
set_option maxRecDepth 100000 in
set_option maxHeartbeats 8000000 in
theorem counts_calls {w : World} (hT : TP w) : Calls Tryd.prog 12 #[] w fun e w' => e = .returned (.bool true) ∧ Below w.heap.size w w' := by
  have HC := Aside0.mk (show Calls Tryd.prog 11 #[.agg #[.int .i64 1, .int .i64 1, .int .i64 1, .int .i64 1], .int .i64 0, .int .i64 7, .int .i64 30] w _ from count_calls hT 1 1 1 1 0 7 30 (by decide) (by decide) (by decide) (by decide))
  obtain ⟨L, hL⟩ : ∃ L, L = countL 1 1 1 1 0 7 30 := ⟨_, rfl⟩
  have hf1 := counts_are.1
  have hf2 := counts_are.2
  rw [← hL] at HC hf1 hf2
  have HF := Aside0.mk (And.intro hf1 hf2)
  clear hT hL hf1 hf2
  go_enter Tryd.func12, Tryd.ntmps12
  go_wp2_with (first
    | (go_at_call 11
       refine HC.out.mono ?_
       rintro e w1 ⟨F, rfl, hF, hl, hb⟩
       have hfi := first_calls (some ⟨F, 0, none⟩) (30 + 1) L w1 (by rw [hl]; exact C_of_ints hF hl (by omega)) (by omega)
       rw [hl, HF.out.1, HF.out.2] at hfi
       have HFI := Aside0.mk hfi
       have HB := Aside0.mk hb
       clear hF hl hb hfi HC)
    | (go_at_call 16
       refine HFI.out.mono ?_
       rintro e w2 ⟨rfl, hb⟩
       have HB2 := Aside0.mk (below_step HB.out hb)
       clear hb)
    | fail)
  go_ret
  exact ⟨by simp, HB2.out⟩
theorem i64_info3 : (Tryd.prog.info? 3).map (fun i => (i.zero, i.size, i.bytes)) = some (some (.int .i64 0), 1, 8) := by kernel_rfl
theorem firstI_next (l : List Int) (i : Nat) (h : i < l.length) : firstI (fun x => x != 0) (l.drop i) i = if l.getD i 0 ≠ 0 then (i : Int) else firstI (fun x => x != 0) (l.drop (i + 1)) (i + 1) := by
  have e : l[i] = l.getD i 0 := by rw [List.getD_eq_getElem?_getD, List.getElem?_eq_getElem h]; rfl
  rw [List.drop_eq_getElem_cons h]
  show (if (l[i] != 0) = true then (i : Int) else _) = _
  rw [e]
  by_cases c : l.getD i 0 = 0
  · rw [c, if_neg (by decide), if_neg (by decide)]
  · rw [if_pos (bne_iff_ne.mpr c), if_pos c]
set_option maxRecDepth 100000 in
set_option maxHeartbeats 8000000 in
theorem lawFirst_calls (A0 : Option Addr) (c0 : Nat) (l0 : List Int) (w : World) (hT : TP w) (hr0 : Kd.C (Kd.int .i64) w A0 l0.length l0) (hc0 : l0.length ≤ c0) :
    Calls Tryd.prog 5 #[.slice A0 l0.length c0] w fun e w' => e = .returned (.bool true) ∧ Below w.heap.size w w' := by
  obtain ⟨i0, hi, hz0, hz1, hz2⟩ := info_parts i64_info3
  obtain ⟨J, hJ⟩ : ∃ J : Int, (if (100 : Int) < (l0.length : Int) then (100 : Int) else (l0.length : Int)) = J := ⟨_, rfl⟩
  have hJ0 : 0 ≤ J := by rw [← hJ]; split <;> omega
  have hJ1 : J ≤ (l0.length : Int) := by rw [← hJ]; split <;> omega
  have hJ2 : J ≤ 100 := by rw [← hJ]; split <;> omega
  obtain ⟨M, rfl⟩ := Int.eq_ofNat_of_zero_le hJ0
  obtain ⟨hcut, hA, hCC⟩ := print_take_of (P := Tryd.prog) (Value.int .i64) 0 24 3 .i64 Tryd.underlying24 hi hz1 A0 c0 l0 (M : Int) hJ0 hJ1 hc0
  rw [Int.toNat_natCast] at hcut hA hCC
  have hlen : (l0.take M).length = M := by rw [List.length_take]; omega
  have HR := Aside0.mk (Kd.C_of_reads (h1 := fun _ => rfl) (hA _ (Kd.reads_of_C hr0)))
  rw [hlen] at hcut HR
  generalize hb : l0.take M = b at hlen HR
  have HT := Aside0.mk hT
  have HFI := Aside0.mk (fun w1 (hb : Below w.heap.size w w1) => (hlen ▸ first_calls A0 c0 b w1 (by rw [hlen]; exact Kd.C_below HR.out hb) (by omega) : Calls Tryd.prog 16 #[.slice A0 M c0] w1 fun e w' => e = .returned (.tuple #[.int .i64 (firstN b), .int .i64 (firstK b)]) ∧ Below w1.heap.size w1 w'))
  have HL := Aside0.mk hlen
  have hM : M ≤ 100 := by omega
  clear hr0 hA hCC hb hT hlen
  go_enter Tryd.func5, Tryd.ntmps5
  go_wp2_with (first
    | (go_at_call 16; refine Aside0.out ?_)
    | fail)
  refine Aside0.mk ?_
  refine (HFI.out w (Below.refl _ _)).mono ?_
  rintro e w1 ⟨rfl, hb⟩
  obtain ⟨fn, hfn⟩ : ∃ fn, fn = firstN b := ⟨_, rfl⟩
  obtain ⟨fk, hfk⟩ : ∃ fk, fk = firstK b := ⟨_, rfl⟩
  rw [← hfn, ← hfk]
  have HFN := Aside0.mk hfn
  have HFK := Aside0.mk hfk
  have HB1 := Aside0.mk hb
  clear hfn hfk hb HFI
  go_wp2_with fail
  go_loopw [5] (fun v5 wr => ∃ i : Nat, v5 = .int .i64 (i : Int) ∧ i ≤ M ∧ Aside0 (firstI (fun x => x != 0) (b.drop i) i = firstN b) ∧ Aside0 (Below w.heap.size w wr)) (fun v5 _ => M - (intOf v5).toNat)
  case atStart => exact ⟨0, by simp, by omega, ⟨rfl⟩, HB1⟩
  case round =>
    clear HB1
    obtain ⟨i, rfl, hiM, HF, HB⟩ := hrel
    by_cases hlt : i < M
    · have hlb : decide ((i : Int) < (M : Int)) = true := decide_eq_true (by omega)
      obtain ⟨ad, rfl, hcx⟩ := ReadsOf.at_ (Kd.reads_of_C (d := (0 : Int)) (Kd.C_below HR.out HB.out)) (i : Int) (by omega) (by omega)
      rw [Int.toNat_natCast] at hcx
      obtain ⟨x, hx⟩ : ∃ x, x = rdOf 0 b (i : Int) := ⟨_, rfl⟩
      have hxg : b.getD i 0 = x := by rw [hx]; unfold rdOf; rw [Int.toNat_natCast]
      rw [← hx] at hcx
      have hf := HF.out
      rw [firstI_next b i (by have := HL.out; omega), hxg] at hf
      have hiM2 : (i : Int) < (M : Int) := by omega
      by_cases hx0 : x = 0
      · have HF2 := Aside0.mk (show firstI (fun x => x != 0) (b.drop (i + 1)) (i + 1) = firstN b from by rw [← hf, if_neg (by simp [hx0])])
        subst hx0
        clear hx hxg hf HF
        go_wp2_with fail
        go_roundw
        case rel => exact ⟨i + 1, by simp, by omega, HF2, HB⟩
        case measure => simp [intOf]; omega
      · have hxb : (x != 0) = true := bne_iff_ne.mpr hx0
        rw [if_pos hx0] at hf
        have hn : fn = (i : Int) := by rw [HFN.out]; exact hf.symm
        have hk : fk = x := by rw [HFK.out]; unfold firstK; rw [← hf, if_neg (by omega), Int.toNat_natCast, hxg]
        subst hn
        subst hk
        have HC := Aside0.mk (counts_calls (TP_of HT.out HB.out))
        have hgl : (ad.add i).block < wr.heap.size := World.block_lt_of_cell? wr _ hcx
        have HCX := Aside0.mk hcx
        clear hx hxg hf HF
        go_wp2_with (first
          | (go_at_call 12
             refine HC.out.mono ?_
             rintro e w2 ⟨rfl, hb⟩
             have hcx2 := (hb.cell (p := ad.add i) hgl).trans HCX.out
             have HB2 := Aside0.mk (below_step HB.out hb)
             clear hb)
          | fail)
        go_ret
        exact ⟨by simp, HB2.out⟩
    · obtain rfl : i = M := by omega
      have hlb : decide ((i : Int) < (i : Int)) = false := decide_eq_false (by omega)
      have hf := HF.out
      rw [List.drop_eq_nil_of_le (by have := HL.out; omega)] at hf
      have hn : fn = -1 := by rw [HFN.out]; exact hf.symm
      have hk : fk = 0 := by rw [HFK.out]; unfold firstK; rw [← hf, if_pos (by show (-1 : Int) < 0; decide)]
      subst hn
      subst hk
      have HC := Aside0.mk (counts_calls (TP_of HT.out HB.out))
      clear hf HF
      go_wp2_with (first
        | (go_at_call 12
           refine HC.out.mono ?_
           rintro e w2 ⟨rfl, hb⟩
           have HB2 := Aside0.mk (below_step HB.out hb)
           clear hb)
        | fail)
      go_ret
      exact ⟨by simp, HB2.out⟩
end Go.Proofs.YtijpnlmejphfhaaDoor.P
