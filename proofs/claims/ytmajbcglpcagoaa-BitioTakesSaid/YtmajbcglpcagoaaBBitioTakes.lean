/- BitioTakes by hand: a reader and the document's list, taken from side by side. No condition. -/
import Derived.Test.YtmajbcglpcagoaaBBitioP
import Derived.Test.YtmajbcglpcagoaaBBitioR
import Derived.Test.YtmajbcglpcagoaaBBitioT
import Derived.Test.YtmajbcglpcagoaaWTab
import Derived.Test.YtmajbcglpcagoaaB22
import Derived.Test.YtmajbcglpcagoaaB23
import Derived.Test.YtmajbcglpcagoaaB24
namespace Go.Proofs.Ytmajbcglpcagoaa.B
open Go Go.RowKit Go.Proofs.YtmajbcglpcagoaaW.PrintWords Go.Proofs.YtmajbcglpcagoaaW.PrintLast Go.Proofs.YtmajbcglpcagoaaW.PrintMore
set_option linter.unusedVariables false
set_option linter.unusedSimpArgs false
attribute [local go_sem] max2_int min2_int max_two min_two max_three min_three max_four min_four

theorem u8_info3 : (Try.prog.info? 5).map (fun i => (i.zero, i.size, i.bytes)) = some (some (.int .u8 0), 1, 1) := by kernel_rfl
set_option maxRecDepth 100000 in
set_option maxHeartbeats 4000000 in
theorem takes_calls (A0 : Option Addr) (c0 : Nat) (l0 : List Int) (A1 : Option Addr) (c1 : Nat) (l1 : List Int) (sp : Int) (w : World) (hr0 : Kd.C (Kd.int .u8) w A0 l0.length l0) (hc0 : l0.length ≤ c0)
    (hr1 : Kd.C (Kd.int .i64) w A1 l1.length l1) (hc1 : l1.length ≤ c1) (hw0 : ∀ x ∈ l0, 0 ≤ x ∧ x ≤ 255) :
    Calls Try.prog 7 #[.slice A0 l0.length c0, .slice A1 l1.length c1, .int .u8 sp] w fun e w' => e = .returned (.bool true) ∧ Below w.heap.size w w' := by
  obtain ⟨i0, hi, hz0, hz1, hz2⟩ := info_parts u8_info3
  obtain ⟨J, hJ⟩ : ∃ J : Int, (if (60 : Int) < (l0.length : Int) then (60 : Int) else (l0.length : Int)) = J := ⟨_, rfl⟩
  have hJ0 : 0 ≤ J := by rw [← hJ]; split <;> omega
  have hJ1 : J ≤ (l0.length : Int) := by rw [← hJ]; split <;> omega
  have hJ2 : J ≤ 60 := by rw [← hJ]; split <;> omega
  obtain ⟨M, rfl⟩ := Int.eq_ofNat_of_zero_le hJ0
  have hJ1b : ((M : Int) ≤ (l0.length : Int)) = True := eq_true hJ1
  have hJ1c : decide ((M : Int) ≤ (l0.length : Int)) = true := decide_eq_true hJ1
  obtain ⟨hcut, hA, hCC⟩ := print_take_of (P := Try.prog) (Value.int .u8) 0 22 5 .i64 Try.underlying22 hi hz1 A0 c0 l0 (M : Int) hJ0 hJ1 hc0
  rw [Int.toNat_natCast] at hcut hA hCC
  have hlen : (l0.take M).length = M := by rw [List.length_take]; omega
  have hw1 : ∀ x ∈ l0.take M, 0 ≤ x ∧ x ≤ 255 := fun x hx => hw0 x (List.mem_of_mem_take hx)
  have HR0 := Aside0.mk (Kd.C_of_reads (h1 := fun _ => rfl) (hA _ (Kd.reads_of_C hr0)))
  have HR1 := Aside0.mk hr1
  rw [hlen] at hcut HR0
  generalize hb : l0.take M = b at hlen hw1 HR0
  clear hr0 hA hCC hr1 hb
  have HB := Aside0.mk (Below.refl w.heap.size w)
  go_enter Try.func7, Try.ntmps7
  go_wp2_with (go_at_call 20; refine (bitioTake_nil 1 _).mono ?_; rintro e w1 ⟨rfl, hb⟩; have n0 := Aside0.mk (below_step HB.out hb); clear HB hb; have HB := n0; clear n0)
  go_wp2_with (go_at_call 14; refine (puts_calls _).mono ?_; rintro e w2 ⟨rfl, hb⟩; have n0 := Aside0.mk (below_step HB.out hb); clear HB hb; have HB := n0; clear n0)
  go_wp2_with (go_at_call 22; refine (bitioLeft_nil _).mono ?_; rintro e w3 ⟨rfl, hb⟩; have n0 := Aside0.mk (below_step HB.out hb); clear HB hb; have HB := n0; clear n0)
  go_wp2_with (first | (go_at_call 21; refine (bitioPad_nil _).mono ?_; rintro e w4 ⟨rfl, hb⟩; have n0 := Aside0.mk (below_step HB.out hb); clear HB hb; have HB := n0; clear n0) | ((with_reducible refine gate_dst (N := 41) rfl ?_); refine Kd.R_lit (Kd.int .u8) _ 5 ?hg (N := 41) ?hd (xs := ([] : List Int)) (inner := []) (ok := fun _ => True) (okp := fun _ => True) ?hr ?hp (fun _ hk => hk) trivial (Below.refl _ _) (Nat.le_refl _) (by simp) ?_; (case hd => rfl); (case hg => rfl); (case hr => first | (go_simp; done) | (go_simp; rfl)); (case hp => exact (Reps.none _ _)); intro v5 w5 ho hb hg_ hnew_; clear hg_ hnew_; have n0 := Aside0.mk (Kd.R_lower ho HB.out.size); have n1 := Aside0.mk (below_step HB.out hb); clear HB hb ho; have HO := n0; have HB := n1; clear n0 n1) | ((with_reducible refine gate_builtin (b := .append) (xs := #[.tmp 41, .tmp 46]) rfl ?_); at_builtin; refine Kd.R_append_rows (Kd.int .u8) (w0 := w) w.heap.size rfl (.tmp 41) (.tmp 46) 22 5 (.int .u8 0) 1 rfl Try.underlying22 u8_info3 rfl (by decide) (by omega) v5 [] b _ _ _ (fun _ => True) (fun _ => False) rfl rfl ?aO ?aR (fun _ _ h => h) (fun _ h => h.elim) ?aF ?aB ?aS ?aL ?_; (case aR => exact Kd.C_below HR0.out HB.out); (case aB => exact HB.out); (case aF => exact (fun _ _ => trivial)); (case aO => exact HO.out); (case aS => exact HB.out.size); (case aL => simp only [List.length_nil]; omega); intro v6 w6 ho hb hg hat; rw [List.nil_append] at ho; have n0 := Aside0.mk hb; have n1 := Aside0.mk ho; clear HB HO ho hb hg hat; have HB := n0; have HO := n1; clear n0 n1; obtain ⟨Ab, cb, eb⟩ := Kd.R_slice HO.out; subst eb))
  have hbl : b.length ≤ 60 := by omega
  have hof1 := shuttleref01_Of.calls 700 Ab cb b (ofl b) w6 (Kd.R_reads' HO.out).2.2 (Kd.R_reads' HO.out).2.1 (rof_f b hw1 (by omega) 700 (by omega))
  rw [hlen] at hof1
  go_wp2_with (go_at_call 23; refine hof1.mono ?_; rintro e w7 ⟨vl, rfl, hvl, hb7⟩)
  clear hof1
  have hof2 := bitioOf_calls Ab cb b w7 (Kd.R_reads' (Kd.R_below HO.out hb7)).2.2 (Kd.R_reads' HO.out).2.1 700 (ofl b) (bof_f b hw1 (by omega) 700 (by omega))
  rw [hlen] at hof2
  go_wp2_with (go_at_call 19; refine hof2.mono ?_; rintro e w8 ⟨g, v, rfl, hg, hrs, hb8⟩)
  clear hof2
  obtain ⟨n1, hn1⟩ : ∃ n1, n1 = w6.heap.size := ⟨_, rfl⟩
  obtain ⟨n2, hn2⟩ : ∃ n2, n2 = w7.heap.size := ⟨_, rfl⟩
  have h12 : n1 ≤ n2 := by rw [hn1, hn2]; exact hb7.size
  have h01 : w.heap.size ≤ n1 := by rw [hn1]; exact HB.out.size
  have HV := Aside0.mk (Kd.V_below (Kd.V_mono (Kd.R_V (base' := 0) (Kd.R_bound hvl)) (ok' := fun k => n1 ≤ k ∧ k < n2) (fun k hk => ⟨by rw [hn1]; exact hk.2.1, by rw [hn2]; exact hk.2.2.1⟩)) hb8)
  have HOB := Aside0.mk (Kd.R_below (Kd.R_below (Kd.R_mono (Kd.R_bound HO.out) (ok' := fun k => k < n1) (fun k hk => by rw [hn1]; exact hk.2.2.1)) hb7) hb8)
  rw [← hn2] at hrs hg
  have HRS := Aside0.mk hrs
  have HB8 := Aside0.mk (below_step (below_step HB.out hb7) hb8)
  clear hvl hb7 hb8 HO HB hrs hn1 hn2 HR0
  have hob : (ofl b).length ≤ 480 := by rw [ofl_length]; omega
  have hobit : ∀ x ∈ ofl b, bit x := fun x hx => by have := ofl_bit b x hx; unfold bit; omega
  generalize ofl b = xs at HV HRS hob hobit
  have HX := Aside0.mk hobit
  clear hobit hw1
  go_loopw [12] (fun v12 wr => ∃ (i : Nat) (bs : List Int), v12 = .int .i64 (i : Int) ∧ i ≤ M ∧ Aside0 (bs.length = M) ∧ Aside0 (Kd.R (Kd.int .u8) 5 wr w.heap.size (fun k => k < n1) (.slice Ab bs.length cb) bs) ∧ Aside0 (Kd.V (Kd.int .u8) 5 wr 0 (fun k => n1 ≤ k ∧ k < n2) vl xs) ∧ Aside0 (RS wr n2 g v xs) ∧ Aside0 (Below w.heap.size w wr)) (fun v12 _ => M - (intOf v12).toNat)
  case atStart => exact ⟨0, b, by simp, by omega, ⟨hlen⟩, HOB, HV, HRS, HB8⟩
  case round =>
    obtain ⟨i, bs, rfl, hiJ, HL, HO, HV, HRS, HB⟩ := hrel
    by_cases hlt : i < M
    · have hlt1 : decide ((i : Int) < (M : Int)) = true := decide_eq_true (by omega)
      have hlt2 : decide ((i : Int) < (M : Int)) = true := decide_eq_true (by omega)
      have hlt3 : decide ((i : Int) < (M : Int)) = true := decide_eq_true (by omega)
      obtain ⟨g1, cap1, e1, hg1, hg2, _⟩ := Kd.R_form HO.out (by rw [HL.out]; omega)
      injection e1 with eA _ eC
      subst eA
      subst eC
      have hgk := HO.out.1 g1 (by simp [Value.ownBlock])
      have hcell := Kd.R_cell (0 : Int) HO.out (i : Int) (by omega) (by rw [HL.out]; omega)
      rw [Int.toNat_natCast] at hcell
      obtain ⟨hc1, hc2⟩ := hcell
      go_wp2
      obtain ⟨hput, hgr⟩ := Kd.R_put HO.out (i : Int) (Go.bits .xor .u8 (rdOf 0 bs (i : Int)) sp)
      rw [Int.toNat_natCast] at hput hgr
      go_roundw
      case rel =>
        refine ⟨i + 1, bs.set i (Go.bits .xor .u8 (rdOf 0 bs (i : Int)) sp), by simp, by omega, ⟨by rw [List.length_set]; exact HL.out⟩, ⟨by rw [List.length_set]; exact hput⟩, ⟨Kd.V_far HV.out (fun k hk => by show k ≠ g1; omega) _⟩, ⟨HRS.out.kept (fun k h1 _ => Below.heap_setCell wr _ _ k (by show k ≠ g1; omega)) (by omega)⟩, ⟨?_⟩⟩
        exact Below.trans HB.out ⟨hgr.os, hgr.tape, hgr.output, hgr.size, fun k hk => hgr.block k (by have := HB.out.size; omega) (fun e => by injection e with e; omega)⟩
      case measure => simp [intOf]; omega
    · obtain rfl : M = i := by omega
      have hlt1 : decide (((M : Nat) : Int) < (M : Int)) = false := decide_eq_false (by omega)
      have hlt2 : decide (((M : Nat) : Int) < (M : Int)) = false := decide_eq_false (by omega)
      go_wp2
      go_loopw [10, 13] (fun v10 v13 wr => ∃ (i : Nat) (ys : List Int), v13 = .int .i64 (i : Int) ∧ i ≤ 30 ∧ Aside0 (∀ x ∈ ys, bit x) ∧ ys.length ≤ 480 ∧ Aside0 (Kd.V (Kd.int .u8) 5 wr 0 (fun k => n1 ≤ k ∧ k < n2) v10 ys) ∧ (∃ v, Aside0 (RS wr n2 g v ys)) ∧ Aside0 (Below w.heap.size w wr)) (fun _ v13 _ => 30 - (intOf v13).toNat)
      case atStart => exact ⟨0, xs, by simp, by omega, HX, hob, HV, ⟨_, HRS⟩, HB⟩
      case round =>
        obtain ⟨i, ys, rfl, hi30, HY, hyl, HV, ⟨v2, HRS⟩, HB⟩ := hrel
        obtain ⟨Al, cl, rfl⟩ := Kd.V_slice HV.out
        by_cases hl1 : (i : Int) < (l1.length : Int)
        · have hl1b : decide ((i : Int) < (l1.length : Int)) = true := decide_eq_true hl1
          by_cases hl2 : i < 30
          · have hl2b : decide ((i : Int) < 30) = true := decide_eq_true (by omega)
            obtain ⟨ad, rfl, hcell⟩ := ReadsOf.at_ (Kd.reads_of_C (d := (0 : Int)) (Kd.C_below HR1.out HB.out)) (i : Int) (by omega) (by omega)
            rw [Int.toNat_natCast] at hcell
            obtain ⟨wd, hwd⟩ : ∃ wd, wd = rdOf 0 l1 (i : Int) := ⟨_, rfl⟩
            rw [← hwd] at hcell
            obtain ⟨kk, hkk⟩ : ∃ kk : Int, kk = (if tkE ys wd = 0 then wd else 0) := ⟨_, rfl⟩
            have htf := rtake_f ys HY.out wd
            have htc := bitioTake_calls n2 g v2 ys wd wr HRS.out hg
            rw [← hkk] at htf
            have hk : 0 ≤ kk ∧ kk ≤ (ys.length : Int) ∧ tkL ys wd = ys.drop kk.toNat := by
              rw [hkk]
              unfold tkL
              by_cases he : tkE ys wd = 0
              · rw [if_pos he, if_pos he]
                unfold tkE at he
                by_cases hw : bitioWidthF wd = true
                · rw [if_pos hw] at he
                  have hw2 : 1 ≤ wd ∧ wd ≤ 32 := by simpa [bitioWidthF] using hw
                  by_cases hs : (ys.length : Int) < wd
                  · rw [if_pos hs] at he; omega
                  · exact ⟨by omega, by omega, rfl⟩
                · rw [if_neg hw] at he; omega
              · rw [if_neg he, if_neg he]; exact ⟨by omega, by omega, rfl⟩
            obtain ⟨hk0, hk1, hk2⟩ := hk
            rw [hk2] at htc
            generalize tkN ys wd = tn at htf htc
            generalize tkE ys wd = te at htf htc hkk
            obtain ⟨A', hcut2, hA2, hC2⟩ := print_drop_of (P := Try.prog) (Value.int .u8) 0 22 5 .i64 Try.underlying22 hi hz1 Al cl ys kk hk0 hk1 (Kd.V_reads' HV.out).2.1
            have hk0b : decide (0 ≤ kk) = true := decide_eq_true hk0
            clear hkk hk2
            have HWD := Aside0.mk hwd
            clear hwd
            go_wp2_with fail
            refine htc.mono ?_
            rintro e w9 ⟨rfl, ⟨v3, h3⟩, hF⟩
            have HB9 := Aside0.mk (Below.trans HB.out (hF.below HB.out.size (by omega) (by simp [Value.ownBlock])))
            have HV9 := Aside0.mk (Kd.V_step HV.out (fun k ok hk => hF.at k hk (by omega)))
            have HR9 := Aside0.mk h3
            clear htc h3 hF HB HV HRS
            obtain ⟨ad2, e2, hcell2⟩ := ReadsOf.at_ (Kd.reads_of_C (d := (0 : Int)) (Kd.C_below HR1.out HB9.out)) (i : Int) (by omega) (by omega)
            rw [Int.toNat_natCast, ← HWD.out] at hcell2
            obtain rfl : ad = ad2 := by injection e2
            go_wp2_with fail
            refine (shuttleref02_Take.calls 100 Al cl ys wd tn kk te _ (Kd.V_reads' HV9.out).2.2 (Kd.V_reads' HV9.out).2.1 htf).mono ?_
            rintro e w10 ⟨rfl, hd⟩
            have hb := hd.below
            have HB10 := Aside0.mk (below_step HB9.out hb)
            have HV10 := Aside0.mk (Kd.V_below HV9.out hb)
            have HR10 := Aside0.mk (HR9.out.below hb (by omega))
            clear hd hb HB9 HV9 HR9 htf
            go_wp2_with (go_at_call 22; refine (bitioLeft_calls _ _ _ _ _ HR10.out).mono ?_; rintro e w11 ⟨rfl, hb⟩; have n0 := Aside0.mk (below_step HB10.out hb); have n1 := Aside0.mk (Kd.V_below HV10.out hb); have n2 := Aside0.mk (HR10.out.below hb (by omega)); clear HB10 HV10 HR10 hb; have HB10 := n0; have HV10 := n1; have HR10 := n2; clear n0 n1 n2)
            go_roundw
            case rel =>
              have hv : Kd.V (Kd.int .u8) 5 w11 0 (fun k => n1 ≤ k ∧ k < n2) (.slice A' (ys.drop kk.toNat).length (cl - kk.toNat)) (ys.drop kk.toNat) :=
                Kd.V_mk hC2 (Kd.F_imp (Kd.V_at HV10.out).2.2 (fun w' hw => Kd.C_of_reads (hA2 w' (Kd.reads_of_C hw))))
              refine ⟨i + 1, ys.drop kk.toNat, by simp, by omega, ⟨drop_bits HY.out _⟩, by rw [List.length_drop]; omega, ⟨?_⟩, ⟨_, HR10⟩, HB10⟩
              rw [List.length_drop] at hv
              exact hv
            case measure => simp [intOf]; omega
          · have hl2b : decide ((i : Int) < 30) = false := decide_eq_false (by omega)
            go_wp2_with fail
            have hpf := rpad_f ys (by omega)
            have hwf := weight_f ys (by omega) 2000 (by omega)
            obtain ⟨p, hp⟩ : ∃ p, p = pdE ys (wt ys ys.length) := ⟨_, rfl⟩
            obtain ⟨ql, hql⟩ : ∃ ql, ql = pdL ys (wt ys ys.length) := ⟨_, rfl⟩
            rw [← hp] at hpf
            refine (shuttleref02_Pad.calls 2000 Al cl ys p _ (Kd.V_reads' HV.out).2.2 (Kd.V_reads' HV.out).2.1 hpf).mono ?_
            rintro e w12 ⟨rfl, hd⟩
            have hb := hd.below
            have hrs2 := HRS.out.below hb (by omega)
            have hpc := bitioPad_calls n2 g v2 ys _ hrs2 (by omega) 2000 _ hwf
            rw [← hp, ← hql] at hpc
            have HB12 := Aside0.mk (below_step HB.out hb)
            have HQ := Aside0.mk hql
            have HP := Aside0.mk hp
            clear hd hb hrs2 hpf hwf hp hql
            go_wp2_with fail
            refine hpc.mono ?_
            rintro e w13 ⟨rfl, ⟨v3, h3⟩, hF⟩
            have HB13 := Aside0.mk (Below.trans HB12.out (hF.below HB12.out.size (by omega) (by simp [Value.ownBlock])))
            have HS3 := Aside0.mk h3
            clear hpc h3 hF
            by_cases hp0 : p = 0
            · have hq0 : ql = [] := by rw [HQ.out]; unfold pdL; rw [← HP.out, if_pos hp0]
              subst hp0
              subst hq0
              go_wp2_with (go_at_call 22; refine (bitioLeft_calls _ _ _ _ _ HS3.out).mono ?_; rintro e w14 ⟨rfl, hb⟩; have n0 := Aside0.mk (below_step HB13.out hb); clear HB13 hb; have HB13 := n0; clear n0)
              go_ret
              exact ⟨by simp, HB13.out⟩
            · have hq0 : ql = ys := by rw [HQ.out]; unfold pdL; rw [← HP.out, if_neg hp0]
              have hpb : (p == 0) = false := by simpa using hp0
              have hpb2 : (p != 0) = true := by simpa using hp0
              rw [hq0] at HS3
              go_wp2_with (go_at_call 22; refine (bitioLeft_calls _ _ _ _ _ HS3.out).mono ?_; rintro e w14 ⟨rfl, hb⟩; have n0 := Aside0.mk (below_step HB13.out hb); clear HB13 hb; have HB13 := n0; clear n0)
              go_ret
              exact ⟨by simp, HB13.out⟩
        · have hl1b : decide ((i : Int) < (l1.length : Int)) = false := decide_eq_false hl1
          go_wp2_with fail
          have hpf := rpad_f ys (by omega)
          have hwf := weight_f ys (by omega) 2000 (by omega)
          obtain ⟨p, hp⟩ : ∃ p, p = pdE ys (wt ys ys.length) := ⟨_, rfl⟩
          obtain ⟨ql, hql⟩ : ∃ ql, ql = pdL ys (wt ys ys.length) := ⟨_, rfl⟩
          rw [← hp] at hpf
          refine (shuttleref02_Pad.calls 2000 Al cl ys p _ (Kd.V_reads' HV.out).2.2 (Kd.V_reads' HV.out).2.1 hpf).mono ?_
          rintro e w12 ⟨rfl, hd⟩
          have hb := hd.below
          have hrs2 := HRS.out.below hb (by omega)
          have hpc := bitioPad_calls n2 g v2 ys _ hrs2 (by omega) 2000 _ hwf
          rw [← hp, ← hql] at hpc
          have HB12 := Aside0.mk (below_step HB.out hb)
          have HQ := Aside0.mk hql
          have HP := Aside0.mk hp
          clear hd hb hrs2 hpf hwf hp hql
          go_wp2_with fail
          refine hpc.mono ?_
          rintro e w13 ⟨rfl, ⟨v3, h3⟩, hF⟩
          have HB13 := Aside0.mk (Below.trans HB12.out (hF.below HB12.out.size (by omega) (by simp [Value.ownBlock])))
          have HS3 := Aside0.mk h3
          clear hpc h3 hF
          by_cases hp0 : p = 0
          · have hq0 : ql = [] := by rw [HQ.out]; unfold pdL; rw [← HP.out, if_pos hp0]
            subst hp0
            subst hq0
            go_wp2_with (go_at_call 22; refine (bitioLeft_calls _ _ _ _ _ HS3.out).mono ?_; rintro e w14 ⟨rfl, hb⟩; have n0 := Aside0.mk (below_step HB13.out hb); clear HB13 hb; have HB13 := n0; clear n0)
            go_ret
            exact ⟨by simp, HB13.out⟩
          · have hq0 : ql = ys := by rw [HQ.out]; unfold pdL; rw [← HP.out, if_neg hp0]
            have hpb : (p == 0) = false := by simpa using hp0
            have hpb2 : (p != 0) = true := by simpa using hp0
            rw [hq0] at HS3
            go_wp2_with (go_at_call 22; refine (bitioLeft_calls _ _ _ _ _ HS3.out).mono ?_; rintro e w14 ⟨rfl, hb⟩; have n0 := Aside0.mk (below_step HB13.out hb); clear HB13 hb; have HB13 := n0; clear n0)
            go_ret
            exact ⟨by simp, HB13.out⟩
end Go.Proofs.Ytmajbcglpcagoaa.B
