/- The document's Split by hand: a text's messages. No condition but lengths. -/
import Derived.Test.YtfplmoeahbjfmaaPPSplit
namespace Go.Proofs.Ytfplmoeahbjfmaa.P
open Go Go.Proofs Go.RowKit Go.Shelf Go.Proofs.YtfplmoeahbjfmaaW.PrintWords Go.Proofs.YtfplmoeahbjfmaaW.PrintLast Go.Proofs.YtfplmoeahbjfmaaW.PrintMore
set_option linter.unusedVariables false
set_option linter.unusedSimpArgs false
attribute [local go_sem] max2_int min2_int max_two min_two

set_option maxRecDepth 100000 in
set_option maxHeartbeats 8000000 in
theorem rsplit_calls (A0 : Option Addr) (c0 : Nat) (l : List Int) (w : World) (hr : Kd.C (Kd.int .u8) w A0 l.length l) (hc : l.length ≤ c0) (hl : l.length ≤ 65536) :
    Calls Try.prog 20 #[.slice A0 l.length c0] w fun e w' => ∃ v, e = .returned v ∧ Kd.R kRow 31 w' w.heap.size (fun _ => True) v (msgs l (mcount l.length)) ∧ Below w.heap.size w w' := by
  obtain ⟨mc, hmc⟩ : ∃ mc, mc = mcount l.length := ⟨_, rfl⟩
  have HMD := Aside0.mk hmc
  have HR0 := Aside0.mk hr
  have HB := Aside0.mk (Below.refl w.heap.size w)
  have hm1 : 0 < mc := by rw [hmc]; unfold mcount; omega
  have hm2 : mc ≤ 1041 := by rw [hmc]; unfold mcount; omega
  clear hmc hr
  go_enter Try.func20, Try.ntmps20
  go_wp2_with fail
  go_loopw [3, 4] (fun v3 v4 wr => ∃ (i : Nat), v4 = .int .i64 (i : Int) ∧ i ≤ mc ∧ Aside0 (Kd.R kRow 31 wr w.heap.size (fun _ => True) v3 (msgs l i)) ∧ Aside0 (Below w.heap.size w wr)) (fun _ v4 _ => mc - (intOf v4).toNat)
  case atStart => exact ⟨0, by simp, by omega, ⟨Kd.R_nil _ _ _ _ _⟩, HB⟩
  case round =>
    clear HB
    obtain ⟨i, rfl, hi, HO, HB⟩ := hrel
    have hmul : wrap64 (63 * (i : Int)) = 63 * (i : Int) := by unfold wrap64; omega
    by_cases hlt : i < mc
    · obtain ⟨z, hz⟩ : ∃ z : Bool, z = decide (i = 0) := ⟨_, rfl⟩
      obtain ⟨y, hy⟩ : ∃ y : Bool, y = decide (i + 1 = mc) := ⟨_, rfl⟩
      have hz1 : ((i : Int) == 0) = z := by rw [hz]; by_cases q : i = 0 <;> simp [q]
      have hlo : 63 * i ≤ l.length := by have := HMD.out; unfold mcount at this; omega
      have hcon : z = false → decide (63 * (i : Int) < (l.length : Int)) = true := by
        intro e
        rw [hz] at e
        have e := of_decide_eq_false e
        have := HMD.out; unfold mcount at this
        exact decide_eq_true (by omega)
      obtain ⟨J, hJ⟩ : ∃ J : Int, (if (l.length : Int) < 63 * (i : Int) + 63 then (l.length : Int) else 63 * (i : Int) + 63) = J := ⟨_, rfl⟩
      have hJ1 : 63 * (i : Int) ≤ J := by rw [← hJ]; split <;> omega
      have hJ2 : J ≤ (l.length : Int) := by rw [← hJ]; split <;> omega
      have hJ3 : J.toNat = min (63 * i + 63) l.length := by rw [← hJ]; split <;> omega
      have hy1 : decide ((l.length : Int) ≤ 63 * (i : Int) + 63) = y := by
        rw [hy]
        have := HMD.out; unfold mcount at this
        by_cases q : i + 1 = mc
        · rw [decide_eq_true q]; exact decide_eq_true (by omega)
        · rw [decide_eq_false q]; exact decide_eq_false (by omega)
      obtain ⟨i0, hi0, hz0, hsz0, hz2⟩ := info_parts u8_infoS
      obtain ⟨Ap, hcut, hA, hC⟩ := print_mid_of (P := Try.prog) (Value.int .u8) 0 31 5 .i64 .i64 Try.underlying31 hi0 hsz0 A0 c0 l (63 * (i : Int)) J (by omega) hJ1 hJ2 hc
      have ec : (l.take J.toNat).drop (63 * (i : Int)).toNat = cont l i := by
        unfold cont
        rw [show (63 * (i : Int)).toNat = 63 * i by omega, hJ3]
        congr 1
        by_cases q : 63 * i + 63 ≤ l.length
        · rw [show min (63 * i + 63) l.length = 63 * i + 63 by omega]
        · rw [show min (63 * i + 63) l.length = l.length by omega, List.take_of_length_le (by omega), List.take_of_length_le (by omega)]
      rw [ec] at hcut hA hC
      have HCP := Aside0.mk (Kd.C_of_reads (h1 := fun _ => rfl) (hA _ (Kd.reads_of_C (Kd.C_below HR0.out HB.out))))
      obtain ⟨cP, hcP⟩ : ∃ cP, cP = c0 - (63 * (i : Int)).toNat := ⟨_, rfl⟩
      rw [← hcP] at hcut hC
      have HZ := Aside0.mk hz
      have HY := Aside0.mk hy
      obtain ⟨n8, hn8⟩ : ∃ n8, n8 = wr.heap.size := ⟨_, rfl⟩
      have HN8 := Aside0.mk (show n8 ≤ wr.heap.size by omega)
      have HO8 := Aside0.mk (show ∀ k, u3.ownBlock = some k → k < n8 from fun k hk => by rw [hn8]; exact Kd.R_lt HO.out k hk)
      have HOb := Aside0.mk (Kd.R_mono (Kd.R_bound HO.out) (ok' := fun k => k < n8) (fun k ok => by rw [hn8]; exact ok.2.2.1))
      clear HO
      have HO := HOb
      clear HOb
      have HCL := Aside0.mk (show (cont l i).length ≤ 63 by rw [cont_length]; omega)
      have HLM := Aside0.mk (show i ≤ 1100 by omega)
      clear hz hy hJ1 hJ2 hJ3 ec hA hC hcP hn8 hz0 hi0 hsz0 hz2 hlo
      cases z with
      | false =>
        have hcn := hcon rfl
        clear hcon
        cases y with
        | false =>
          obtain ⟨hd, hhd⟩ : ∃ hd, hd = headOf mc i := ⟨_, rfl⟩
          have HHD := Aside0.mk hhd
          have hv : (i : Int) % 64 = hd := by rw [hhd]; unfold headOf; have h1 := of_decide_eq_false HZ.out.symm; have h2 := of_decide_eq_false HY.out.symm; rw [if_neg h1, if_neg h2]; omega
          clear hhd
          have HMSG := Aside0.mk (show msg l i = [hd] ++ cont l i by unfold msg; rw [← HMD.out, ← HHD.out]; rfl)
          go_wp2_with (first | ((with_reducible refine gate_dst (N := 45) rfl ?_); refine Kd.R_lit (Kd.int .u8) (w0 := w) w.heap.size 5 ?hg (N := 45) ?hd (xs := [hd]) (inner := [.int .u8 hd]) (ok := fun k => n8 ≤ k) (okp := fun _ => False) ?hr ?hp (fun _ hk => hk.elim) HN8.out HB.out HB.out.size (by simp) ?_; (case hd => rfl); (case hg => rfl); (case hr => first | (go_simp; done) | (go_simp; rfl)); (case hp => exact Reps.one rfl (Reps.none _ _)); intro v42 w42 ho hb hg hn; have H42 := Aside0.mk ho; have n0 := Aside0.mk hb; have n2_ := Aside0.mk (Kd.R_grown HO.out hg (fun k ok => by simp)); have n4 := Aside0.mk (Kd.C_below HCP.out (Below.of_grown hg)); have n5 := Aside0.mk (Nat.le_trans HN8.out hg.size); clear HB HO HCP HN8 ho hb hg hn; have HB := n0; have HO := n2_; have HCP := n4; have HN8 := n5; clear n0 n2_ n4 n5) | ((with_reducible refine gate_builtin (b := .append) (xs := #[.tmp 45, .tmp 46]) rfl ?_); at_builtin; refine Kd.R_append_rows (Kd.int .u8) (w0 := w) w.heap.size rfl (.tmp 45) (.tmp 46) 31 5 (.int .u8 0) 1 rfl Try.underlying31 u8_infoS rfl (by decide) (by omega) v42 [hd] (cont l i) Ap (cont l i).length cP (fun k => n8 ≤ k) (fun _ => False) rfl rfl H42.out HCP.out (fun _ _ h => h) (fun _ h => h.elim) (fun k hk => Nat.le_trans HN8.out hk) HB.out HB.out.size (by have := HCL.out; simp only [List.length_cons, List.length_nil]; omega) ?_; intro v44 w44 ho hb hg hat; have H44 := Aside0.mk ho; obtain ⟨A44, n44, c44, e44⟩ : ∃ A n c, v44 = Value.slice A n c := (by obtain ⟨A, c, e⟩ := Kd.R_slice ho; exact ⟨A, _, c, e⟩); subst e44; have n0 := Aside0.mk hb; have n2_ := Aside0.mk (Kd.R_grown HO.out hg (fun k ok e => by have := H42.out.1 k e.symm; omega)); have n5 := Aside0.mk (Nat.le_trans HN8.out hg.size); clear HB HO HCP HN8 H42 ho hb hg hat; have HB := n0; have HO := n2_; have HN8 := n5; clear n0 n2_ n5) | ((with_reducible refine gate_builtin (b := .append) (xs := #[.tmp 42, .tmp 48]) rfl ?_); at_builtin; refine Kd.R_append kRow (w0 := w) w.heap.size rfl (.tmp 42) (.tmp 48) 36 31 (.slice none 0 0) 24 rfl Try.underlying36 row_infoS rfl (by decide) (by omega) u3 (msgs l i) (msg l i) [.slice A44 n44 c44] (fun _ => True) (fun k => n8 ≤ k) rfl (by first | (go_simp; done) | (go_simp; rfl)) ⟨.slice A44 n44 c44, rfl, by rw [HMSG.out]; exact H44.out⟩ (fun k hk => ⟨trivial, fun e => by have := HO8.out k e.symm; omega⟩) (fun k hk => trivial) (Kd.R_mono HO.out (fun k hk => trivial)) HB.out HB.out.size (by have := HLM.out; simp only [msgs, List.length_map, List.length_range]; omega) ?_; intro v46 w46 ho hb hg hat; rw [← msgs_succ] at ho; have n0 := Aside0.mk hb; have n2_ := Aside0.mk ho; clear HB HO HN8 H44 ho hb hg hat; have HB := n0; have HO := n2_; clear n0 n2_) | fail)
          go_roundw
          exact ⟨i + 1, by simp, by omega, HO, HB⟩
          case measure => simp only [intOf]; omega
        | true =>
          obtain ⟨hd, hhd⟩ : ∃ hd, hd = headOf mc i := ⟨_, rfl⟩
          have HHD := Aside0.mk hhd
          have hv : (i : Int) % 64 + 64 = hd := by rw [hhd]; unfold headOf; have h1 := of_decide_eq_false HZ.out.symm; have h2 := of_decide_eq_true HY.out.symm; rw [if_neg h1, if_pos h2]; omega
          clear hhd
          have HMSG := Aside0.mk (show msg l i = [hd] ++ cont l i by unfold msg; rw [← HMD.out, ← HHD.out]; rfl)
          go_wp2_with (first | ((with_reducible refine gate_dst (N := 45) rfl ?_); refine Kd.R_lit (Kd.int .u8) (w0 := w) w.heap.size 5 ?hg (N := 45) ?hd (xs := [hd]) (inner := [.int .u8 hd]) (ok := fun k => n8 ≤ k) (okp := fun _ => False) ?hr ?hp (fun _ hk => hk.elim) HN8.out HB.out HB.out.size (by simp) ?_; (case hd => rfl); (case hg => rfl); (case hr => first | (go_simp; done) | (go_simp; rfl)); (case hp => exact Reps.one rfl (Reps.none _ _)); intro v42 w42 ho hb hg hn; have H42 := Aside0.mk ho; have n0 := Aside0.mk hb; have n2_ := Aside0.mk (Kd.R_grown HO.out hg (fun k ok => by simp)); have n4 := Aside0.mk (Kd.C_below HCP.out (Below.of_grown hg)); have n5 := Aside0.mk (Nat.le_trans HN8.out hg.size); clear HB HO HCP HN8 ho hb hg hn; have HB := n0; have HO := n2_; have HCP := n4; have HN8 := n5; clear n0 n2_ n4 n5) | ((with_reducible refine gate_builtin (b := .append) (xs := #[.tmp 45, .tmp 46]) rfl ?_); at_builtin; refine Kd.R_append_rows (Kd.int .u8) (w0 := w) w.heap.size rfl (.tmp 45) (.tmp 46) 31 5 (.int .u8 0) 1 rfl Try.underlying31 u8_infoS rfl (by decide) (by omega) v42 [hd] (cont l i) Ap (cont l i).length cP (fun k => n8 ≤ k) (fun _ => False) rfl rfl H42.out HCP.out (fun _ _ h => h) (fun _ h => h.elim) (fun k hk => Nat.le_trans HN8.out hk) HB.out HB.out.size (by have := HCL.out; simp only [List.length_cons, List.length_nil]; omega) ?_; intro v44 w44 ho hb hg hat; have H44 := Aside0.mk ho; obtain ⟨A44, n44, c44, e44⟩ : ∃ A n c, v44 = Value.slice A n c := (by obtain ⟨A, c, e⟩ := Kd.R_slice ho; exact ⟨A, _, c, e⟩); subst e44; have n0 := Aside0.mk hb; have n2_ := Aside0.mk (Kd.R_grown HO.out hg (fun k ok e => by have := H42.out.1 k e.symm; omega)); have n5 := Aside0.mk (Nat.le_trans HN8.out hg.size); clear HB HO HCP HN8 H42 ho hb hg hat; have HB := n0; have HO := n2_; have HN8 := n5; clear n0 n2_ n5) | ((with_reducible refine gate_builtin (b := .append) (xs := #[.tmp 42, .tmp 48]) rfl ?_); at_builtin; refine Kd.R_append kRow (w0 := w) w.heap.size rfl (.tmp 42) (.tmp 48) 36 31 (.slice none 0 0) 24 rfl Try.underlying36 row_infoS rfl (by decide) (by omega) u3 (msgs l i) (msg l i) [.slice A44 n44 c44] (fun _ => True) (fun k => n8 ≤ k) rfl (by first | (go_simp; done) | (go_simp; rfl)) ⟨.slice A44 n44 c44, rfl, by rw [HMSG.out]; exact H44.out⟩ (fun k hk => ⟨trivial, fun e => by have := HO8.out k e.symm; omega⟩) (fun k hk => trivial) (Kd.R_mono HO.out (fun k hk => trivial)) HB.out HB.out.size (by have := HLM.out; simp only [msgs, List.length_map, List.length_range]; omega) ?_; intro v46 w46 ho hb hg hat; rw [← msgs_succ] at ho; have n0 := Aside0.mk hb; have n2_ := Aside0.mk ho; clear HB HO HN8 H44 ho hb hg hat; have HB := n0; have HO := n2_; clear n0 n2_) | fail)
          go_roundw
          exact ⟨i + 1, by simp, by omega, HO, HB⟩
          case measure => simp only [intOf]; omega
      | true =>
        clear hcon
        cases y with
        | false =>
          obtain ⟨hd, hhd⟩ : ∃ hd, hd = headOf mc i := ⟨_, rfl⟩
          have HHD := Aside0.mk hhd
          have hv : (i : Int) % 64 + 128 = hd := by rw [hhd]; unfold headOf; have h1 := of_decide_eq_true HZ.out.symm; have h2 := of_decide_eq_false HY.out.symm; rw [if_pos h1, if_neg h2]; omega
          clear hhd
          have HMSG := Aside0.mk (show msg l i = [hd] ++ cont l i by unfold msg; rw [← HMD.out, ← HHD.out]; rfl)
          go_wp2_with (first | ((with_reducible refine gate_dst (N := 45) rfl ?_); refine Kd.R_lit (Kd.int .u8) (w0 := w) w.heap.size 5 ?hg (N := 45) ?hd (xs := [hd]) (inner := [.int .u8 hd]) (ok := fun k => n8 ≤ k) (okp := fun _ => False) ?hr ?hp (fun _ hk => hk.elim) HN8.out HB.out HB.out.size (by simp) ?_; (case hd => rfl); (case hg => rfl); (case hr => first | (go_simp; done) | (go_simp; rfl)); (case hp => exact Reps.one rfl (Reps.none _ _)); intro v42 w42 ho hb hg hn; have H42 := Aside0.mk ho; have n0 := Aside0.mk hb; have n2_ := Aside0.mk (Kd.R_grown HO.out hg (fun k ok => by simp)); have n4 := Aside0.mk (Kd.C_below HCP.out (Below.of_grown hg)); have n5 := Aside0.mk (Nat.le_trans HN8.out hg.size); clear HB HO HCP HN8 ho hb hg hn; have HB := n0; have HO := n2_; have HCP := n4; have HN8 := n5; clear n0 n2_ n4 n5) | ((with_reducible refine gate_builtin (b := .append) (xs := #[.tmp 45, .tmp 46]) rfl ?_); at_builtin; refine Kd.R_append_rows (Kd.int .u8) (w0 := w) w.heap.size rfl (.tmp 45) (.tmp 46) 31 5 (.int .u8 0) 1 rfl Try.underlying31 u8_infoS rfl (by decide) (by omega) v42 [hd] (cont l i) Ap (cont l i).length cP (fun k => n8 ≤ k) (fun _ => False) rfl rfl H42.out HCP.out (fun _ _ h => h) (fun _ h => h.elim) (fun k hk => Nat.le_trans HN8.out hk) HB.out HB.out.size (by have := HCL.out; simp only [List.length_cons, List.length_nil]; omega) ?_; intro v44 w44 ho hb hg hat; have H44 := Aside0.mk ho; obtain ⟨A44, n44, c44, e44⟩ : ∃ A n c, v44 = Value.slice A n c := (by obtain ⟨A, c, e⟩ := Kd.R_slice ho; exact ⟨A, _, c, e⟩); subst e44; have n0 := Aside0.mk hb; have n2_ := Aside0.mk (Kd.R_grown HO.out hg (fun k ok e => by have := H42.out.1 k e.symm; omega)); have n5 := Aside0.mk (Nat.le_trans HN8.out hg.size); clear HB HO HCP HN8 H42 ho hb hg hat; have HB := n0; have HO := n2_; have HN8 := n5; clear n0 n2_ n5) | ((with_reducible refine gate_builtin (b := .append) (xs := #[.tmp 42, .tmp 48]) rfl ?_); at_builtin; refine Kd.R_append kRow (w0 := w) w.heap.size rfl (.tmp 42) (.tmp 48) 36 31 (.slice none 0 0) 24 rfl Try.underlying36 row_infoS rfl (by decide) (by omega) u3 (msgs l i) (msg l i) [.slice A44 n44 c44] (fun _ => True) (fun k => n8 ≤ k) rfl (by first | (go_simp; done) | (go_simp; rfl)) ⟨.slice A44 n44 c44, rfl, by rw [HMSG.out]; exact H44.out⟩ (fun k hk => ⟨trivial, fun e => by have := HO8.out k e.symm; omega⟩) (fun k hk => trivial) (Kd.R_mono HO.out (fun k hk => trivial)) HB.out HB.out.size (by have := HLM.out; simp only [msgs, List.length_map, List.length_range]; omega) ?_; intro v46 w46 ho hb hg hat; rw [← msgs_succ] at ho; have n0 := Aside0.mk hb; have n2_ := Aside0.mk ho; clear HB HO HN8 H44 ho hb hg hat; have HB := n0; have HO := n2_; clear n0 n2_) | fail)
          go_roundw
          exact ⟨i + 1, by simp, by omega, HO, HB⟩
          case measure => simp only [intOf]; omega
        | true =>
          obtain ⟨hd, hhd⟩ : ∃ hd, hd = headOf mc i := ⟨_, rfl⟩
          have HHD := Aside0.mk hhd
          have hv : (i : Int) % 64 + 128 + 64 = hd := by rw [hhd]; unfold headOf; have h1 := of_decide_eq_true HZ.out.symm; have h2 := of_decide_eq_true HY.out.symm; rw [if_pos h1, if_pos h2]; omega
          clear hhd
          have HMSG := Aside0.mk (show msg l i = [hd] ++ cont l i by unfold msg; rw [← HMD.out, ← HHD.out]; rfl)
          go_wp2_with (first | ((with_reducible refine gate_dst (N := 45) rfl ?_); refine Kd.R_lit (Kd.int .u8) (w0 := w) w.heap.size 5 ?hg (N := 45) ?hd (xs := [hd]) (inner := [.int .u8 hd]) (ok := fun k => n8 ≤ k) (okp := fun _ => False) ?hr ?hp (fun _ hk => hk.elim) HN8.out HB.out HB.out.size (by simp) ?_; (case hd => rfl); (case hg => rfl); (case hr => first | (go_simp; done) | (go_simp; rfl)); (case hp => exact Reps.one rfl (Reps.none _ _)); intro v42 w42 ho hb hg hn; have H42 := Aside0.mk ho; have n0 := Aside0.mk hb; have n2_ := Aside0.mk (Kd.R_grown HO.out hg (fun k ok => by simp)); have n4 := Aside0.mk (Kd.C_below HCP.out (Below.of_grown hg)); have n5 := Aside0.mk (Nat.le_trans HN8.out hg.size); clear HB HO HCP HN8 ho hb hg hn; have HB := n0; have HO := n2_; have HCP := n4; have HN8 := n5; clear n0 n2_ n4 n5) | ((with_reducible refine gate_builtin (b := .append) (xs := #[.tmp 45, .tmp 46]) rfl ?_); at_builtin; refine Kd.R_append_rows (Kd.int .u8) (w0 := w) w.heap.size rfl (.tmp 45) (.tmp 46) 31 5 (.int .u8 0) 1 rfl Try.underlying31 u8_infoS rfl (by decide) (by omega) v42 [hd] (cont l i) Ap (cont l i).length cP (fun k => n8 ≤ k) (fun _ => False) rfl rfl H42.out HCP.out (fun _ _ h => h) (fun _ h => h.elim) (fun k hk => Nat.le_trans HN8.out hk) HB.out HB.out.size (by have := HCL.out; simp only [List.length_cons, List.length_nil]; omega) ?_; intro v44 w44 ho hb hg hat; have H44 := Aside0.mk ho; obtain ⟨A44, n44, c44, e44⟩ : ∃ A n c, v44 = Value.slice A n c := (by obtain ⟨A, c, e⟩ := Kd.R_slice ho; exact ⟨A, _, c, e⟩); subst e44; have n0 := Aside0.mk hb; have n2_ := Aside0.mk (Kd.R_grown HO.out hg (fun k ok e => by have := H42.out.1 k e.symm; omega)); have n5 := Aside0.mk (Nat.le_trans HN8.out hg.size); clear HB HO HCP HN8 H42 ho hb hg hat; have HB := n0; have HO := n2_; have HN8 := n5; clear n0 n2_ n5) | ((with_reducible refine gate_builtin (b := .append) (xs := #[.tmp 42, .tmp 48]) rfl ?_); at_builtin; refine Kd.R_append kRow (w0 := w) w.heap.size rfl (.tmp 42) (.tmp 48) 36 31 (.slice none 0 0) 24 rfl Try.underlying36 row_infoS rfl (by decide) (by omega) u3 (msgs l i) (msg l i) [.slice A44 n44 c44] (fun _ => True) (fun k => n8 ≤ k) rfl (by first | (go_simp; done) | (go_simp; rfl)) ⟨.slice A44 n44 c44, rfl, by rw [HMSG.out]; exact H44.out⟩ (fun k hk => ⟨trivial, fun e => by have := HO8.out k e.symm; omega⟩) (fun k hk => trivial) (Kd.R_mono HO.out (fun k hk => trivial)) HB.out HB.out.size (by have := HLM.out; simp only [msgs, List.length_map, List.length_range]; omega) ?_; intro v46 w46 ho hb hg hat; rw [← msgs_succ] at ho; have n0 := Aside0.mk hb; have n2_ := Aside0.mk ho; clear HB HO HN8 H44 ho hb hg hat; have HB := n0; have HO := n2_; clear n0 n2_) | fail)
          go_roundw
          exact ⟨i + 1, by simp, by omega, HO, HB⟩
          case measure => simp only [intOf]; omega
    · obtain rfl : mc = i := by omega
      have hcn : decide (63 * (mc : Int) < (l.length : Int)) = false := by have := HMD.out; unfold mcount at this; exact decide_eq_false (by omega)
      have hcz : ((mc : Int) == 0) = false := by rw [beq_eq_false_iff_ne]; omega
      rw [HMD.out] at HO
      go_wp2
      go_ret
      exact ⟨_, by simp, HO.out, HB.out⟩
end Go.Proofs.Ytfplmoeahbjfmaa.P
