/- PiecesSizes by hand: how many messages, and how long. No condition. -/
import Derived.Test.YtfplmoeahbjfmaaPPLaw0
namespace Go.Proofs.Ytfplmoeahbjfmaa.P
open Go Go.Proofs Go.RowKit Go.Shelf Go.Proofs.YtfplmoeahbjfmaaW.PrintWords Go.Proofs.YtfplmoeahbjfmaaW.PrintLast Go.Proofs.YtfplmoeahbjfmaaW.PrintMore
set_option linter.unusedVariables false
set_option linter.unusedSimpArgs false
attribute [local go_sem] max2_int min2_int max_two min_two

theorem modN (m : Int) (hm : 0 < m) (hm2 : m ≤ 100000) (a : Int) : ∃ N : Nat, IntKind.i64.wrap (Int.tmod (IntKind.u64.wrap a) m) = (N : Int) ∧ (N : Int) < m := by
  have h1 : 0 ≤ IntKind.u64.wrap a := by rw [IntKind.wrap_u64]; omega
  have h2 : 0 ≤ (IntKind.u64.wrap a).tmod m := Int.tmod_nonneg _ h1
  have h3 : (IntKind.u64.wrap a).tmod m < m := Int.tmod_lt_of_pos _ hm
  refine ⟨((IntKind.u64.wrap a).tmod m).toNat, ?_, by omega⟩
  rw [IntKind.wrap_i64]; omega
/-- Split of a row of our own. -/
theorem split_own (w : World) (n₀ : Nat) (ok : Nat → Prop) (v : Value) (l : List Int) (h : Kd.R (Kd.int .u8) 5 w n₀ ok v l) (hl : l.length ≤ 65536) :
    Calls Try.prog 16 #[v] w fun e w' => ∃ g c, e = .returned (.tuple #[.slice (some ⟨g, 0, none⟩) (mcount l.length) c, .int .i64 0]) ∧ Kd.R kRow 31 w' w.heap.size (fun _ => True) (.slice (some ⟨g, 0, none⟩) (mcount l.length) c) (msgs l (mcount l.length)) ∧ Below w.heap.size w w' := by
  obtain ⟨A, c, e⟩ := Kd.R_slice h
  subst e
  obtain ⟨_, hc, hC⟩ := Kd.R_reads' h
  refine (split_calls A c l w hC hc (by omega)).mono ?_
  rintro e w' ⟨v', h1, hb⟩
  rw [if_pos hl] at h1
  obtain ⟨rfl, hr⟩ := h1
  obtain ⟨g, c', e', _, _, _⟩ := Kd.R_form hr (by rw [msgs_length]; unfold mcount; omega)
  rw [msgs_length] at e'
  subst e'
  exact ⟨g, c', rfl, hr, hb⟩
set_option maxRecDepth 100000 in
set_option maxHeartbeats 4000000 in
theorem sizes_calls (a0 : Int) (w : World) : Calls Try.prog 6 #[.int .i64 a0] w fun e w' => e = .returned (.bool true) ∧ Below w.heap.size w w' := by
  have HB := Aside0.mk (Below.refl w.heap.size w)
  obtain ⟨N, hN, hN2⟩ := modN 2000 (by decide) (by decide) a0
  have hNd : decide (N ≤ 281474976710656) = true := decide_eq_true (by omega)
  go_enter Try.func6, Try.ntmps6
  go_wp2_with ((with_reducible refine gate_dst (N := 13) rfl ?_); refine Kd.R_make (Kd.int .u8) _ 5 rfl (N := 13) rfl 31 _ _ rfl (N : Int) rfl rfl Try.underlying31 (.int .u8 0) 1 u8_infoS rfl (by decide) (by omega) 0 (ok := fun _ => True) (okp := fun _ => True) rfl (fun _ hk => hk) trivial (by omega) (by omega) (Below.refl _ _) (Nat.le_refl _) ?_; intro v13 w6 ho hb hg_ hnew_; rw [Int.toNat_natCast] at ho; have HO := Aside0.mk ho; have HB1 := Aside0.mk hb; clear hg_ hnew_ ho hb)
  obtain ⟨l, hl⟩ : ∃ l, l = List.replicate N (0 : Int) := ⟨_, rfl⟩
  rw [← hl] at HO
  have hll : N = l.length := by rw [hl, List.length_replicate]
  refine (split_own _ _ _ v13 l HO.out (by omega)).mono ?_
  rintro e w7 ⟨g1, c1, rfl, hr, hb⟩
  obtain ⟨mc, hmc⟩ : ∃ mc, mc = mcount l.length := ⟨_, rfl⟩
  rw [← hmc] at hr ⊢
  have HB2 := Aside0.mk (below_step HB1.out hb)
  have HR := Aside0.mk hr
  have HMC := Aside0.mk hmc
  have HLL := Aside0.mk hll
  obtain ⟨J, hJ⟩ : ∃ J : Int, (if ((N : Int) + 62) / 63 < 1 then (1 : Int) else ((N : Int) + 62) / 63) = J := ⟨_, rfl⟩
  have hmx : ((mc : Int) != J) = false := by
    rw [bne_eq_false_iff_eq, hmc, ← hll, ← hJ]; unfold mcount; split <;> omega
  have hmc1 : 1 ≤ mc := by rw [hmc]; unfold mcount; omega
  have hmc2 : mc ≤ 40 := by rw [hmc]; unfold mcount; omega
  clear hr hb hmc hl hll HO HB1 HB
  go_wp2_with (go_at_call 17; refine (splits_calls _).mono ?_; rintro e w8 ⟨rfl, hb⟩; have HB3 := Aside0.mk (below_step HB2.out hb); have HR3 := Aside0.mk (Kd.R_below HR.out hb); clear HB2 HR hb)
  clear hmx hN hNd hJ
  go_loop [5] (fun v5 => ∃ i : Nat, v5 = .int .i64 (i : Int) ∧ i + 1 ≤ mc) (fun v5 => mc - (intOf v5).toNat)
  case atStart => exact ⟨0, by simp, by omega⟩
  case round =>
    obtain ⟨i, rfl, hi⟩ := hrel
    obtain ⟨A, c, hcell, hV⟩ := rows_get HR3.out i (by omega)
    rw [msgs_get _ _ _ (by omega)] at hcell hV
    obtain ⟨hd, hhd⟩ : ∃ hd, hd = headOf mc i := ⟨_, rfl⟩
    have hlen : (msg l i).length = (cont l i).length + 1 := rfl
    obtain ⟨ad, rfl, hc0⟩ := ReadsOf.at_ (Kd.reads_of_C (d := (0 : Int)) (Kd.V_reads' hV).2.2) 0 (by omega) (by omega)
    have hrd : rdOf 0 (msg l i) (0 : Int) = hd := by rw [hhd, HMC.out]; rfl
    rw [hrd] at hc0
    have hc1 : w8.cell? ad = some (.int .u8 hd) := hc0
    clear hc0
    have hb0 : 0 ≤ hd := by rw [hhd]; exact headOf_lt.1
    have hb1 : hd < 256 := by rw [hhd]; exact headOf_lt.2
    have hcl := cont_length l i
    by_cases hlt : i + 1 < mc
    · have hlb : decide ((i : Int) + 1 < (mc : Int)) = true := decide_eq_true (by omega)
      have hl64 : (msg l i).length = 64 := by rw [hlen, hcl]; have h1 := HMC.out; have h2 := HLL.out; unfold mcount at h1; omega
      rw [hl64] at hcell
      have h1 : (hd / 64 % 2 != 0) = false := by
        rw [bne_eq_false_iff_eq, hhd]; unfold headOf; rw [if_neg (show ¬ i + 1 = mc by omega)]; split <;> omega
      have h2 : (hd % 64 != (i : Int) % 64) = false := by
        rw [bne_eq_false_iff_eq, hhd]; unfold headOf; split <;> split <;> omega
      clear hhd hlen hrd hcl hV hl64
      go_wp2
      go_round
      case rel => exact ⟨i + 1, by simp, by omega⟩
      case measure => simp [intOf]; omega
    · have hlb : decide ((i : Int) + 1 < (mc : Int)) = false := decide_eq_false (by omega)
      obtain rfl : mc = i + 1 := by omega
      obtain ⟨n2, hn2⟩ : ∃ n2, n2 = (msg l i).length := ⟨_, rfl⟩
      rw [← hn2] at hcell
      have hl2 : ((n2 : Int) == 1 + (N : Int) - 63 * (i : Int)) = true := by rw [beq_iff_eq, hn2, hlen, hcl]; have h1 := HMC.out; have h2 := HLL.out; unfold mcount at h1; omega
      have hl3 : 0 < n2 := by rw [hn2, hlen]; omega
      have h1 : (hd / 64 % 2 == 1) = true := by
        rw [beq_iff_eq, hhd]; unfold headOf; rw [if_pos rfl]; split <;> omega
      clear hhd hlen hrd hcl hV hn2
      go_wp2_with fail
      go_ret
      exact ⟨by simp, HB3.out⟩
end Go.Proofs.Ytfplmoeahbjfmaa.P
