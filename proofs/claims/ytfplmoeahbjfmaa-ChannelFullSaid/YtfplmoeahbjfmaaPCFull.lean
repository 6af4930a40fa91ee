/- ChannelFull by hand: no more than 4096 are under way. No condition. -/
import Derived.Test.YtfplmoeahbjfmaaPCLaw0
namespace Go.Proofs.Ytfplmoeahbjfmaa.P
open Go Go.Proofs Go.RowKit Go.Shelf Go.Proofs.YtfplmoeahbjfmaaW.PrintWords Go.Proofs.YtfplmoeahbjfmaaW.PrintLast Go.Proofs.YtfplmoeahbjfmaaW.PrintMore
set_option linter.unusedVariables false
set_option linter.unusedSimpArgs false
attribute [local go_sem] max2_int min2_int max_two min_two

def fullL (k : Nat) : List Fl := List.replicate (min k 4096) ([], [], 0)
theorem fullL_put (k : Nat) : putC 0 [] (fullL k) = fullL (k + 1) := by
  unfold putC fullL
  rw [List.length_replicate]
  by_cases h : k < 4096
  · rw [if_pos (by omega), show min k 4096 = k by omega, show min (k + 1) 4096 = k + 1 by omega, List.replicate_succ']
  · rw [if_neg (by omega), show min (k + 1) 4096 = min k 4096 by omega]
theorem fullL_short (k : Nat) : Short (fullL k) := by
  intro f hf
  rw [List.eq_of_mem_replicate hf]; decide
set_option maxRecDepth 100000 in
set_option maxHeartbeats 8000000 in
theorem full_calls (a0 : Int) (w : World) : Calls Try.prog 4 #[.int .i64 a0] w fun e w' => e = .returned (.bool true) ∧ Below w.heap.size w w' := by
  obtain ⟨q, hq, hq2⟩ := modN 12 (by decide) (by decide) a0
  obtain ⟨N, hN⟩ : ∃ N : Nat, (4090 : Int) + (q : Int) = (N : Int) := ⟨4090 + q, by omega⟩
  have hN0 : 4090 ≤ (N : Int) := by omega
  have hN1 : (N : Int) < 4102 := by omega
  go_enter Try.func4, Try.ntmps4
  go_wp2_with (first | (go_at_call 10; refine (cnew_calls _ w.heap.size 9 (Nat.le_refl _) (by decide) (by decide)).mono ?_; rintro e w1 ⟨g, rfl, hg, hc, hb⟩; have H1 := Aside0.mk (CLS.mk (w0 := w) hc hb); clear hg hc hb) | (go_at_call 11; refine (flies_calls _).mono ?_; rintro e w2 ⟨rfl, hb⟩; have H2 := Aside0.mk (H1.out.below hb); clear H1 hb))
  clear hq hN
  go_loopw [6] (fun v6 wr => ∃ (i : Nat) (v : Value), v6 = .int .i64 (i : Int) ∧ i ≤ N ∧ Aside0 (CLS w wr g 9 0 v (fullL i))) (fun v6 _ => N - (intOf v6).toNat)
  case atStart => exact ⟨0, _, by simp, by omega, H2⟩
  case round =>
    clear H2
    obtain ⟨i, v, rfl, hi, HC⟩ := hrel
    by_cases hlt : i < N
    · have hlb : decide ((i : Int) < (N : Int)) = true := decide_eq_true (by omega)
      have hp := put_calls HC.out.cs none 0 [] (Kd.C_nil _ _) (by decide) (by decide)
      rw [fullL_put] at hp
      have HP := Aside0.mk hp
      clear hp
      go_wp2_with (go_at_call 12; refine HP.out.mono ?_; rintro e w3 ⟨rfl, v3, hc3, hf3, hn3⟩; have H3 := Aside0.mk (HC.out.fr hc3 hf3); clear hc3 hf3 hn3)
      go_roundw
      case rel => exact ⟨i + 1, v3, by simp, by omega, H3⟩
      case measure => simp [intOf]; omega
    · have hlb : decide ((i : Int) < (N : Int)) = false := decide_eq_false (by omega)
      obtain rfl : i = N := by omega
      have hlen : (fullL i).length = min i 4096 := List.length_replicate
      have hE : hasE (fullL i).length 0 = 0 := by unfold hasE; rw [if_pos (by rw [hlen]; omega)]
      have ht := twice_calls HC.out.cs 0 (fullL_short i)
      by_cases hsm : i < 4096
      · have e1 : twE (fullL i).length 0 = 0 := by unfold twE; rw [if_pos hE, if_pos (by rw [hlen]; omega)]
        have e2 : (twL 0 (fullL i)).length = i + 1 := by unfold twL; rw [if_pos e1, List.length_append, hlen, List.length_singleton]; omega
        rw [e1] at ht
        have HT := Aside0.mk ht
        obtain ⟨J, hJ⟩ : ∃ J : Int, (if (4096 : Int) < (i : Int) + 1 then (4096 : Int) else (i : Int) + 1) = J := ⟨_, rfl⟩
        have hJe : (((i + 1 : Nat) : Int) == J) = true := by rw [beq_iff_eq, ← hJ]; split <;> omega
        have hJe2 : ((i : Int) + 1 == J) = true := by rw [beq_iff_eq, ← hJ]; split <;> omega
        have hg6 : decide (4096 ≤ (i : Int)) = false := decide_eq_false (by omega)
        have E2 := Aside0.mk e2
        clear ht e1 hE hlen e2
        go_wp2_with (first | (go_at_call 15; refine HT.out.mono ?_; rintro e w3 ⟨rfl, v3, hc3, hf3, hn3⟩; have H3 := Aside0.mk (HC.out.fr hc3 hf3); clear hc3 hf3 hn3) | (go_at_call 14; have hcl := clen_calls H3.out.cs; rw [E2.out] at hcl; refine hcl.mono ?_; rintro e w4 ⟨rfl, rfl⟩; clear hcl))
        go_ret
        exact ⟨by simp, H3.out.bel⟩
      · have e1 : twE (fullL i).length 0 = 8 := by unfold twE; rw [if_pos hE, if_neg (by rw [hlen]; omega)]
        have e2 : (twL 0 (fullL i)).length = 4096 := by unfold twL; rw [if_neg (by rw [e1]; decide), hlen]; omega
        rw [e1] at ht
        have HT := Aside0.mk ht
        obtain ⟨J, hJ⟩ : ∃ J : Int, (if (4096 : Int) < (i : Int) + 1 then (4096 : Int) else (i : Int) + 1) = J := ⟨_, rfl⟩
        have hJe : ((4096 : Int) == J) = true := by rw [beq_iff_eq, ← hJ]; split <;> omega
        have hg6 : decide (4096 ≤ (i : Int)) = true := decide_eq_true (by omega)
        have E2 := Aside0.mk e2
        clear ht e1 hE hlen e2
        go_wp2_with (first | (go_at_call 15; refine HT.out.mono ?_; rintro e w3 ⟨rfl, v3, hc3, hf3, hn3⟩; have H3 := Aside0.mk (HC.out.fr hc3 hf3); clear hc3 hf3 hn3) | (go_at_call 14; have hcl := clen_calls H3.out.cs; rw [E2.out] at hcl; refine hcl.mono ?_; rintro e w4 ⟨rfl, rfl⟩; clear hcl))
        go_ret
        exact ⟨by simp, H3.out.bel⟩
end Go.Proofs.Ytfplmoeahbjfmaa.P
