/- ChannelAges by hand: the walk. No condition. -/
import Derived.Test.YtfplmoeahbjfmaaPCAges
namespace Go.Proofs.Ytfplmoeahbjfmaa.P
open Go Go.Proofs Go.RowKit Go.Shelf Go.Proofs.YtfplmoeahbjfmaaW.PrintWords Go.Proofs.YtfplmoeahbjfmaaW.PrintLast Go.Proofs.YtfplmoeahbjfmaaW.PrintMore
set_option linter.unusedVariables false
set_option linter.unusedSimpArgs false

theorem below_set0_ {n₀ : Nat} {w : World} {g i : Nat} {x : Value} (hg : n₀ ≤ g) : Below n₀ w (w.setCell ⟨g, i, none⟩ x) :=
  ⟨rfl, rfl, rfl, by simp, fun k hk => Below.heap_setCell w ⟨g, i, none⟩ x k (by show k ≠ g; omega)⟩
structure AS (w0 w : World) (g b8 : Nat) (age now : Int) (v : Value) (L : List Fl) (arr : Array Value) : Prop where
  cl : CLS w0 w g age now v L
  blk : w.heap[b8]? = some (.cells arr 29 (0, 0))
  low : w0.heap.size ≤ b8
variable {w0 w w' : World} {g b8 : Nat} {age now now' : Int} {v v' : Value} {L L' : List Fl} {arr : Array Value}
theorem AS.ne (h : AS w0 w g b8 age now v L arr) : b8 ≠ g ∧ some b8 ≠ v.ownBlock := by
  refine ⟨fun e => ?_, fun e => ?_⟩
  · have hb := h.cl.cs.blk; rw [← e, h.blk] at hb; injection hb with hb; injection hb with _ hb; exact absurd hb (by decide)
  · obtain ⟨c2, h2⟩ := Kd.R_typed h.cl.cs.row b8 e.symm; rw [h.blk] at h2; injection h2 with h2; injection h2 with _ h2; exact absurd h2 (by decide)
theorem AS.below (h : AS w0 w g b8 age now v L arr) (hb : Below w.heap.size w w') : AS w0 w' g b8 age now v L arr := ⟨h.cl.below hb, (hb.block b8 (blk_lt h.blk)).trans h.blk, h.low⟩
theorem AS.fr (h : AS w0 w g b8 age now v L arr) (hc : CS w' w0.heap.size g age now' v' L') (hf : Fr g v w w') : AS w0 w' g b8 age now' v' L' arr :=
  ⟨h.cl.fr hc hf, (hf.block b8 (blk_lt h.blk) h.ne.1 h.ne.2).trans h.blk, h.low⟩
theorem AS.put (h : AS w0 w g b8 age now v L arr) (i : Nat) (x : Value) : AS w0 (w.setCell ⟨b8, i, none⟩ x) g b8 age now v L (arr.setIfInBounds i x) := by
  have hne := h.ne
  refine ⟨⟨⟨(Below.heap_setCell w ⟨b8, i, none⟩ x g hne.1.symm).trans h.cl.cs.blk, Kd.R_set h.cl.cs.row h.blk (by decide) i x, h.cl.cs.low⟩, ?_⟩, blk_put h.blk i x rfl, h.low⟩
  exact h.cl.bel.trans (below_set0_ h.low)
def Arr (l : List Int) (t : Nat) (arr : Array Value) : Prop := ∀ j, j < 60 → arr[j]? = some (.int .i64 (if j < t then (pf l j : Int) else 0))
set_option maxRecDepth 100000 in
set_option maxHeartbeats 8000000 in
theorem ages_calls (a0 : Int) (A1 : Option Addr) (c1 : Nat) (l1 : List Int) (w : World) (hr1 : Kd.C (Kd.int .i64) w A1 l1.length l1) (hc1 : l1.length ≤ c1) :
    Calls Try.prog 3 #[.int .i64 a0, .slice A1 l1.length c1] w fun e w' => e = .returned (.bool true) ∧ Below w.heap.size w w' := by
  obtain ⟨q, hq, hq2⟩ := modN 20 (by decide) (by decide) a0
  obtain ⟨n, hn⟩ : ∃ n : Nat, (1 : Int) + (q : Int) = (n : Int) := ⟨1 + q, by omega⟩
  have hn1 : 1 ≤ (n : Int) := by omega
  have hn2 : (n : Int) ≤ 20 := by omega
  have HR1 := Aside0.mk hr1
  clear hr1
  go_enter Try.func3, Try.ntmps3
  go_wp2_with (first | (go_at_call 10; refine (cnew_calls _ w.heap.size (n : Int) (Nat.le_refl _) hn1 (by omega)).mono ?_; rintro e w1 ⟨g, rfl, hg, hc, hb⟩; have H1 := Aside0.mk (CLS.mk (w0 := w) hc hb); clear hg hc hb) | (go_at_call 11; refine (flies_calls _).mono ?_; rintro e w2 ⟨rfl, hb⟩; have H2 := Aside0.mk (H1.out.below hb); clear H1 hb))
  clear hq hn
  obtain ⟨arr, harr⟩ : ∃ arr : Array Value, arr = #[.int .i64 0, .int .i64 0, .int .i64 0, .int .i64 0, .int .i64 0, .int .i64 0, .int .i64 0, .int .i64 0, .int .i64 0, .int .i64 0, .int .i64 0, .int .i64 0, .int .i64 0, .int .i64 0, .int .i64 0, .int .i64 0, .int .i64 0, .int .i64 0, .int .i64 0, .int .i64 0, .int .i64 0, .int .i64 0, .int .i64 0, .int .i64 0, .int .i64 0, .int .i64 0, .int .i64 0, .int .i64 0, .int .i64 0, .int .i64 0, .int .i64 0, .int .i64 0, .int .i64 0, .int .i64 0, .int .i64 0, .int .i64 0, .int .i64 0, .int .i64 0, .int .i64 0, .int .i64 0, .int .i64 0, .int .i64 0, .int .i64 0, .int .i64 0, .int .i64 0, .int .i64 0, .int .i64 0, .int .i64 0, .int .i64 0, .int .i64 0, .int .i64 0, .int .i64 0, .int .i64 0, .int .i64 0, .int .i64 0, .int .i64 0, .int .i64 0, .int .i64 0, .int .i64 0, .int .i64 0] := ⟨_, rfl⟩
  rw [← harr]
  have hA0 : Arr l1 0 arr := by
    intro j hj
    have e : arr = Array.replicate 60 (.int .i64 0) := by rw [harr]; rfl
    rw [e]
    simp [hj]
  obtain ⟨b8, hb8⟩ : ∃ b8, b8 = w2.heap.size := ⟨_, rfl⟩
  rw [← hb8]
  have HAS := Aside0.mk (show AS w (w2.alloc (.cells arr 29)) g b8 (n : Int) ((0 : Nat) : Int) (.slice none 0 0) (LL l1 n 0 0) arr from ⟨H2.out.below (below_alloc (Below.refl _ _) _), by rw [hb8]; exact blk_new _ _, by rw [hb8]; exact H2.out.bel.size⟩)
  have HAR := Aside0.mk hA0
  clear H2 hA0 harr hb8
  go_loopw [9] (fun v9 wr => ∃ (t : Nat) (v : Value) (arr : Array Value), v9 = .int .i64 (t : Int) ∧ t ≤ 40 ∧ Aside0 (AS w wr g b8 (n : Int) (t : Int) v (LL l1 n t t) arr) ∧ Aside0 (Arr l1 t arr)) (fun v9 _ => 40 - (intOf v9).toNat)
  case atStart => exact ⟨0, _, arr, by simp, by omega, HAS, HAR⟩
  case round =>
    clear HAS HAR
    obtain ⟨t, v, arr, rfl, ht, HAS, HAR⟩ := hrel
    by_cases h40 : t < 40
    · have hb40 : decide ((t : Int) < 40) = true := decide_eq_true (by omega)
      by_cases hA : t < l1.length
      · have hAb : decide ((t : Int) < (l1.length : Int)) = true := decide_eq_true (by omega)
        by_cases hB : t < 20
        · have hBb : decide ((t : Int) < 20) = true := decide_eq_true (by omega)
          obtain ⟨ad, rfl, hcx⟩ := ReadsOf.at_ (Kd.reads_of_C (d := (0 : Int)) (Kd.C_below HR1.out HAS.out.cl.bel)) (t : Int) (by omega) (by omega)
          rw [Int.toNat_natCast] at hcx
          obtain ⟨x, hx⟩ : ∃ x, x = rdOf 0 l1 (t : Int) := ⟨_, rfl⟩
          rw [← hx] at hcx
          obtain ⟨p, hp, hp4⟩ := modN 4 (by decide) (by decide) x
          have hpp : pf l1 t = p := by
            unfold pf
            rw [if_pos ⟨hA, hB⟩]
            have : l1.getD t 0 = x := by rw [hx]; unfold rdOf; rw [Int.toNat_natCast]
            rw [this, hp, Int.toNat_natCast]
          have HPP := Aside0.mk hpp
          have hc0 := (blk_cell HAS.out.blk t).trans (HAR.out t (by omega))
          rw [if_neg (Nat.lt_irrefl t)] at hc0
          have hfz := blk_frozen HAS.out.blk t
          have HAS0 := Aside0.mk (HAS.out.put t (.int .i64 (p : Int)))
          have HAR1 := Aside0.mk (show Arr l1 (t + 1) (arr.setIfInBounds t (.int .i64 (p : Int))) from fun j hj => by
            rw [Array.getElem?_setIfInBounds]
            by_cases q : t = j
            · subst q
              have hsz : t < arr.size := by have := HAR.out t (by omega); exact (Array.getElem?_eq_some_iff.1 this).1
              rw [if_pos rfl, if_pos hsz, if_pos (by omega), HPP.out]
            · rw [if_neg q, HAR.out j hj]
              by_cases q2 : j < t
              · rw [if_pos q2, if_pos (by omega)]
              · rw [if_neg q2, if_neg (by omega)])
          obtain ⟨arr2, harr2⟩ : ∃ arr2, arr2 = arr.setIfInBounds t (.int .i64 (p : Int)) := ⟨_, rfl⟩
          rw [← harr2] at HAS0 HAR1
          clear hx hpp harr2 HAS HAR
          go_wp2_with fail
          clear hp hcx hc0 hfz
          go_loopw [10] (fun v10 wq => ∃ (i : Nat) (v : Value), v10 = .int .i64 (i : Int) ∧ i ≤ p ∧ Aside0 (AS w wq g b8 (n : Int) (t : Int) v (LL l1 n t t ++ List.replicate i (fl1 t)) arr2)) (fun v10 _ => p - (intOf v10).toNat)
          case atStart => exact ⟨0, v, by simp, by omega, ⟨by rw [List.replicate_zero, List.append_nil]; exact HAS0.out⟩⟩
          case round =>
            clear HAS0
            obtain ⟨i, v, rfl, hi, HAS⟩ := hrel
            have hcp := (blk_cell HAS.out.blk t).trans (HAR1.out t (by omega))
            rw [if_pos (Nat.lt_succ_self t), HPP.out] at hcp
            by_cases hlt : i < p
            · have hlb : decide ((i : Int) < (p : Int)) = true := decide_eq_true (by omega)
              go_wp2_with fail
              have HAS3 := Aside0.mk (HAS.out.below (below_alloc (Below.refl wr.heap.size wr) (.cells #[.int .u8 (t : Int)] 5)))
              have hle := LL_short l1 n t t
              have eP : putC (t : Int) [(t : Int)] (LL l1 n t t ++ List.replicate i (fl1 t)) = LL l1 n t t ++ List.replicate (i + 1) (fl1 t) := by
                unfold putC
                rw [if_pos (by rw [List.length_append, List.length_replicate]; omega), List.replicate_succ', List.append_assoc]; rfl
              have hpc := put_calls HAS3.out.cl.cs (some ⟨wr.heap.size, 0, none⟩) 1 [(t : Int)] (const_reads wr 5 .u8 [(t : Int)] #[.int .u8 (t : Int)] (0, 0) rfl (by simp)) (by simp) (by simp)
              rw [eP] at hpc
              refine hpc.mono ?_
              rintro e w3 ⟨rfl, v3, hc3, hf3, hn3⟩
              have HAS4 := Aside0.mk (HAS3.out.fr hc3 hf3)
              clear hpc eP hle hc3 hf3 hn3 HAS3 HAS hcp
              go_wp2
              go_roundw
              case rel => exact ⟨i + 1, v3, by simp, by omega, HAS4⟩
              case measure => simp [intOf]; omega
            · obtain rfl : i = p := by omega
              have hlb : decide ((i : Int) < (i : Int)) = false := decide_eq_false (by omega)
              have HAS1 := Aside0.mk (show AS w wr g b8 (n : Int) (t : Int) v (LL l1 n (t + 1) t) arr2 by rw [LL_succ l1 n t (by omega)]; unfold grp; rw [HPP.out]; exact HAS.out)
              have HPL := HPP.out
              clear HAS HPL
              have hle := LL_short l1 n (t + 1) t
              have hst := step_calls HAS1.out.cl.cs (by omega) ⟨by omega, by omega⟩ (by
                intro f hf
                obtain ⟨s, hs, rfl⟩ := LL_mem l1 n _ _ f hf
                unfold fl1; simp only; omega)
              have hk := LL_keep l1 n (t + 1) t
              have ht1 : ((t : Int) + 1) = ((t + 1 : Nat) : Int) := by omega
              rw [ht1, hk] at hst
              have hlen := LL_len l1 n (t + 1) t
              by_cases hw : n ≤ t + 1
              · have hwb : decide ((n : Int) ≤ (t : Int) + 1) = true := decide_eq_true (by omega)
                obtain ⟨J, hJ⟩ : ∃ J : Nat, (t : Int) + 1 - (n : Int) = (J : Int) := ⟨t + 1 - n, by omega⟩
                have hJ2 : t + 1 - n = J := by omega
                have hJ60 : J < 60 := by omega
                have hJt : J < t + 1 := by omega
                rw [if_pos ⟨hw, by omega⟩, hJ2] at hlen
                have hcell := (blk_cell HAS1.out.blk J).trans (HAR1.out J hJ60)
                rw [if_pos hJt] at hcell
                obtain ⟨W, hW⟩ : ∃ W : Int, W = ((pf l1 J : Nat) : Int) := ⟨_, rfl⟩
                rw [← hW] at hcell
                have e1 : ((LL l1 n (t + 1) t).length : Int) - ((LL l1 n (t + 1) (t + 1)).length : Int) = W := by rw [hW]; omega
                rw [e1] at hst
                have HST := Aside0.mk hst
                clear hst hk ht1 hlen hJ2 hW e1 hle
                go_wp2_with (go_at_call 13; refine HST.out.mono ?_; rintro e w5 ⟨rfl, v5, hc5, hf5, hn5⟩; have HAS2 := Aside0.mk (HAS1.out.fr hc5 hf5); clear hc5 hf5 hn5)
                go_roundw
                case rel => exact ⟨t + 1, v5, _, by simp, by omega, HAS2, HAR1⟩
                case measure => simp [intOf]; omega
              · have hwb : decide ((n : Int) ≤ (t : Int) + 1) = false := decide_eq_false (by omega)
                rw [if_neg (by omega)] at hlen
                have e1 : ((LL l1 n (t + 1) t).length : Int) - ((LL l1 n (t + 1) (t + 1)).length : Int) = 0 := by omega
                rw [e1] at hst
                have HST := Aside0.mk hst
                clear hst hk ht1 hlen e1 hle
                go_wp2_with (go_at_call 13; refine HST.out.mono ?_; rintro e w5 ⟨rfl, v5, hc5, hf5, hn5⟩; have HAS2 := Aside0.mk (HAS1.out.fr hc5 hf5); clear hc5 hf5 hn5)
                go_roundw
                case rel => exact ⟨t + 1, v5, _, by simp, by omega, HAS2, HAR1⟩
                case measure => simp [intOf]; omega
        · have hBb : decide ((t : Int) < 20) = false := decide_eq_false (by omega)
          have hp0 : pf l1 t = 0 := by unfold pf; rw [if_neg (by omega)]
          have hgr : LL l1 n (t + 1) t = LL l1 n t t := by rw [LL_succ l1 n t (by omega)]; unfold grp; rw [hp0]; simp
          have HAS1 := Aside0.mk (show AS w wr g b8 (n : Int) (t : Int) v (LL l1 n (t + 1) t) arr by rw [hgr]; exact HAS.out)
          have HAR1 := Aside0.mk (show Arr l1 (t + 1) arr from fun j hj => by
            rw [HAR.out j hj]
            by_cases q : j < t
            · rw [if_pos q, if_pos (by omega)]
            · rw [if_neg q]
              by_cases q2 : j = t
              · rw [q2, if_pos (by omega), hp0]; rfl
              · rw [if_neg (by omega)])
          clear hgr hp0 HAS HAR
          have hle := LL_short l1 n (t + 1) t
          have hst := step_calls HAS1.out.cl.cs (by omega) ⟨by omega, by omega⟩ (by
            intro f hf
            obtain ⟨s, hs, rfl⟩ := LL_mem l1 n _ _ f hf
            unfold fl1; simp only; omega)
          have hk := LL_keep l1 n (t + 1) t
          have ht1 : ((t : Int) + 1) = ((t + 1 : Nat) : Int) := by omega
          rw [ht1, hk] at hst
          have hlen := LL_len l1 n (t + 1) t
          by_cases hw : n ≤ t + 1
          · have hwb : decide ((n : Int) ≤ (t : Int) + 1) = true := decide_eq_true (by omega)
            obtain ⟨J, hJ⟩ : ∃ J : Nat, (t : Int) + 1 - (n : Int) = (J : Int) := ⟨t + 1 - n, by omega⟩
            have hJ2 : t + 1 - n = J := by omega
            have hJ60 : J < 60 := by omega
            have hJt : J < t + 1 := by omega
            rw [if_pos ⟨hw, by omega⟩, hJ2] at hlen
            have hcell := (blk_cell HAS1.out.blk J).trans (HAR1.out J hJ60)
            rw [if_pos hJt] at hcell
            obtain ⟨W, hW⟩ : ∃ W : Int, W = ((pf l1 J : Nat) : Int) := ⟨_, rfl⟩
            rw [← hW] at hcell
            have e1 : ((LL l1 n (t + 1) t).length : Int) - ((LL l1 n (t + 1) (t + 1)).length : Int) = W := by rw [hW]; omega
            rw [e1] at hst
            have HST := Aside0.mk hst
            clear hst hk ht1 hlen hJ2 hW e1 hle
            go_wp2_with (go_at_call 13; refine HST.out.mono ?_; rintro e w5 ⟨rfl, v5, hc5, hf5, hn5⟩; have HAS2 := Aside0.mk (HAS1.out.fr hc5 hf5); clear hc5 hf5 hn5)
            go_roundw
            case rel => exact ⟨t + 1, v5, _, by simp, by omega, HAS2, HAR1⟩
            case measure => simp [intOf]; omega
          · have hwb : decide ((n : Int) ≤ (t : Int) + 1) = false := decide_eq_false (by omega)
            rw [if_neg (by omega)] at hlen
            have e1 : ((LL l1 n (t + 1) t).length : Int) - ((LL l1 n (t + 1) (t + 1)).length : Int) = 0 := by omega
            rw [e1] at hst
            have HST := Aside0.mk hst
            clear hst hk ht1 hlen e1 hle
            go_wp2_with (go_at_call 13; refine HST.out.mono ?_; rintro e w5 ⟨rfl, v5, hc5, hf5, hn5⟩; have HAS2 := Aside0.mk (HAS1.out.fr hc5 hf5); clear hc5 hf5 hn5)
            go_roundw
            case rel => exact ⟨t + 1, v5, _, by simp, by omega, HAS2, HAR1⟩
            case measure => simp [intOf]; omega
      · have hAb : decide ((t : Int) < (l1.length : Int)) = false := decide_eq_false (by omega)
        have hp0 : pf l1 t = 0 := by unfold pf; rw [if_neg (by omega)]
        have hgr : LL l1 n (t + 1) t = LL l1 n t t := by rw [LL_succ l1 n t (by omega)]; unfold grp; rw [hp0]; simp
        have HAS1 := Aside0.mk (show AS w wr g b8 (n : Int) (t : Int) v (LL l1 n (t + 1) t) arr by rw [hgr]; exact HAS.out)
        have HAR1 := Aside0.mk (show Arr l1 (t + 1) arr from fun j hj => by
          rw [HAR.out j hj]
          by_cases q : j < t
          · rw [if_pos q, if_pos (by omega)]
          · rw [if_neg q]
            by_cases q2 : j = t
            · rw [q2, if_pos (by omega), hp0]; rfl
            · rw [if_neg (by omega)])
        clear hgr hp0 HAS HAR
        have hle := LL_short l1 n (t + 1) t
        have hst := step_calls HAS1.out.cl.cs (by omega) ⟨by omega, by omega⟩ (by
          intro f hf
          obtain ⟨s, hs, rfl⟩ := LL_mem l1 n _ _ f hf
          unfold fl1; simp only; omega)
        have hk := LL_keep l1 n (t + 1) t
        have ht1 : ((t : Int) + 1) = ((t + 1 : Nat) : Int) := by omega
        rw [ht1, hk] at hst
        have hlen := LL_len l1 n (t + 1) t
        by_cases hw : n ≤ t + 1
        · have hwb : decide ((n : Int) ≤ (t : Int) + 1) = true := decide_eq_true (by omega)
          obtain ⟨J, hJ⟩ : ∃ J : Nat, (t : Int) + 1 - (n : Int) = (J : Int) := ⟨t + 1 - n, by omega⟩
          have hJ2 : t + 1 - n = J := by omega
          have hJ60 : J < 60 := by omega
          have hJt : J < t + 1 := by omega
          rw [if_pos ⟨hw, by omega⟩, hJ2] at hlen
          have hcell := (blk_cell HAS1.out.blk J).trans (HAR1.out J hJ60)
          rw [if_pos hJt] at hcell
          obtain ⟨W, hW⟩ : ∃ W : Int, W = ((pf l1 J : Nat) : Int) := ⟨_, rfl⟩
          rw [← hW] at hcell
          have e1 : ((LL l1 n (t + 1) t).length : Int) - ((LL l1 n (t + 1) (t + 1)).length : Int) = W := by rw [hW]; omega
          rw [e1] at hst
          have HST := Aside0.mk hst
          clear hst hk ht1 hlen hJ2 hW e1 hle
          go_wp2_with (go_at_call 13; refine HST.out.mono ?_; rintro e w5 ⟨rfl, v5, hc5, hf5, hn5⟩; have HAS2 := Aside0.mk (HAS1.out.fr hc5 hf5); clear hc5 hf5 hn5)
          go_roundw
          case rel => exact ⟨t + 1, v5, _, by simp, by omega, HAS2, HAR1⟩
          case measure => simp [intOf]; omega
        · have hwb : decide ((n : Int) ≤ (t : Int) + 1) = false := decide_eq_false (by omega)
          rw [if_neg (by omega)] at hlen
          have e1 : ((LL l1 n (t + 1) t).length : Int) - ((LL l1 n (t + 1) (t + 1)).length : Int) = 0 := by omega
          rw [e1] at hst
          have HST := Aside0.mk hst
          clear hst hk ht1 hlen e1 hle
          go_wp2_with (go_at_call 13; refine HST.out.mono ?_; rintro e w5 ⟨rfl, v5, hc5, hf5, hn5⟩; have HAS2 := Aside0.mk (HAS1.out.fr hc5 hf5); clear hc5 hf5 hn5)
          go_roundw
          case rel => exact ⟨t + 1, v5, _, by simp, by omega, HAS2, HAR1⟩
          case measure => simp [intOf]; omega
    · obtain rfl : t = 40 := by omega
      have hb40 : decide (((40 : Nat) : Int) < 40) = false := by decide
      rw [LL_end l1 n (by omega)] at HAS
      go_wp2_with (go_at_call 14; refine (clen_calls HAS.out.cl.cs).mono ?_; rintro e w3 ⟨rfl, rfl⟩)
      go_ret
      exact ⟨by simp, HAS.out.cl.bel⟩
end Go.Proofs.Ytfplmoeahbjfmaa.P
