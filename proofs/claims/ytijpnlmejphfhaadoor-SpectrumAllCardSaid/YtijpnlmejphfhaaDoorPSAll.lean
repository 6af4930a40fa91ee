/- SpectrumAll by hand. No condition. -/
import Derived.Test.YtijpnlmejphfhaaDoorPSLaw0
namespace Go.Proofs.YtijpnlmejphfhaaDoor.P
open Go Go.Proofs Go.RowKit Go.Proofs.YtijpnlmejphfhaaDoorW.PrintWords Go.Proofs.YtijpnlmejphfhaaDoorW.PrintLast Go.Proofs.YtijpnlmejphfhaaDoorW.PrintMore
set_option linter.unusedVariables false
set_option linter.unusedSimpArgs false

/-- A number made natural, modulo m. -/
theorem modN (m : Int) (hm : 0 < m) (hm2 : m ≤ 100000) (a : Int) : ∃ N : Nat, IntKind.i64.wrap (Int.tmod (IntKind.u64.wrap a) m) = (N : Int) ∧ (N : Int) < m := by
  have h1 : 0 ≤ IntKind.u64.wrap a := by rw [IntKind.wrap_u64]; omega
  have h2 : 0 ≤ (IntKind.u64.wrap a).tmod m := Int.tmod_nonneg _ h1
  have h3 : (IntKind.u64.wrap a).tmod m < m := Int.tmod_lt_of_pos _ hm
  refine ⟨((IntKind.u64.wrap a).tmod m).toNat, ?_, by omega⟩
  rw [IntKind.wrap_i64]; omega
/-- The ways without weights. -/
def wayN : Nat → Nat → Nat
  | 0, u => if u = 32 then 1 else 0
  | k + 1, u => if u = 0 then 0 else wayN k (sA u) + wayN k (sB u)
def allN : Nat → Nat
  | 0 => 0
  | k + 1 => allN k + (wayN k 0 + wayN k 1)
/-- The lists of up to j bits that begin and end with a 1. -/
def wantN : Nat → Nat
  | 0 => 0
  | 1 => 1
  | j + 2 => wantN (j + 1) + 2 ^ j
theorem wOf0 (v : Nat) : wOf 0 0 0 0 v = 0 := by unfold wOf; split <;> rfl
theorem wsum0 (o : Nat → Int) (t : Nat) : ∀ j, wsum (wOf 0 0 0 0) o t j = 0
  | 0 => rfl
  | j + 1 => by unfold wsum; rw [wsum0 o t j, wOf0]; omega
theorem en0 (s i t : Nat) : en (wOf 0 0 0 0) s i t = 0 := by unfold en ew; rw [wsum0]; rfl
theorem inn0 (t : Nat) (P : Nat → Nat → Nat) (u x : Nat) : inn (wOf 0 0 0 0) t P u x = P (sA u) x + P (sB u) x := by
  unfold inn
  rw [en0, en0, if_pos (Nat.zero_le _), if_pos (Nat.zero_le _), Nat.sub_zero]
theorem cnt0 (p : Nat) : ∀ k u x, cntP (wOf 0 0 0 0) p k u x = if x = 0 then wayN k u else 0
  | 0, u, x => by
    unfold cntP wayN
    rw [en0]
    by_cases h : x = 0
    · rw [if_pos h]; simp [h]
    · rw [if_neg h, if_neg (fun q => h q.2)]
  | k + 1, u, x => by
    unfold cntP wayN
    rw [inn0, cnt0 p k, cnt0 p k]
    by_cases h : x = 0
    · simp [h]
    · simp [h]
theorem fnd0 (p : Nat) : ∀ k x, fndP (wOf 0 0 0 0) p k x = if x = 0 then allN k else 0
  | 0, x => by unfold fndP allN; simp
  | k + 1, x => by
    unfold fndP allN
    rw [fnd0 p k, inn0, cnt0, cnt0]
    have e1 : sA 0 = 0 := rfl
    have e2 : sB 0 = 1 := rfl
    rw [e1, e2]
    by_cases h : x = 0
    · simp [h]
    · simp [h]
theorem all_want : ∀ s, s < 13 → allN (s - 1) = wantN (s - 6) := by decide +kernel
theorem countL0 (p s : Nat) (hs : s < 13) : countL 0 0 0 0 p s 3 = [(wantN (s - 6) : Int), 0, 0, 0] := by
  rw [countL_eq 0 0 0 0 p s 3 (by omega), ← all_want s hs]
  simp only [fnd0]
  rfl
set_option maxRecDepth 100000 in
set_option maxHeartbeats 8000000 in
theorem lawAll_calls (a0 a1 : Int) (w : World) (hT : TP w) :
    Calls Tryd.prog 6 #[.int .i64 a0, .int .i64 a1] w fun e w' => e = .returned (.bool true) ∧ Below w.heap.size w w' := by
  obtain ⟨p, hp, hp4⟩ := modN 4 (by decide) (by decide) a0
  obtain ⟨s, hs, hs13⟩ := modN 13 (by decide) (by decide) a1
  have HC := Aside0.mk (show Calls Tryd.prog 11 #[.agg #[.int .i64 0, .int .i64 0, .int .i64 0, .int .i64 0], .int .i64 (p : Int), .int .i64 (s : Int), .int .i64 3] w _ from count_calls hT 0 0 0 0 p s 3 (by omega) (by omega) (by decide) (by decide))
  rw [countL0 p s (by omega)] at HC
  have HT := Aside0.mk hT
  clear hT
  go_enter Tryd.func6, Tryd.ntmps6
  go_wp2_with (first
    | (go_at_call 11
       refine HC.out.mono ?_
       rintro e w1 ⟨F, rfl, hF, hl, hb⟩
       have HF := Aside0.mk hF
       have HB := Aside0.mk hb
       have HCO := Aside0.mk (counts_calls (TP_of HT.out hb))
       clear hF hl hb HC)
    | (go_at_call 12
       refine HCO.out.mono ?_
       rintro e w2 ⟨rfl, hb⟩
       have HF2 := Aside0.mk ((hb.block F (blk_lt HF.out)).trans HF.out)
       have HB2 := Aside0.mk (below_step HB.out hb)
       clear hb HF HCO)
    | fail)
  go_loopw [7, 8] (fun v7 v8 wr => ∃ i : Nat, v7 = .int .i64 (wantN i : Int) ∧ v8 = .int .i64 ((i : Int) + 1) ∧ i ≤ 6 ∧ (i = 0 ∨ i + 6 ≤ s) ∧ wr = w2) (fun _ v8 _ => 20 - (intOf v8).toNat)
  case atStart => exact ⟨0, by simp [wantN], by simp, by omega, by omega, rfl⟩
  case round =>
    obtain ⟨i, rfl, rfl, hi, his, rfl⟩ := hrel
    by_cases hlt : i + 7 ≤ s
    · have hc : i = 0 ∨ i = 1 ∨ i = 2 ∨ i = 3 ∨ i = 4 ∨ i = 5 := by omega
      have hcs : (7 : Int) + i ≤ s := by omega
      rcases hc with rfl | rfl | rfl | rfl | rfl | rfl
      · skip
        go_wp2_with fail
        go_roundw
        case rel => exact ⟨0 + 1, by first | rfl | (simp [wantN]; done) | (simp [wantN]; exact wrap_small (by decide) (by decide)), by simp, by omega, by omega, by first | trivial | rfl⟩
        case measure => simp [intOf]
      · skip
        go_wp2_with fail
        go_roundw
        case rel => exact ⟨1 + 1, by first | rfl | (simp [wantN]; done) | (simp [wantN]; exact wrap_small (by decide) (by decide)), by simp, by omega, by omega, by first | trivial | rfl⟩
        case measure => simp [intOf]
      · skip
        go_wp2_with fail
        go_roundw
        case rel => exact ⟨2 + 1, by first | rfl | (simp [wantN]; done) | (simp [wantN]; exact wrap_small (by decide) (by decide)), by simp, by omega, by omega, by first | trivial | rfl⟩
        case measure => simp [intOf]
      · skip
        go_wp2_with fail
        go_roundw
        case rel => exact ⟨3 + 1, by first | rfl | (simp [wantN]; done) | (simp [wantN]; exact wrap_small (by decide) (by decide)), by simp, by omega, by omega, by first | trivial | rfl⟩
        case measure => simp [intOf]
      · skip
        go_wp2_with fail
        go_roundw
        case rel => exact ⟨4 + 1, by first | rfl | (simp [wantN]; done) | (simp [wantN]; exact wrap_small (by decide) (by decide)), by simp, by omega, by omega, by first | trivial | rfl⟩
        case measure => simp [intOf]
      · skip
        go_wp2_with fail
        go_roundw
        case rel => exact ⟨5 + 1, by first | rfl | (simp [wantN]; done) | (simp [wantN]; exact wrap_small (by decide) (by decide)), by simp, by omega, by omega, by first | trivial | rfl⟩
        case measure => simp [intOf]
    · have hlb : decide ((i : Int) + 7 ≤ (s : Int)) = false := decide_eq_false (by omega)
      have hie : i = s - 6 := by omega
      have hc0 : wr.cell? ⟨F, 0, none⟩ = some (.int .i64 (wantN i : Int)) := by rw [hie]; exact ints_cell HF2.out 0 (by simp)
      have hc1 : wr.cell? ⟨F, 1, none⟩ = some (.int .i64 0) := ints_cell HF2.out 1 (by simp)
      have hc2 : wr.cell? ⟨F, 2, none⟩ = some (.int .i64 0) := ints_cell HF2.out 2 (by simp)
      have hc3 : wr.cell? ⟨F, 3, none⟩ = some (.int .i64 0) := ints_cell HF2.out 3 (by simp)
      clear hie
      go_wp2_with fail
      go_ret
      exact ⟨by simp, HB2.out⟩
end Go.Proofs.YtijpnlmejphfhaaDoor.P
