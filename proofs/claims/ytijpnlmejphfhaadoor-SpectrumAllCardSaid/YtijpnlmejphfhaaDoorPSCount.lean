/- spectrum.Count by hand. No condition but bounds. -/
import Derived.Test.YtijpnlmejphfhaaDoorPSFirst2
namespace Go.Proofs.YtijpnlmejphfhaaDoor.P
open Go Go.Proofs Go.RowKit Go.Proofs.YtijpnlmejphfhaaDoorW.PrintWords Go.Proofs.YtijpnlmejphfhaaDoorW.PrintLast Go.Proofs.YtijpnlmejphfhaaDoorW.PrintMore
set_option linter.unusedVariables false
set_option linter.unusedSimpArgs false

/-- The rows and what is found, behind the first edge and k steps more. -/
def itR (W : Nat → Int) (N p : Nat) : Nat → (Nat → List Int) × List Int
  | 0 => (beginRows W N p, zeros N)
  | k + 1 => (stepRows W N (p + (k + 1)) (itR W N p k).1, stepFound W N (p + (k + 1)) (itR W N p k).1 (itR W N p k).2)
def wOf (a b c d : Int) : Nat → Int
  | 0 => a
  | 1 => b
  | 2 => c
  | _ => d
def wok (a b c d : Int) : Bool := inW a 7 && inW b 7 && inW c 7 && inW d 7
def cok (a b c d p s m : Int) : Bool := inW p 3 && inW s 30 && inW m 400 && wok a b c d
def countL (a b c d : Int) (p s m : Nat) : List Int := (itR (wOf a b c d) (m + 1) p (s - 1)).2
theorem inW_iff (n m : Int) : inW n m = true ↔ 0 ≤ n ∧ n ≤ m := by unfold inW; simp
theorem bad4 (a b c d : Int) : decide (0 ≤ firstI (fun x => !inW x 7) [a, b, c, d] 0) = !wok a b c d := by
  unfold wok firstI firstI firstI firstI firstI
  cases inW a 7 <;> cases inW b 7 <;> cases inW c 7 <;> cases inW d 7 <;> rfl
theorem wok_in {a b c d : Int} (h : wok a b c d = true) : ∀ v, v < 4 → 0 ≤ wOf a b c d v ∧ wOf a b c d v ≤ 7 := by
  unfold wok at h
  simp only [Bool.and_eq_true, inW_iff] at h
  intro v hv
  obtain rfl | rfl | rfl | rfl : v = 0 ∨ v = 1 ∨ v = 2 ∨ v = 3 := by omega
  · exact h.1.1.1
  · exact h.1.1.2
  · exact h.1.2
  · exact h.2
set_option maxRecDepth 100000 in
set_option maxHeartbeats 8000000 in
theorem count_calls {w : World} (hT : TP w) (a b c d : Int) (p s m : Nat) (hp : p ≤ 3) (hs : s ≤ 30) (hm : m ≤ 400) (hw : wok a b c d = true) :
    Calls Tryd.prog 11 #[.agg #[.int .i64 a, .int .i64 b, .int .i64 c, .int .i64 d], .int .i64 (p : Int), .int .i64 (s : Int), .int .i64 (m : Int)] w fun e w' =>
      ∃ F, e = .returned (.tuple #[.slice (some ⟨F, 0, none⟩) (m + 1) (m + 1), .int .i64 0]) ∧ w'.heap[F]? = some (.cells (ints (countL a b c d p s m)) 3 (0, 0)) ∧ (countL a b c d p s m).length = m + 1 ∧ Below w.heap.size w w' := by
  have HT := Aside0.mk hT
  have HW := Aside0.mk (wok_in hw)
  have HP := Aside0.mk (show ∀ w, Calls Tryd.prog 24 #[.int .i64 (p : Int), .int .i64 3] w fun e w' => e = .returned (.bool true) ∧ Drawn0 w w' from fun w => by
    have h := within_calls p 3 w; rw [(inW_iff _ _).2 (by omega)] at h; exact h)
  have HS := Aside0.mk (show ∀ w, Calls Tryd.prog 24 #[.int .i64 (s : Int), .int .i64 30] w fun e w' => e = .returned (.bool true) ∧ Drawn0 w w' from fun w => by
    have h := within_calls s 30 w; rw [(inW_iff _ _).2 (by omega)] at h; exact h)
  have HM := Aside0.mk (show ∀ w, Calls Tryd.prog 24 #[.int .i64 (m : Int), .int .i64 400] w fun e w' => e = .returned (.bool true) ∧ Drawn0 w w' from fun w => by
    have h := within_calls m 400 w; rw [(inW_iff _ _).2 (by omega)] at h; exact h)
  have HC := Aside0.mk (show ∀ w A, Kd.C (Kd.int .i64) w A 4 [a, b, c, d] → Calls Tryd.prog 25 #[.slice A 4 4, .func (.func 26) #[] #[]] w fun e w' => e = .returned (.bool false) ∧ Below w.heap.size w w' from fun w A hr => by
    have h := contains_calls A 4 [a, b, c, d] w hr (by simp); rw [bad4, hw] at h; exact h)
  have HPS := Aside0.mk (And.intro hp (And.intro hs hm))
  clear hT hw hp hs hm
  go_enter Tryd.func11, Tryd.ntmps11
  go_wp2_with (first
    | (go_at_call 24; refine Aside0.out ?_)
    | fail)
  refine Aside0.mk ?_
  have hba := below_alloc (Below.refl w.heap.size w) (.cells #[.int .i64 a, .int .i64 b, .int .i64 c, .int .i64 d] 22)
  have hbb := blk_new w (.cells #[.int .i64 a, .int .i64 b, .int .i64 c, .int .i64 d] 22)
  obtain ⟨w0, hw0⟩ : ∃ w0, w0 = w.alloc (.cells #[.int .i64 a, .int .i64 b, .int .i64 c, .int .i64 d] 22) := ⟨_, rfl⟩
  obtain ⟨x0, hx0⟩ : ∃ x0, x0 = w.heap.size := ⟨_, rfl⟩
  rw [← hw0] at hba hbb
  rw [← hx0] at hbb
  rw [← hw0, ← hx0]
  have HBA := Aside0.mk (And.intro hba (And.intro hbb hx0))
  clear hba hbb hx0 hw0
  refine (HP.out _).mono ?_
  rintro e w1 ⟨rfl, hd⟩
  have H1 := Aside0.mk hd.below
  clear hd
  go_wp2_with (first
    | (go_at_call 24; refine Aside0.out ?_)
    | fail)
  refine Aside0.mk ?_
  refine (HS.out _).mono ?_
  rintro e w2 ⟨rfl, hd⟩
  have H2 := Aside0.mk (below_step H1.out hd.below)
  clear hd
  go_wp2_with (first
    | (go_at_call 24; refine Aside0.out ?_)
    | fail)
  refine Aside0.mk ?_
  refine (HM.out _).mono ?_
  rintro e w3 ⟨rfl, hd⟩
  have H3 := Aside0.mk (below_step H2.out hd.below)
  clear hd H1 H2
  go_wp2_with (first
    | (go_at_call 25; refine Aside0.out ?_)
    | fail)
  refine Aside0.mk ?_
  have hb3 := (H3.out.block x0 (blk_lt HBA.out.2.1)).trans HBA.out.2.1
  have hl3 := blk_lt hb3
  refine (HC.out _ _ (C_of_blk hb3 rfl ⟨rfl, by simp⟩)).mono ?_
  rintro e w4 ⟨rfl, hd⟩
  have hb4 := (hd.block x0 hl3).trans hb3
  have H4 := Aside0.mk (below_step HBA.out.1 (below_step H3.out hd))
  have hc0 := blk_cell hb4 0
  have hc1 := blk_cell hb4 1
  have hc2 := blk_cell hb4 2
  have hc3 := blk_cell hb4 3
  have HB4 := Aside0.mk hb4
  clear hd hb4 hb3 hl3
  go_wp2_with (first
    | (go_at_call 27; refine Aside0.out ?_)
    | fail)
  refine Aside0.mk ?_
  obtain ⟨CS, hCS⟩ : ∃ CS, CS = (((((Tryd.zeroCells52.setIfInBounds 0 (Value.int IntKind.i64 a)).setIfInBounds 1 (Value.int IntKind.i64 b)).setIfInBounds 2 (Value.int IntKind.i64 c)).setIfInBounds 3 (Value.int IntKind.i64 d)).setIfInBounds 4 (Value.int IntKind.i64 (m : Int))) := ⟨_, rfl⟩
  rw [← hCS]
  have hcc : CC CS (wOf a b c d) (m + 1) (fun _ => 0) 0 := by
    have hz : Tryd.zeroCells52.size = 70 := by kernel_rfl
    refine ⟨by rw [hCS]; simp [hz], fun v hv => ?_, ?_, fun s hs => absurd hs (Nat.not_lt_zero _)⟩
    · rw [hCS]
      obtain rfl | rfl | rfl | rfl : v = 0 ∨ v = 1 ∨ v = 2 ∨ v = 3 := by omega
      · simp [Array.getElem?_setIfInBounds, hz, wOf]
      · simp [Array.getElem?_setIfInBounds, hz, wOf]
      · simp [Array.getElem?_setIfInBounds, hz, wOf]
      · simp [Array.getElem?_setIfInBounds, hz, wOf]
    · rw [hCS]
      simp [Array.getElem?_setIfInBounds, hz]
  have hba := below_alloc (Below.refl w4.heap.size w4) (.cells CS 52)
  have hbb := blk_new w4 (.cells CS 52)
  obtain ⟨g, hg⟩ : ∃ g, g = w4.heap.size := ⟨_, rfl⟩
  have hgw : w.heap.size ≤ g := by rw [hg]; exact H4.out.size
  have hg0 : g ≠ 0 := by have := HT.out.lt; omega
  obtain ⟨w5, hw5⟩ : ∃ w5, w5 = w4.alloc (.cells CS 52) := ⟨_, rfl⟩
  rw [← hw5] at hba hbb
  rw [← hg] at hbb
  rw [← hw5, ← hg]
  have hb5 := below_step H4.out hba
  have hT5 := TP_of HT.out hb5
  have hbe := begin_calls hT5 hg0 hbb hcc ⟨by omega, by have := HPS.out; omega⟩ HW.out p (by have := HPS.out; omega)
  have HBE := Aside0.mk hbe
  have HG := Aside0.mk (And.intro hgw (And.intro hb5 hg0))
  clear hCS hcc hba hbb hg hgw hg0 hw5 hb5 hT5 hbe hc0 hc1 hc2 hc3 H4 HB4 H3 HBA HC HP HS HM
  refine HBE.out.mono ?_
  rintro e w6 ⟨rfl, A, F, hSP, hFG, hF⟩
  have hb6 : Below w.heap.size w w6 := HG.out.2.1.trans (hFG.below HG.out.1 HG.out.2.1.size)
  have hF6 : w.heap.size ≤ F := Nat.le_trans HG.out.2.1.size hF
  have H6 := Aside0.mk (And.intro hSP hb6)
  have HF6 := Aside0.mk hF6
  clear hSP hFG hF hb6 hF6 HBE
  go_wp2_with fail
  obtain ⟨N, hN⟩ : ∃ N, N = m + 1 := ⟨_, rfl⟩
  rw [← hN] at H6
  have HN := Aside0.mk hN
  clear hN
  go_loopw [13] (fun v13 wr => ∃ (i : Nat) (A : Nat → Nat), v13 = .int .i64 (i : Int) ∧ 1 ≤ i ∧ i ≤ 31 ∧ Aside0 (i - 1 ≤ s - 1) ∧ Aside0 (SP wr g (wOf a b c d) N A F (itR (wOf a b c d) N p (i - 1)).1 (itR (wOf a b c d) N p (i - 1)).2) ∧ Aside0 (Below w.heap.size w wr)) (fun v13 _ => 31 - (intOf v13).toNat)
  case atStart => exact ⟨1, A, by simp, by omega, by omega, ⟨by omega⟩, ⟨H6.out.1⟩, ⟨H6.out.2⟩⟩
  case round =>
    clear H6
    obtain ⟨i, A, rfl, hi1, hi2, HI, HSP, HB⟩ := hrel
    by_cases hlt : i < s
    · have hlb : decide ((i : Int) < (s : Int)) = true := decide_eq_true (by omega)
      have hst := step_calls (TP_of HT.out HB.out) HG.out.2.2 HSP.out ⟨by have := HN.out; omega, by have := HN.out; have := HPS.out; omega⟩ HW.out (p + i) (by have := HPS.out; omega)
      have hps : p ≤ 3 := HPS.out.1
      rw [Int.natCast_add] at hst
      have HST := Aside0.mk hst
      clear hst
      go_wp2_with (first
        | (go_at_call 28; refine HST.out.mono ?_
           rintro e w7 ⟨rfl, A2, hSP, hbw⟩
           have H7 := Aside0.mk (And.intro hSP (hbw w.heap.size HG.out.1 HF6.out HB.out.size))
           clear hSP hbw)
        | fail)
      go_roundw
      case rel =>
        refine ⟨i + 1, A2, by simp, by omega, by have := HPS.out; omega, ⟨by have := HPS.out; omega⟩, ⟨?_⟩, ⟨HB.out.trans H7.out.2⟩⟩
        obtain ⟨k, rfl⟩ : ∃ k, i = k + 1 := ⟨i - 1, by omega⟩
        exact H7.out.1
      case measure =>
        have hs30 : s ≤ 30 := HPS.out.2.1
        simp [intOf]; omega
    · have hlb : decide ((i : Int) < (s : Int)) = false := decide_eq_false (by omega)
      have hie : i - 1 = s - 1 := by have := HI.out; omega
      have hc69 := HSP.out.cell.2.2.2
      have HE := Aside0.mk hie
      clear hie
      go_wp2_with fail
      go_ret2
      have hf := HSP.out.fnd
      rw [HE.out, HN.out] at hf
      exact ⟨F, by rw [HN.out]; simp [sl], hf.1, hf.2, HB.out⟩
set_option maxRecDepth 100000 in
set_option maxHeartbeats 8000000 in
/-- Of wrong weights, phases, steps there is an error. -/
theorem count_bad {w : World} (a b c d p s m : Int) (h : cok a b c d p s m = false) :
    Calls Tryd.prog 11 #[.agg #[.int .i64 a, .int .i64 b, .int .i64 c, .int .i64 d], .int .i64 p, .int .i64 s, .int .i64 m] w fun e w' =>
      e = .returned (.tuple #[.slice none 0 0, .int .i64 1]) ∧ Below w.heap.size w w' := by
  obtain ⟨bp, hbp⟩ : ∃ bp, bp = inW p 3 := ⟨_, rfl⟩
  obtain ⟨bs, hbs⟩ : ∃ bs, bs = inW s 30 := ⟨_, rfl⟩
  obtain ⟨bm, hbm⟩ : ∃ bm, bm = inW m 400 := ⟨_, rfl⟩
  obtain ⟨bw, hbw⟩ : ∃ bw, bw = wok a b c d := ⟨_, rfl⟩
  have HP := Aside0.mk (show ∀ w, Calls Tryd.prog 24 #[.int .i64 p, .int .i64 3] w fun e w' => e = .returned (.bool bp) ∧ Drawn0 w w' from fun w => hbp ▸ within_calls p 3 w)
  have HS := Aside0.mk (show ∀ w, Calls Tryd.prog 24 #[.int .i64 s, .int .i64 30] w fun e w' => e = .returned (.bool bs) ∧ Drawn0 w w' from fun w => hbs ▸ within_calls s 30 w)
  have HM := Aside0.mk (show ∀ w, Calls Tryd.prog 24 #[.int .i64 m, .int .i64 400] w fun e w' => e = .returned (.bool bm) ∧ Drawn0 w w' from fun w => hbm ▸ within_calls m 400 w)
  have HC := Aside0.mk (show ∀ w A, Kd.C (Kd.int .i64) w A 4 [a, b, c, d] → Calls Tryd.prog 25 #[.slice A 4 4, .func (.func 26) #[] #[]] w fun e w' => e = .returned (.bool (!bw)) ∧ Below w.heap.size w w' from fun w A hr => by
    have h := contains_calls A 4 [a, b, c, d] w hr (by simp); rw [bad4, ← hbw] at h; exact h)
  unfold cok at h
  rw [← hbp, ← hbs, ← hbm, ← hbw] at h
  clear hbp hbs hbm hbw
  have hc : bp = false ∨ (bp = true ∧ bs = false) ∨ (bp = true ∧ bs = true ∧ bm = false) ∨ (bp = true ∧ bs = true ∧ bm = true ∧ bw = false) := by
    cases bp <;> cases bs <;> cases bm <;> cases bw <;> simp_all
  clear h
  rcases hc with rfl | ⟨rfl, rfl⟩ | ⟨rfl, rfl, rfl⟩ | ⟨rfl, rfl, rfl, rfl⟩
  · go_enter Tryd.func11, Tryd.ntmps11
    go_wp2_with (first
      | (go_at_call 24; refine Aside0.out ?_)
      | fail)
    refine Aside0.mk ?_
    have hba := below_alloc (Below.refl w.heap.size w) (.cells #[.int .i64 a, .int .i64 b, .int .i64 c, .int .i64 d] 22)
    have hbb := blk_new w (.cells #[.int .i64 a, .int .i64 b, .int .i64 c, .int .i64 d] 22)
    obtain ⟨w0, hw0⟩ : ∃ w0, w0 = w.alloc (.cells #[.int .i64 a, .int .i64 b, .int .i64 c, .int .i64 d] 22) := ⟨_, rfl⟩
    obtain ⟨x0, hx0⟩ : ∃ x0, x0 = w.heap.size := ⟨_, rfl⟩
    rw [← hw0] at hba hbb
    rw [← hx0] at hbb
    rw [← hw0, ← hx0]
    have HBA := Aside0.mk (And.intro hba (And.intro hbb hx0))
    clear hba hbb hx0 hw0
    refine (HP.out _).mono ?_
    rintro e w1 ⟨rfl, hd⟩
    have H1 := Aside0.mk hd.below
    clear hd
    go_wp2_with fail
    go_ret2
    exact ⟨by simp, below_step HBA.out.1 H1.out⟩
  · go_enter Tryd.func11, Tryd.ntmps11
    go_wp2_with (first
      | (go_at_call 24; refine Aside0.out ?_)
      | fail)
    refine Aside0.mk ?_
    have hba := below_alloc (Below.refl w.heap.size w) (.cells #[.int .i64 a, .int .i64 b, .int .i64 c, .int .i64 d] 22)
    have hbb := blk_new w (.cells #[.int .i64 a, .int .i64 b, .int .i64 c, .int .i64 d] 22)
    obtain ⟨w0, hw0⟩ : ∃ w0, w0 = w.alloc (.cells #[.int .i64 a, .int .i64 b, .int .i64 c, .int .i64 d] 22) := ⟨_, rfl⟩
    obtain ⟨x0, hx0⟩ : ∃ x0, x0 = w.heap.size := ⟨_, rfl⟩
    rw [← hw0] at hba hbb
    rw [← hx0] at hbb
    rw [← hw0, ← hx0]
    have HBA := Aside0.mk (And.intro hba (And.intro hbb hx0))
    clear hba hbb hx0 hw0
    refine (HP.out _).mono ?_
    rintro e w1 ⟨rfl, hd⟩
    have H1 := Aside0.mk hd.below
    clear hd
    go_wp2_with (first
      | (go_at_call 24; refine Aside0.out ?_)
      | fail)
    refine Aside0.mk ?_
    refine (HS.out _).mono ?_
    rintro e w2 ⟨rfl, hd⟩
    have H2 := Aside0.mk (below_step H1.out hd.below)
    clear hd
    go_wp2_with fail
    go_ret2
    exact ⟨by simp, below_step HBA.out.1 H2.out⟩
  · go_enter Tryd.func11, Tryd.ntmps11
    go_wp2_with (first
      | (go_at_call 24; refine Aside0.out ?_)
      | fail)
    refine Aside0.mk ?_
    have hba := below_alloc (Below.refl w.heap.size w) (.cells #[.int .i64 a, .int .i64 b, .int .i64 c, .int .i64 d] 22)
    have hbb := blk_new w (.cells #[.int .i64 a, .int .i64 b, .int .i64 c, .int .i64 d] 22)
    obtain ⟨w0, hw0⟩ : ∃ w0, w0 = w.alloc (.cells #[.int .i64 a, .int .i64 b, .int .i64 c, .int .i64 d] 22) := ⟨_, rfl⟩
    obtain ⟨x0, hx0⟩ : ∃ x0, x0 = w.heap.size := ⟨_, rfl⟩
    rw [← hw0] at hba hbb
    rw [← hx0] at hbb
    rw [← hw0, ← hx0]
    have HBA := Aside0.mk (And.intro hba (And.intro hbb hx0))
    clear hba hbb hx0 hw0
    refine (HP.out _).mono ?_
    rintro e w1 ⟨rfl, hd⟩
    have H1 := Aside0.mk hd.below
    clear hd
    go_wp2_with (first
      | (go_at_call 24; refine Aside0.out ?_)
      | fail)
    refine Aside0.mk ?_
    refine (HS.out _).mono ?_
    rintro e w2 ⟨rfl, hd⟩
    have H2 := Aside0.mk (below_step H1.out hd.below)
    clear hd
    go_wp2_with (first
      | (go_at_call 24; refine Aside0.out ?_)
      | fail)
    refine Aside0.mk ?_
    refine (HM.out _).mono ?_
    rintro e w3 ⟨rfl, hd⟩
    have H3 := Aside0.mk (below_step H2.out hd.below)
    clear hd
    go_wp2_with fail
    go_ret2
    exact ⟨by simp, below_step HBA.out.1 H3.out⟩
  · go_enter Tryd.func11, Tryd.ntmps11
    go_wp2_with (first
      | (go_at_call 24; refine Aside0.out ?_)
      | fail)
    refine Aside0.mk ?_
    have hba := below_alloc (Below.refl w.heap.size w) (.cells #[.int .i64 a, .int .i64 b, .int .i64 c, .int .i64 d] 22)
    have hbb := blk_new w (.cells #[.int .i64 a, .int .i64 b, .int .i64 c, .int .i64 d] 22)
    obtain ⟨w0, hw0⟩ : ∃ w0, w0 = w.alloc (.cells #[.int .i64 a, .int .i64 b, .int .i64 c, .int .i64 d] 22) := ⟨_, rfl⟩
    obtain ⟨x0, hx0⟩ : ∃ x0, x0 = w.heap.size := ⟨_, rfl⟩
    rw [← hw0] at hba hbb
    rw [← hx0] at hbb
    rw [← hw0, ← hx0]
    have HBA := Aside0.mk (And.intro hba (And.intro hbb hx0))
    clear hba hbb hx0 hw0
    refine (HP.out _).mono ?_
    rintro e w1 ⟨rfl, hd⟩
    have H1 := Aside0.mk hd.below
    clear hd
    go_wp2_with (first
      | (go_at_call 24; refine Aside0.out ?_)
      | fail)
    refine Aside0.mk ?_
    refine (HS.out _).mono ?_
    rintro e w2 ⟨rfl, hd⟩
    have H2 := Aside0.mk (below_step H1.out hd.below)
    clear hd
    go_wp2_with (first
      | (go_at_call 24; refine Aside0.out ?_)
      | fail)
    refine Aside0.mk ?_
    refine (HM.out _).mono ?_
    rintro e w3 ⟨rfl, hd⟩
    have H3 := Aside0.mk (below_step H2.out hd.below)
    clear hd
    go_wp2_with (first
      | (go_at_call 25; refine Aside0.out ?_)
      | fail)
    refine Aside0.mk ?_
    have hb3 := (H3.out.block x0 (blk_lt HBA.out.2.1)).trans HBA.out.2.1
    refine (HC.out _ _ (C_of_blk hb3 rfl ⟨rfl, by simp⟩)).mono ?_
    rintro e w4 ⟨rfl, hd⟩
    have H4 := Aside0.mk (below_step H3.out hd)
    clear hd hb3
    go_wp2_with fail
    go_ret2
    exact ⟨by simp, below_step HBA.out.1 H4.out⟩
end Go.Proofs.YtijpnlmejphfhaaDoor.P

