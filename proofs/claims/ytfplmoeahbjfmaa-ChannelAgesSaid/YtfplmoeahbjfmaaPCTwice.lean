/- channel.Channel's Twice by hand. No condition but bounds. -/
import Derived.Test.YtfplmoeahbjfmaaPCPut
import Derived.Test.YtfplmoeahbjfmaaP27
namespace Go.Proofs.Ytfplmoeahbjfmaa.P
open Go Go.Proofs Go.RowKit Go.Shelf Go.Proofs.YtfplmoeahbjfmaaW.PrintWords Go.Proofs.YtfplmoeahbjfmaaW.PrintLast Go.Proofs.YtfplmoeahbjfmaaW.PrintMore
set_option linter.unusedVariables false
set_option linter.unusedSimpArgs false

variable {n₀ g : Nat} {age now : Int} {v : Value} {L : List Fl}
/-- The texts of datagrams are short. -/
def Short (L : List Fl) : Prop := ∀ f ∈ L, f.1.length ≤ 100000 ∧ f.2.1.length ≤ 100000
/-- An element of the row: its cells, its texts. -/
theorem fl_get {w : World} {ok : Nat → Prop} {gr n c : Nat} (h : Kd.R kFl 50 w n₀ ok (.slice (some ⟨gr, 0, none⟩) n c) L) (i : Nat) (hi : i < n) :
    ∃ f A1 c1 A2 c2, L[i]? = some f ∧ w.cell? ⟨gr, i * 3, none⟩ = some (.slice A1 f.1.length c1) ∧ w.cell? ⟨gr, i * 3 + 1, none⟩ = some (.slice A2 f.2.1.length c2) ∧ w.cell? ⟨gr, i * 3 + 2, none⟩ = some (.int .i64 f.2.2) ∧
      Kd.R (Kd.int .u8) 5 w n₀ (fun k => ok k ∧ k ≠ gr) (.slice A1 f.1.length c1) f.1 ∧ Kd.R (Kd.int .u8) 5 w n₀ (fun k => ok k ∧ k ≠ gr) (.slice A2 f.2.1.length c2) f.2.1 := by
  have hn := (Kd.R_reads' h).1
  obtain ⟨c, hl, hM, hc, _⟩ := Kd.R_elem h ([], [], 0) (i : Int) (by omega) (by omega)
  rw [Int.toNat_natCast] at hM hc
  have he : L[i]? = some (L.getD i ([], [], 0)) := by rw [List.getD_eq_getElem?_getD, List.getElem?_eq_getElem (by omega)]; rfl
  obtain ⟨c0, c1, rfl, ⟨v1, rfl, hr1⟩, c2, c3, rfl, ⟨v2, rfl, hr2⟩, h3⟩ := hM
  have h3' : c3 = [.int .i64 (L.getD i ([], [], 0)).2.2] := h3
  subst h3'
  obtain ⟨A1, d1, rfl⟩ := Kd.R_slice hr1
  obtain ⟨A2, d2, rfl⟩ := Kd.R_slice hr2
  refine ⟨_, A1, d1, A2, d2, he, ?_, ?_, ?_, Kd.R_mono hr1 (fun _ ok => ok), Kd.R_mono hr2 (fun _ ok => ok)⟩
  · exact hc 0 _ rfl
  · exact hc 1 _ rfl
  · exact hc 2 _ rfl
def twE (n : Nat) (k : Int) : Int := if hasE n k = 0 then (if n < 4096 then 0 else 8) else 9
def twL (k : Int) (L : List Fl) : List Fl := if twE L.length k = 0 then L ++ [L.getD k.toNat ([], [], 0)] else L
theorem copied_calls {w : World} {f : Fl} {A1 A2 : Option Addr} {c1 c2 : Nat} (h1 : Kd.C (Kd.int .u8) w A1 f.1.length f.1) (hc1 : f.1.length ≤ c1) (h2 : Kd.C (Kd.int .u8) w A2 f.2.1.length f.2.1) (hc2 : f.2.1.length ≤ c2) (hl1 : f.1.length ≤ 100000) (hl2 : f.2.1.length ≤ 100000) :
    Calls Try.prog 38 #[.agg #[.slice A1 f.1.length c1, .slice A2 f.2.1.length c2, .int .i64 f.2.2]] w fun e w' => ∃ v1 v2, e = .returned (.agg #[v1, v2, .int .i64 f.2.2]) ∧ Kd.R (Kd.int .u8) 5 w' w.heap.size (fun _ => True) v1 f.1 ∧ Kd.R (Kd.int .u8) 5 w' w.heap.size (fun _ => True) v2 f.2.1 ∧ Below w.heap.size w w' := by
  refine (channel_Flight_copied.calls A1 c1 f.1 A2 c2 f.2.1 f.2.2 f.1 f.2.1 f.2.2 w h1 hc1 h2 hc2 ?_).mono ?_
  · unfold channel_Flight_copied.f bytes_Clone.f
    rw [if_pos (by omega), Option.bind_some, if_pos (by omega), Option.bind_some]
  · rintro e w' ⟨v1, v2, rfl, hr1, hr2, hb⟩
    exact ⟨v1, v2, rfl, Kd.R_mono hr1 (fun _ _ => trivial), Kd.R_mono hr2 (fun _ _ => trivial), hb⟩
def twice6.T : Bool × List (List Nat × List Nat) := (true, [([], []), ([], []), ([1], [1]), ([2], [2]), ([3], [3]), ([], []), ([5], [5]), ([6], [6]), ([7], [7]), ([], []), ([8, 9], [8, 9]), ([10], [10]), ([11], [11]), ([12], [12]), ([4, 13, 12], [4, 13]), ([0, 0, 1, 2, 3, 4, 5, 6, 7, 8, 9, 10, 11, 12, 13, 14], [0]), ([15, 0, 1, 2, 3, 4, 5, 6, 7, 8, 9, 10, 11, 12, 13, 14], [15]), ([16, 14, 14, 0, 1, 2, 3, 4, 5, 6, 7, 8, 9, 10, 11, 12, 13, 14], [14, 16])])
def twice6.B : List Nat := [0, 0, 2, 6, 14, 0, 32, 96, 224, 0, 992, 2016, 4064, 8160, 16382, 32767, 65535, 131071]
theorem twice6.tab : rtab .any (opsOf Try.f15 6) = twice6.T := by kernel_rfl
theorem twice6.bits : waitsOk twice6.T.2 twice6.B = true := by kernel_rfl
set_option maxRecDepth 100000 in
set_option maxHeartbeats 8000000 in
theorem twice_calls {w : World} (h : CS w n₀ g age now v L) (k : Int) (hs : Short L) :
    Calls Try.prog 15 #[.pointer (some ⟨g, 0, none⟩), .int .i64 k] w fun e w' => e = .returned (.int .i64 (twE L.length k)) ∧ ∃ v', CS w' n₀ g age now v' (twL k L) ∧ Fr g v w w' ∧ Newer w v v' := by
  by_cases hh : hasE L.length k = 0
  · have hk : 0 ≤ k ∧ k < L.length := by unfold hasE at hh; split at hh; assumption; omega
    by_cases hlt : L.length < 4096
    · obtain ⟨i, rfl⟩ := Int.eq_ofNat_of_zero_le hk.1
      have e1 : twE L.length (i : Int) = 0 := by unfold twE; rw [if_pos hh, if_pos hlt]
      have e2 : twL (i : Int) L = L ++ [L.getD i ([], [], 0)] := by unfold twL; rw [if_pos e1, Int.toNat_natCast]
      rw [e1, e2]
      have hil : i < L.length := by omega
      obtain ⟨Af, cf, e⟩ := h.slice
      subst e
      obtain ⟨gr, cap, eg, _, _, _⟩ := Kd.R_form h.row (by omega)
      injection eg with eA _ eC
      subst eA
      subst eC
      obtain ⟨f, A1, c1, A2, c2, hLi, hf0, hf1, hf2, hr1, hr2⟩ := fl_get h.row i hil
      have hfe : L.getD i ([], [], 0) = f := by rw [List.getD_eq_getElem?_getD, hLi]; rfl
      rw [hfe]
      have hsf := hs f (List.mem_of_getElem? hLi)
      have hc2 : w.cell? ⟨g, 2, none⟩ = some (.slice (some ⟨gr, 0, none⟩) L.length cf) := blk_cell h.blk 2
      have hlb : decide (4096 ≤ (L.length : Int)) = false := decide_eq_false (by omega)
      have hE : (hasE L.length (i : Int) != 0) = false := by rw [hh]; rfl
      have HHAS := Aside0.mk (chas_calls h (i : Int))
      have hbd : Below w.heap.size w w.drew := below_drew1 (Below.refl _ _)
      have HC := Aside0.mk (h.below hbd)
      have H1 := Aside0.mk (Kd.R_below hr1 hbd)
      have H2 := Aside0.mk (Kd.R_below hr2 hbd)
      have HLT := Aside0.mk hlt
      obtain ⟨nL, hnL⟩ : ∃ nL, nL = L.length := ⟨_, rfl⟩
      rw [← hnL] at hc2 hlb hE hil HHAS
      have HNL := Aside0.mk hnL
      obtain ⟨n1, hn1⟩ : ∃ n1, n1 = f.1.length := ⟨_, rfl⟩
      obtain ⟨n2, hn2⟩ : ∃ n2, n2 = f.2.1.length := ⟨_, rfl⟩
      obtain ⟨sn, hsn⟩ : ∃ sn, sn = f.2.2 := ⟨_, rfl⟩
      rw [← hn1] at hf0 hsf
      rw [← hn2] at hf1 hsf
      rw [← hsn] at hf2
      have HN1 := Aside0.mk hn1
      have HN2 := Aside0.mk hn2
      have HSN := Aside0.mk hsn
      have HSF := Aside0.mk hsf
      have HS := Aside0.mk (show w.drew.cell? ⟨g, 2, none⟩ = some (.slice (some ⟨gr, 0, none⟩) nL cf) ∧ w.drew.cell? ⟨gr, i * 3, none⟩ = some (.slice A1 n1 c1) ∧ w.drew.cell? ⟨gr, i * 3 + 1, none⟩ = some (.slice A2 n2 c2) ∧ w.drew.cell? ⟨gr, i * 3 + 2, none⟩ = some (.int .i64 sn) from ⟨hc2, hf0, hf1, hf2⟩)
      clear h hr1 hr2 hbd hlt hnL hn1 hn2 hsn hf0 hf1 hf2 hLi hfe hs hk e1 e2 hsf
      go_enter Try.func15, Try.ntmps15
      go_wp2_with (go_at_call 37; refine HHAS.out.mono ?_; rintro e w1 ⟨rfl, rfl⟩)
      clear hc2
      refine start_ (n := 18) (S := (fun w' => w'.cell? ⟨g, 2, none⟩ = some (.slice (some ⟨gr, 0, none⟩) nL cf) ∧ w'.cell? ⟨gr, i * 3, none⟩ = some (.slice A1 n1 c1) ∧ w'.cell? ⟨gr, i * 3 + 1, none⟩ = some (.slice A2 n2 c2) ∧ w'.cell? ⟨gr, i * 3 + 2, none⟩ = some (.int .i64 sn))) (ds := [14, 17]) #[false, false, false, false, false, false, false, false, false, false, false, false, false, false, false, false, false, false] (by kernel_rfl) rfl rfl HS.out (fun hHeld => ?_)
      refine with_tabW twice6.tab twice6.bits (fun HT_ HW_ => ?_)
      refine pure_ (i := 0) (N := some 18) (v := ?_) (a' := ?_) #[true, false, false, false, false, false, false, false, false, false, false, false, false, false, false, false, false, false] rfl rfl (any_of HT_.out (by kernel_rfl)) (fun _ _ _ h => h) (Or.inl ⟨by rfl, ?_⟩) ?_ ?_
      rotate_left
      · intro w'
        go_simp
        with_reducible rfl
      rotate_left
      · simp only [Act.put, List.setIfInBounds_toArray, List.set_cons_zero, List.set_cons_succ, i64_w, i32_w]
        rfl
      refine pure_ (i := 1) (N := some 19) (v := ?_) (a' := ?_) #[true, true, false, false, false, false, false, false, false, false, false, false, false, false, false, false, false, false] rfl rfl (any_of HT_.out (by kernel_rfl)) (fun _ _ _ h => h) (Or.inl ⟨by rfl, ?_⟩) ?_ ?_
      rotate_left
      · intro w'
        go_simp
        with_reducible rfl
      rotate_left
      · simp only [Act.put, List.setIfInBounds_toArray, List.set_cons_zero, List.set_cons_succ, i64_w, i32_w]
        rfl
      refine pure_ (i := 2) (N := some 20) (v := ?_) (a' := ?_) #[true, true, true, false, false, false, false, false, false, false, false, false, false, false, false, false, false, false] rfl rfl (any_of HT_.out (by kernel_rfl)) (fun _ _ _ h => h) (Or.inl ⟨by rfl, ?_⟩) ?_ ?_
      rotate_left
      · intro w'
        go_simp
        with_reducible rfl
      rotate_left
      · simp only [Act.put, List.setIfInBounds_toArray, List.set_cons_zero, List.set_cons_succ, i64_w, i32_w]
        rfl
      refine pure_ (i := 3) (N := some 21) (v := ?_) (a' := ?_) #[true, true, true, true, false, false, false, false, false, false, false, false, false, false, false, false, false, false] rfl rfl (any_of HT_.out (by kernel_rfl)) (fun _ _ _ h => h) (Or.inl ⟨by rfl, ?_⟩) ?_ ?_
      rotate_left
      · intro w'
        go_simp
        with_reducible rfl
      rotate_left
      · simp only [Act.put, List.setIfInBounds_toArray, List.set_cons_zero, List.set_cons_succ, i64_w, i32_w]
        rfl
      refine take_ (i := 4) (N := some 22) (v := ?_) (a' := ?_) #[true, true, true, true, true, false, false, false, false, false, false, false, false, false, false, false, false, false] rfl rfl (take_ofW HT_.out HW_.out (by kernel_rfl)) (fun _ _ _ h => h) (Or.inl ⟨by rfl, ?_⟩) hHeld ?_ ?_
      rotate_left
      · rintro w' ⟨s0, s1, s2, s3⟩
        go_simp
        with_reducible rfl
      rotate_left
      · simp only [Act.put, List.setIfInBounds_toArray, List.set_cons_zero, List.set_cons_succ, i64_w, i32_w]
        rfl
      refine pure_ (i := 5) (N := some 23) (v := ?_) (a' := ?_) #[true, true, true, true, true, true, false, false, false, false, false, false, false, false, false, false, false, false] rfl rfl (any_of HT_.out (by kernel_rfl)) (fun _ _ _ h => h) (Or.inl ⟨by rfl, ?_⟩) ?_ ?_
      rotate_left
      · intro w'
        go_simp
        with_reducible rfl
      rotate_left
      · simp only [Act.put, List.setIfInBounds_toArray, List.set_cons_zero, List.set_cons_succ, i64_w, i32_w]
        rfl
      refine pure_ (i := 6) (N := some 24) (v := ?_) (a' := ?_) #[true, true, true, true, true, true, true, false, false, false, false, false, false, false, false, false, false, false] rfl rfl (any_of HT_.out (by kernel_rfl)) (fun _ _ _ h => h) (Or.inl ⟨by rfl, ?_⟩) ?_ ?_
      rotate_left
      · intro w'
        go_simp
        with_reducible rfl
      rotate_left
      · simp only [Act.put, List.setIfInBounds_toArray, List.set_cons_zero, List.set_cons_succ, i64_w, i32_w]
        rfl
      refine pure_ (i := 7) (N := some 25) (v := ?_) (a' := ?_) #[true, true, true, true, true, true, true, true, false, false, false, false, false, false, false, false, false, false] rfl rfl (any_of HT_.out (by kernel_rfl)) (fun _ _ _ h => h) (Or.inl ⟨by rfl, ?_⟩) ?_ ?_
      rotate_left
      · intro w'
        go_simp
        with_reducible rfl
      rotate_left
      · simp only [Act.put, List.setIfInBounds_toArray, List.set_cons_zero, List.set_cons_succ, i64_w, i32_w]
        rfl
      refine take_ (i := 8) (N := some 26) (v := ?_) (a' := ?_) #[true, true, true, true, true, true, true, true, true, false, false, false, false, false, false, false, false, false] rfl rfl (take_ofW HT_.out HW_.out (by kernel_rfl)) (fun _ _ _ h => h) (Or.inl ⟨by rfl, ?_⟩) hHeld ?_ ?_
      rotate_left
      · rintro w' ⟨s0, s1, s2, s3⟩
        go_simp
        with_reducible rfl
      rotate_left
      · simp only [Act.put, List.setIfInBounds_toArray, List.set_cons_zero, List.set_cons_succ, i64_w, i32_w]
        rfl
      refine pure_ (i := 9) (N := some 27) (v := ?_) (a' := ?_) #[true, true, true, true, true, true, true, true, true, true, false, false, false, false, false, false, false, false] rfl rfl (any_of HT_.out (by kernel_rfl)) (fun _ _ _ h => h) (Or.inl ⟨by rfl, ?_⟩) ?_ ?_
      rotate_left
      · intro w'
        go_simp
        with_reducible rfl
      rotate_left
      · simp only [Act.put, List.setIfInBounds_toArray, List.set_cons_zero, List.set_cons_succ, i64_w, i32_w]
        rfl
      refine pure_ (i := 10) (N := some 28) (v := ?_) (a' := ?_) #[true, true, true, true, true, true, true, true, true, true, true, false, false, false, false, false, false, false] rfl rfl (any_of HT_.out (by kernel_rfl)) (fun _ _ _ h => h) (Or.inl ⟨by rfl, ?_⟩) ?_ ?_
      rotate_left
      · intro w'
        go_simp
        with_reducible rfl
      rotate_left
      · simp only [Act.put, List.setIfInBounds_toArray, List.set_cons_zero, List.set_cons_succ, i64_w, i32_w]
        rfl
      refine take_ (i := 11) (N := some 29) (v := ?_) (a' := ?_) #[true, true, true, true, true, true, true, true, true, true, true, true, false, false, false, false, false, false] rfl rfl (take_ofW HT_.out HW_.out (by kernel_rfl)) (fun _ _ _ h => h) (Or.inl ⟨by rfl, ?_⟩) hHeld ?_ ?_
      rotate_left
      · rintro w' ⟨s0, s1, s2, s3⟩
        go_simp
        with_reducible rfl
      rotate_left
      · simp only [Act.put, List.setIfInBounds_toArray, List.set_cons_zero, List.set_cons_succ, i64_w, i32_w]
        rfl
      refine one_ (i := 12) (N := some 30) #[true, true, true, true, true, true, true, true, true, true, true, true, true, false, false, false, false, false] rfl rfl (one_of HT_.out (by kernel_rfl)) (by decide) (fun K hK => ?_)
      refine goes_ Try.func38 (by kernel_rfl) rfl #[.agg #[.slice A1 n1 c1, .slice A2 n2 c2, .int .i64 sn]] (by rfl) rfl rfl (by (try simp only [List.map_toArray, List.map_cons, List.map_nil]); first | done | rfl | (go_simp; done) | simp [Act.eval]) ?_
      have hcl := copied_calls (f := f) (Kd.R_reads' H1.out).2.2 (Kd.R_reads' H1.out).2.1 (Kd.R_reads' H2.out).2.2 (Kd.R_reads' H2.out).2.1 (by rw [← HN1.out]; exact HSF.out.1) (by rw [← HN2.out]; exact HSF.out.2)
      rw [← HN1.out, ← HN2.out, ← HSN.out] at hcl
      refine hcl.mono ?_
      rintro e w1 ⟨v1, v2, rfl, hr1, hr2, hb1⟩
      clear hcl
      obtain ⟨B1, d1, q1⟩ := Kd.R_slice hr1
      obtain ⟨B2, d2, q2⟩ := Kd.R_slice hr2
      rw [← HN1.out] at q1
      rw [← HN2.out] at q2
      subst q1
      subst q2
      have H5 := Aside0.mk hr1
      have H6 := Aside0.mk hr2
      have HB1 := Aside0.mk hb1
      have HC1 := Aside0.mk (HC.out.below hb1)
      have hcg := (hb1.cell (p := ⟨g, 2, none⟩) HC.out.lt).trans HS.out.1
      have hgr : gr < w.drew.heap.size := by have := HC.out.own gr (by simp [Value.ownBlock]); omega
      have hcr := fun o => hb1.cell (p := ⟨gr, o, none⟩) hgr
      have HS1 := Aside0.mk (show w1.cell? ⟨g, 2, none⟩ = some (.slice (some ⟨gr, 0, none⟩) nL cf) ∧ w1.cell? ⟨gr, i * 3, none⟩ = some (.slice A1 n1 c1) ∧ w1.cell? ⟨gr, i * 3 + 1, none⟩ = some (.slice A2 n2 c2) ∧ w1.cell? ⟨gr, i * 3 + 2, none⟩ = some (.int .i64 sn) from ⟨hcg, (hcr _).trans HS.out.2.1, (hcr _).trans HS.out.2.2.1, (hcr _).trans HS.out.2.2.2⟩)
      clear hr1 hr2 hb1 hcg hgr hcr
      refine ⟨_, rfl, ?_⟩
      refine hK.out _ _ HS1.out (fun hHeld => ?_)
      clear hK K
      refine norm_ (a' := ?_) ?_ ?_
      rotate_left
      · show Act.put _ (some 30) _ = _
        simp only [Act.put, List.setIfInBounds_toArray, List.set_cons_zero, List.set_cons_succ, i64_w, i32_w]
        rfl
      refine one_ (i := 13) (N := some 31) #[true, true, true, true, true, true, true, true, true, true, true, true, true, true, false, false, false, false] rfl rfl (one_of HT_.out (by kernel_rfl)) (by decide) (fun K hK => ?_)
      have hb := below_alloc (Below.refl w1.heap.size w1) (.cells #[.slice B1 n1 d1, .slice B2 n2 d2, .int .i64 sn] 50)
      have hgr : gr < w1.heap.size := (HC1.out.own gr (by simp [Value.ownBlock])).2
      have HS2 : Aside0 ((w1.alloc (.cells #[.slice B1 n1 d1, .slice B2 n2 d2, .int .i64 sn] 50)).cell? ⟨g, 2, none⟩ = some (.slice (some ⟨gr, 0, none⟩) nL cf) ∧ (w1.alloc (.cells #[.slice B1 n1 d1, .slice B2 n2 d2, .int .i64 sn] 50)).cell? ⟨gr, i * 3, none⟩ = some (.slice A1 n1 c1) ∧ (w1.alloc (.cells #[.slice B1 n1 d1, .slice B2 n2 d2, .int .i64 sn] 50)).cell? ⟨gr, i * 3 + 1, none⟩ = some (.slice A2 n2 c2) ∧ (w1.alloc (.cells #[.slice B1 n1 d1, .slice B2 n2 d2, .int .i64 sn] 50)).cell? ⟨gr, i * 3 + 2, none⟩ = some (.int .i64 sn)) := Aside0.mk ⟨(hb.cell (p := ⟨g, 2, none⟩) HC1.out.lt).trans HS1.out.1, (hb.cell (p := ⟨gr, i * 3, none⟩) hgr).trans HS1.out.2.1, (hb.cell (p := ⟨gr, i * 3 + 1, none⟩) hgr).trans HS1.out.2.2.1, (hb.cell (p := ⟨gr, i * 3 + 2, none⟩) hgr).trans HS1.out.2.2.2⟩
      clear hb hgr
      refine value_ (w1 := ?_) (v := ?_) (by rfl) rfl ?_ ?_
      rotate_left 2
      · go_simp
        constructor
        · rfl
        · rfl
      refine hK.out _ _ HS2.out (fun hHeld => ?_)
      clear hK K
      refine norm_ (a' := ?_) ?_ ?_
      rotate_left
      · show Act.put _ (some 31) _ = _
        simp only [Act.put, List.setIfInBounds_toArray, List.set_cons_zero, List.set_cons_succ, i64_w, i32_w]
        rfl
      refine last_ (i := 14) (N := some 32) #[true, true, true, true, true, true, true, true, true, true, true, true, true, true, true, false, false, false] rfl rfl (one_of HT_.out (by kernel_rfl)) (by decide) (fun K hK => ?_)
      refine Kd.R_append_step kFl (w0 := w1) n₀ (by rfl) (.tmp 22) (.tmp 31) 65 50 (.agg #[.slice none 0 0, .slice none 0 0, .int .i64 0]) 56 rfl Try.underlying65 fl_info rfl (by decide) (by omega) (.slice (some ⟨gr, 0, none⟩) nL cf) L f [.slice B1 n1 d1, .slice B2 n2 d2, .int .i64 sn] (fun _ => True) (fun k => w.drew.heap.size ≤ k) (by first | rfl | (go_simp; done)) (by first | rfl | (go_simp; done) | (go_simp; rfl)) ?_ (fun k hk => ⟨trivial, fun e => by have := (HC.out.own k (by simpa [Value.ownBlock] using e.symm)).2; omega⟩) (fun _ _ => trivial) (by rw [HNL.out]; exact HC1.out.row) (Below.refl _ _) (by have := HC1.out.low; have := HC1.out.lt; omega) (by have := HLT.out; omega) ?_
      · rw [HN1.out, HN2.out, HSN.out]
        refine ⟨[.slice B1 f.1.length d1], [.slice B2 f.2.1.length d2, .int .i64 f.2.2], rfl, ⟨_, rfl, ?_⟩, [.slice B2 f.2.1.length d2], [.int .i64 f.2.2], rfl, ⟨_, rfl, ?_⟩, rfl⟩
        · exact Kd.R_lower (Kd.R_mono (Kd.R_bound (by rw [← HN1.out]; exact H5.out)) (fun k ok => ok.2.1)) (by have := HC.out.low; have := HC.out.lt; omega)
        · exact Kd.R_lower (Kd.R_mono (Kd.R_bound (by rw [← HN2.out]; exact H6.out)) (fun k ok => ok.2.1)) (by have := HC.out.low; have := HC.out.lt; omega)
      intro v29 w3 ho hb3 hg3 hat3
      obtain ⟨A29, c29, e29⟩ := Kd.R_slice ho
      obtain ⟨n29, hn29⟩ : ∃ n29, n29 = (L ++ [f]).length := ⟨_, rfl⟩
      rw [← hn29] at e29
      subst e29
      have HA := Aside0.mk (HC1.out.rowed (L' := L ++ [f]) ho (by rw [← HNL.out]; exact hg3) (by rcases hat3 with q | q; exact .inl (by rw [q]; rfl); exact .inr (.inl q)))
      have HBG := Aside0.mk ((hg3.block g HC1.out.lt (by have := HC1.out.ne; simpa [Value.ownBlock] using this)).trans HC1.out.blk)
      clear ho hb3 hg3 hat3 hn29
      refine hK.out _ _ ?_
      clear hK K
      refine norm_ (a' := ?_) ?_ ?_
      rotate_left
      · show Act.put _ (some 32) _ = _
        simp only [Act.put, List.setIfInBounds_toArray, List.set_cons_zero, List.set_cons_succ, i64_w, i32_w]
        rfl
      refine pure_ (i := 15) (N := some 33) (v := ?_) (a' := ?_) #[true, true, true, true, true, true, true, true, true, true, true, true, true, true, true, true, false, false] rfl rfl (any_of HT_.out (by kernel_rfl)) (fun _ _ _ h => h) (Or.inl ⟨by rfl, ?_⟩) ?_ ?_
      rotate_left
      · intro w'
        go_simp
        with_reducible rfl
      rotate_left
      · simp only [Act.put, List.setIfInBounds_toArray, List.set_cons_zero, List.set_cons_succ, i64_w, i32_w]
        rfl
      refine pure_ (i := 16) (N := some 34) (v := ?_) (a' := ?_) #[true, true, true, true, true, true, true, true, true, true, true, true, true, true, true, true, true, false] rfl rfl (any_of HT_.out (by kernel_rfl)) (fun _ _ _ h => h) (Or.inl ⟨by rfl, ?_⟩) ?_ ?_
      rotate_left
      · intro w'
        go_simp
        with_reducible rfl
      rotate_left
      · simp only [Act.put, List.setIfInBounds_toArray, List.set_cons_zero, List.set_cons_succ, i64_w, i32_w]
        rfl
      refine last_ (i := 17) (N := none) #[true, true, true, true, true, true, true, true, true, true, true, true, true, true, true, true, true, true] rfl rfl (one_of HT_.out (by kernel_rfl)) (by decide) (fun K hK => ?_)
      have hcg : w3.cell? ⟨g, 2, none⟩ = some (.slice (some ⟨gr, 0, none⟩) L.length cf) := blk_cell HBG.out 2
      have hfz := blk_frozen HBG.out 2
      refine skip_ (w1 := ?_) (by rfl) rfl ?_ ?_
      rotate_left 1
      · go_simp
        rfl
      refine hK.out _ _ ?_
      clear hK K
      refine done_ (done_of HT_.out (by kernel_rfl)) ?_
      clear hcg hfz
      obtain ⟨h1, h2, h3⟩ := HA.out
      generalize (w3.setCell ⟨g, 2, none⟩ (.slice A29 n29 c29)) = w4 at h1 h2 h3 ⊢
      have HE := Aside0.mk (And.intro h1 (And.intro h2 h3))
      clear h1 h2 h3
      go_wp2
      go_ret
      exact ⟨by simp, _, HE.out.1, (Fr.of_below (below_step (below_drew1 (Below.refl w.heap.size w)) HB1.out)).seq HE.out.2.1, (Newer.refl w _).trans HB1.out.size HE.out.2.2⟩
    · have e1 : twE L.length k = 8 := by unfold twE; rw [if_pos hh, if_neg hlt]
      have e2 : twL k L = L := by unfold twL; rw [if_neg (by rw [e1]; decide)]
      rw [e1, e2]
      have hlb : decide (4096 ≤ (L.length : Int)) = true := decide_eq_true (by omega)
      have hE : (hasE L.length k != 0) = false := by rw [hh]; rfl
      obtain ⟨Af, cf, e⟩ := h.slice
      subst e
      have hc2 : w.cell? ⟨g, 2, none⟩ = some (.slice Af L.length cf) := blk_cell h.blk 2
      have HHAS := Aside0.mk (chas_calls h k)
      have HC := Aside0.mk h
      clear h e1 e2 hh
      go_enter Try.func15, Try.ntmps15
      go_wp2_with (go_at_call 37; refine HHAS.out.mono ?_; rintro e w1 ⟨rfl, rfl⟩)
      go_ret
      exact ⟨by simp, _, HC.out, Fr.refl _ _ _, Newer.refl _ _⟩
  · have e0 : hasE L.length k = 9 := by unfold hasE at hh ⊢; split; simp_all; rfl
    have e1 : twE L.length k = 9 := by unfold twE; rw [if_neg hh]
    have e2 : twL k L = L := by unfold twL; rw [if_neg (by rw [e1]; decide)]
    rw [e1, e2]
    have HHAS := Aside0.mk (chas_calls h k)
    rw [e0] at HHAS
    have HC := Aside0.mk h
    clear h e1 e2 hh e0
    go_enter Try.func15, Try.ntmps15
    go_wp2_with (go_at_call 37; refine HHAS.out.mono ?_; rintro e w1 ⟨rfl, rfl⟩)
    go_ret
    exact ⟨by simp, _, HC.out, Fr.refl _ _ _, Newer.refl _ _⟩
end Go.Proofs.Ytfplmoeahbjfmaa.P
