/- channel.Channel's Put by hand. No condition but bounds. -/
import Derived.Test.YtfplmoeahbjfmaaPCChan0
namespace Go.Proofs.Ytfplmoeahbjfmaa.P
open Go Go.Proofs Go.RowKit Go.Shelf Go.Proofs.YtfplmoeahbjfmaaW.PrintWords Go.Proofs.YtfplmoeahbjfmaaW.PrintLast Go.Proofs.YtfplmoeahbjfmaaW.PrintMore
set_option linter.unusedVariables false
set_option linter.unusedSimpArgs false

variable {n₀ g : Nat} {age now : Int} {v : Value} {L : List Fl}
def putC (now : Int) (b : List Int) (L : List Fl) : List Fl := if L.length < 4096 then L ++ [(b, b, now)] else L
def PutPost (w : World) (n₀ g : Nat) (age now : Int) (v : Value) (L : List Fl) (e : Ending) (w' : World) : Prop := e = .returned (.tuple #[]) ∧ ∃ v', CS w' n₀ g age now v' L ∧ Fr g v w w' ∧ Newer w v v'
def put1.T : Bool × List (List Nat × List Nat) := (true, [([], []), ([], []), ([1], [1]), ([2], [2]), ([3], [3]), ([], []), ([5], [5]), ([], []), ([7, 6], [7]), ([], []), ([9], [9]), ([10], [10]), ([11], [11]), ([6, 8, 12], [6, 8, 12]), ([13], [13]), ([4, 14, 8], [4, 14]), ([0, 0, 1, 2, 3, 4, 5, 6, 7, 8, 9, 10, 11, 12, 13, 14, 15], [0]), ([16, 0, 1, 2, 3, 4, 5, 6, 7, 8, 9, 10, 11, 12, 13, 14, 15], [16]), ([17, 15, 15, 0, 1, 2, 3, 4, 5, 6, 7, 8, 9, 10, 11, 12, 13, 14, 15], [15, 17])])
def put1.B : List Nat := [0, 0, 2, 6, 14, 0, 32, 0, 224, 0, 512, 1536, 3584, 8160, 16352, 32766, 65535, 131071, 262143]
theorem put1.tab : rtab .any (opsOf Try.f12 1) = put1.T := by kernel_rfl
theorem put1.bits : waitsOk put1.T.2 put1.B = true := by kernel_rfl
set_option maxRecDepth 100000 in
set_option maxHeartbeats 8000000 in
theorem put_calls {w : World} (h : CS w n₀ g age now v L) (A : Option Addr) (c : Nat) (b : List Int) (hr : Kd.C (Kd.int .u8) w A b.length b) (hc : b.length ≤ c) (hb : b.length ≤ 100000) :
    Calls Try.prog 12 #[.pointer (some ⟨g, 0, none⟩), .slice A b.length c] w fun e w' => e = .returned (.tuple #[]) ∧ ∃ v', CS w' n₀ g age now v' (putC now b L) ∧ Fr g v w w' ∧ Newer w v v' := by
  obtain ⟨Af, cf, e⟩ := h.slice
  subst e
  have hc2 : w.cell? ⟨g, 2, none⟩ = some (.slice Af L.length cf) := blk_cell h.blk 2
  by_cases hlt : L.length < 4096
  · have e0 : putC now b L = L ++ [(b, b, now)] := by unfold putC; rw [if_pos hlt]
    rw [e0]
    have hlb : decide ((L.length : Int) < 4096) = true := decide_eq_true (by omega)
    have hbd : Below w.heap.size w w.drew := below_drew1 (Below.refl _ _)
    have HC := Aside0.mk (h.below hbd)
    have HR := Aside0.mk (Kd.C_below hr hbd)
    have HF := Aside0.mk hbd
    obtain ⟨nL, hnL⟩ : ∃ nL, nL = L.length := ⟨_, rfl⟩
    rw [← hnL] at hc2 hlb ⊢
    have HNL := Aside0.mk hnL
    have HS := Aside0.mk (show w.drew.cell? ⟨g, 2, none⟩ = some (.slice Af nL cf) ∧ w.drew.cell? ⟨g, 1, none⟩ = some (.int .i64 now) from ⟨hc2, blk_cell h.blk 1⟩)
    have HLT := Aside0.mk hlt
    obtain ⟨nb, hnb⟩ : ∃ nb, nb = b.length := ⟨_, rfl⟩
    have HNB := Aside0.mk hnb
    rw [← hnb] at hc ⊢
    clear h hr hbd hnL hlt hnb
    go_enter Try.func12, Try.ntmps12
    go_wp2_with fail
    clear hc2
    have HB := Aside0.mk (Below.refl w.drew.heap.size w.drew)
    refine start_ (n := 19) (S := (fun w' => w'.cell? ⟨g, 2, none⟩ = some (.slice Af nL cf) ∧ w'.cell? ⟨g, 1, none⟩ = some (.int .i64 now))) (ds := [18]) #[false, false, false, false, false, false, false, false, false, false, false, false, false, false, false, false, false, false, false] (by kernel_rfl) rfl rfl HS.out (fun hHeld => ?_)
    refine with_tabW put1.tab put1.bits (fun HT_ HW_ => ?_)
    refine pure_ (i := 0) (N := some 14) (v := ?_) (a' := ?_) #[true, false, false, false, false, false, false, false, false, false, false, false, false, false, false, false, false, false, false] rfl rfl (any_of HT_.out (by kernel_rfl)) (fun _ _ _ h => h) (Or.inl ⟨by rfl, ?_⟩) ?_ ?_
    rotate_left
    · intro w'
      go_simp
      with_reducible rfl
    rotate_left
    · simp only [Act.put, List.setIfInBounds_toArray, List.set_cons_zero, List.set_cons_succ, i64_w, i32_w]
      rfl
    refine pure_ (i := 1) (N := some 15) (v := ?_) (a' := ?_) #[true, true, false, false, false, false, false, false, false, false, false, false, false, false, false, false, false, false, false] rfl rfl (any_of HT_.out (by kernel_rfl)) (fun _ _ _ h => h) (Or.inl ⟨by rfl, ?_⟩) ?_ ?_
    rotate_left
    · intro w'
      go_simp
      with_reducible rfl
    rotate_left
    · simp only [Act.put, List.setIfInBounds_toArray, List.set_cons_zero, List.set_cons_succ, i64_w, i32_w]
      rfl
    refine pure_ (i := 2) (N := some 16) (v := ?_) (a' := ?_) #[true, true, true, false, false, false, false, false, false, false, false, false, false, false, false, false, false, false, false] rfl rfl (any_of HT_.out (by kernel_rfl)) (fun _ _ _ h => h) (Or.inl ⟨by rfl, ?_⟩) ?_ ?_
    rotate_left
    · intro w'
      go_simp
      with_reducible rfl
    rotate_left
    · simp only [Act.put, List.setIfInBounds_toArray, List.set_cons_zero, List.set_cons_succ, i64_w, i32_w]
      rfl
    refine pure_ (i := 3) (N := some 17) (v := ?_) (a' := ?_) #[true, true, true, true, false, false, false, false, false, false, false, false, false, false, false, false, false, false, false] rfl rfl (any_of HT_.out (by kernel_rfl)) (fun _ _ _ h => h) (Or.inl ⟨by rfl, ?_⟩) ?_ ?_
    rotate_left
    · intro w'
      go_simp
      with_reducible rfl
    rotate_left
    · simp only [Act.put, List.setIfInBounds_toArray, List.set_cons_zero, List.set_cons_succ, i64_w, i32_w]
      rfl
    refine take_ (i := 4) (N := some 18) (v := ?_) (a' := ?_) #[true, true, true, true, true, false, false, false, false, false, false, false, false, false, false, false, false, false, false] rfl rfl (take_ofW HT_.out HW_.out (by kernel_rfl)) (fun _ _ _ h => h) (Or.inl ⟨by rfl, ?_⟩) hHeld ?_ ?_
    rotate_left
    · rintro w' ⟨s0, s1⟩
      go_simp
      with_reducible rfl
    rotate_left
    · simp only [Act.put, List.setIfInBounds_toArray, List.set_cons_zero, List.set_cons_succ, i64_w, i32_w]
      rfl
    refine pure_ (i := 5) (N := some 19) (v := ?_) (a' := ?_) #[true, true, true, true, true, true, false, false, false, false, false, false, false, false, false, false, false, false, false] rfl rfl (any_of HT_.out (by kernel_rfl)) (fun _ _ _ h => h) (Or.inl ⟨by rfl, ?_⟩) ?_ ?_
    rotate_left
    · intro w'
      go_simp
      with_reducible rfl
    rotate_left
    · simp only [Act.put, List.setIfInBounds_toArray, List.set_cons_zero, List.set_cons_succ, i64_w, i32_w]
      rfl
    refine pure_ (i := 7) (N := some 21) (v := ?_) (a' := ?_) #[true, true, true, true, true, true, false, true, false, false, false, false, false, false, false, false, false, false, false] rfl rfl (any_of HT_.out (by kernel_rfl)) (fun _ _ _ h => h) (Or.inl ⟨by rfl, ?_⟩) ?_ ?_
    rotate_left
    · intro w'
      go_simp
      with_reducible rfl
    rotate_left
    · simp only [Act.put, List.setIfInBounds_toArray, List.set_cons_zero, List.set_cons_succ, i64_w, i32_w]
      rfl
    refine pure_ (i := 9) (N := some 23) (v := ?_) (a' := ?_) #[true, true, true, true, true, true, false, true, false, true, false, false, false, false, false, false, false, false, false] rfl rfl (any_of HT_.out (by kernel_rfl)) (fun _ _ _ h => h) (Or.inl ⟨by rfl, ?_⟩) ?_ ?_
    rotate_left
    · intro w'
      go_simp
      with_reducible rfl
    rotate_left
    · simp only [Act.put, List.setIfInBounds_toArray, List.set_cons_zero, List.set_cons_succ, i64_w, i32_w]
      rfl
    refine pure_ (i := 10) (N := some 24) (v := ?_) (a' := ?_) #[true, true, true, true, true, true, false, true, false, true, true, false, false, false, false, false, false, false, false] rfl rfl (any_of HT_.out (by kernel_rfl)) (fun _ _ _ h => h) (Or.inl ⟨by rfl, ?_⟩) ?_ ?_
    rotate_left
    · intro w'
      go_simp
      with_reducible rfl
    rotate_left
    · simp only [Act.put, List.setIfInBounds_toArray, List.set_cons_zero, List.set_cons_succ, i64_w, i32_w]
      rfl
    refine pure_ (i := 11) (N := some 25) (v := ?_) (a' := ?_) #[true, true, true, true, true, true, false, true, false, true, true, true, false, false, false, false, false, false, false] rfl rfl (any_of HT_.out (by kernel_rfl)) (fun _ _ _ h => h) (Or.inl ⟨by rfl, ?_⟩) ?_ ?_
    rotate_left
    · intro w'
      go_simp
      with_reducible rfl
    rotate_left
    · simp only [Act.put, List.setIfInBounds_toArray, List.set_cons_zero, List.set_cons_succ, i64_w, i32_w]
      rfl
    refine take_ (i := 12) (N := some 26) (v := ?_) (a' := ?_) #[true, true, true, true, true, true, false, true, false, true, true, true, true, false, false, false, false, false, false] rfl rfl (take_ofW HT_.out HW_.out (by kernel_rfl)) (fun _ _ _ h => h) (Or.inl ⟨by rfl, ?_⟩) hHeld ?_ ?_
    rotate_left
    · rintro w' ⟨s0, s1⟩
      go_simp
      with_reducible rfl
    rotate_left
    · simp only [Act.put, List.setIfInBounds_toArray, List.set_cons_zero, List.set_cons_succ, i64_w, i32_w]
      rfl
    refine one_ (i := 6) (N := some 20) #[true, true, true, true, true, true, true, true, false, true, true, true, true, false, false, false, false, false, false] rfl rfl (one_of HT_.out (by kernel_rfl)) (by decide) (fun K hK => ?_)
    refine goes_ Try.func34 (by kernel_rfl) rfl #[.slice A nb c] (by rfl) rfl rfl (by (try simp only [List.map_toArray, List.map_cons, List.map_nil]); first | done | rfl | (go_simp; done) | simp [Act.eval]) ?_
    have hcl := bytes_Clone.calls A c b b w.drew HR.out (by have := HNB.out; omega) (by unfold bytes_Clone.f; rw [if_pos (by omega)])
    rw [← HNB.out] at hcl
    refine hcl.mono ?_
    rintro e w1 ⟨v20, rfl, hr20, hb1⟩
    clear hcl
    obtain ⟨A20, c20, e20⟩ := Kd.R_slice hr20
    subst e20
    have H20 := Aside0.mk hr20
    have HB1 := Aside0.mk hb1
    have HC1 := Aside0.mk (HC.out.below hb1)
    have HR1 := Aside0.mk (Kd.C_below HR.out hb1)
    clear hr20 hb1
    refine ⟨_, rfl, ?_⟩
    refine hK.out _ _ ⟨by rw [HB1.out.cell (p := ⟨g, 2, none⟩) HC.out.lt]; exact HS.out.1, by rw [HB1.out.cell (p := ⟨g, 1, none⟩) HC.out.lt]; exact HS.out.2⟩ (fun hHeld => ?_)
    clear hK K
    refine norm_ (a' := ?_) ?_ ?_
    rotate_left
    · show Act.put _ (some 20) _ = _
      simp only [Act.put, List.setIfInBounds_toArray, List.set_cons_zero, List.set_cons_succ, i64_w, i32_w]
      rfl
    refine one_ (i := 8) (N := some 22) #[true, true, true, true, true, true, true, true, true, true, true, true, true, false, false, false, false, false, false] rfl rfl (one_of HT_.out (by kernel_rfl)) (by decide) (fun K hK => ?_)
    refine goes_ Try.func34 (by kernel_rfl) rfl #[.slice A nb c] (by rfl) rfl rfl (by (try simp only [List.map_toArray, List.map_cons, List.map_nil]); first | done | rfl | (go_simp; done) | simp [Act.eval]) ?_
    have hcl := bytes_Clone.calls A c b b w1 HR1.out (by have := HNB.out; omega) (by unfold bytes_Clone.f; rw [if_pos (by omega)])
    rw [← HNB.out] at hcl
    refine hcl.mono ?_
    rintro e w2 ⟨v22, rfl, hr22, hb2⟩
    clear hcl
    obtain ⟨A22, c22, e22⟩ := Kd.R_slice hr22
    subst e22
    have H22 := Aside0.mk hr22
    have HB2 := Aside0.mk (below_step HB1.out hb2)
    have HC2 := Aside0.mk (HC1.out.below hb2)
    have H20b := Aside0.mk (Kd.R_below H20.out hb2)
    have HSZ := Aside0.mk hb2.size
    clear hr22 hb2
    refine ⟨_, rfl, ?_⟩
    refine hK.out _ _ ⟨by rw [HB2.out.cell (p := ⟨g, 2, none⟩) HC.out.lt]; exact HS.out.1, by rw [HB2.out.cell (p := ⟨g, 1, none⟩) HC.out.lt]; exact HS.out.2⟩ (fun hHeld => ?_)
    clear hK K
    refine norm_ (a' := ?_) ?_ ?_
    rotate_left
    · show Act.put _ (some 22) _ = _
      simp only [Act.put, List.setIfInBounds_toArray, List.set_cons_zero, List.set_cons_succ, i64_w, i32_w]
      rfl
    refine pure_ (i := 13) (N := some 27) (v := ?_) (a' := ?_) #[true, true, true, true, true, true, true, true, true, true, true, true, true, true, false, false, false, false, false] rfl rfl (any_of HT_.out (by kernel_rfl)) (fun _ _ _ h => h) (Or.inl ⟨by rfl, ?_⟩) ?_ ?_
    rotate_left
    · intro w'
      go_simp
      with_reducible rfl
    rotate_left
    · simp only [Act.put, List.setIfInBounds_toArray, List.set_cons_zero, List.set_cons_succ, i64_w, i32_w]
      rfl
    refine one_ (i := 14) (N := some 28) #[true, true, true, true, true, true, true, true, true, true, true, true, true, true, true, false, false, false, false] rfl rfl (one_of HT_.out (by kernel_rfl)) (by decide) (fun K hK => ?_)
    skip
    refine value_ (w1 := ?_) (v := ?_) (by rfl) rfl ?_ ?_
    rotate_left 2
    · go_simp
      constructor
      · rfl
      · rfl
    refine hK.out _ _ ⟨(blk_cell (blk_alloc HC2.out.blk _) 2).trans (by rw [HNL.out]; rfl), blk_cell (blk_alloc HC2.out.blk _) 1⟩ (fun hHeld => ?_)
    clear hK K
    refine norm_ (a' := ?_) ?_ ?_
    rotate_left
    · show Act.put _ (some 28) _ = _
      simp only [Act.put, List.setIfInBounds_toArray, List.set_cons_zero, List.set_cons_succ, i64_w, i32_w]
      rfl
    refine one_ (i := 15) (N := some 29) #[true, true, true, true, true, true, true, true, true, true, true, true, true, true, true, true, false, false, false] rfl rfl (one_of HT_.out (by kernel_rfl)) (by decide) (fun K hK => ?_)
    refine Kd.R_append_step kFl (w0 := w2) n₀ (by rfl) (.tmp 18) (.tmp 28) 65 50 (.agg #[.slice none 0 0, .slice none 0 0, .int .i64 0]) 56 rfl Try.underlying65 fl_info rfl (by decide) (by omega) (.slice Af L.length cf) L (b, b, now) [.slice A20 b.length c20, .slice A22 b.length c22, .int .i64 now] (fun _ => True) (fun k => w.drew.heap.size ≤ k) (by first | rfl | (go_simp; done) | (rw [← HNL.out]; first | rfl | (go_simp; done))) (by first | rfl | (go_simp; done) | (go_simp; rfl)) ?_ (fun k hk => ⟨trivial, fun e => by have := (HC.out.own k e.symm).2; omega⟩) (fun _ _ => trivial) HC2.out.row (Below.refl _ _) (by have := HC2.out.low; have := HC2.out.lt; omega) (by have := HLT.out; omega) ?_
    · refine ⟨[.slice A20 b.length c20], [.slice A22 b.length c22, .int .i64 now], rfl, ⟨_, rfl, ?_⟩, [.slice A22 b.length c22], [.int .i64 now], rfl, ⟨_, rfl, ?_⟩, rfl⟩
      · exact Kd.R_lower (Kd.R_mono (Kd.R_bound H20b.out) (fun k ok => ok.2.1)) (by have := HC.out.low; have := HC.out.lt; omega)
      · exact Kd.R_lower (Kd.R_mono (Kd.R_bound H22.out) (fun k ok => Nat.le_trans HB1.out.size ok.2.1)) (by have := HC1.out.low; have := HC1.out.lt; omega)
    intro v29 w3 ho hb3 hg3 hat3
    obtain ⟨A29, c29, e29⟩ := Kd.R_slice ho
    obtain ⟨n29, hn29⟩ : ∃ n29, n29 = (L ++ [(b, b, now)]).length := ⟨_, rfl⟩
    rw [← hn29] at e29
    subst e29
    have HA := Aside0.mk (HC2.out.rowed ho hg3 (by rcases hat3 with q | q; exact .inl q; exact .inr (.inl q)))
    have HBG := Aside0.mk ((hg3.block g HC2.out.lt HC2.out.ne).trans HC2.out.blk)
    clear ho hb3 hg3 hat3 hn29
    refine hK.out _ _ ⟨(blk_cell HBG.out 2).trans (by rw [HNL.out]; rfl), blk_cell HBG.out 1⟩ (fun hHeld => ?_)
    clear hK K
    refine norm_ (a' := ?_) ?_ ?_
    rotate_left
    · show Act.put _ (some 29) _ = _
      simp only [Act.put, List.setIfInBounds_toArray, List.set_cons_zero, List.set_cons_succ, i64_w, i32_w]
      rfl
    refine pure_ (i := 16) (N := some 30) (v := ?_) (a' := ?_) #[true, true, true, true, true, true, true, true, true, true, true, true, true, true, true, true, true, false, false] rfl rfl (any_of HT_.out (by kernel_rfl)) (fun _ _ _ h => h) (Or.inl ⟨by rfl, ?_⟩) ?_ ?_
    rotate_left
    · intro w'
      go_simp
      with_reducible rfl
    rotate_left
    · simp only [Act.put, List.setIfInBounds_toArray, List.set_cons_zero, List.set_cons_succ, i64_w, i32_w]
      rfl
    refine pure_ (i := 17) (N := some 31) (v := ?_) (a' := ?_) #[true, true, true, true, true, true, true, true, true, true, true, true, true, true, true, true, true, true, false] rfl rfl (any_of HT_.out (by kernel_rfl)) (fun _ _ _ h => h) (Or.inl ⟨by rfl, ?_⟩) ?_ ?_
    rotate_left
    · intro w'
      go_simp
      with_reducible rfl
    rotate_left
    · simp only [Act.put, List.setIfInBounds_toArray, List.set_cons_zero, List.set_cons_succ, i64_w, i32_w]
      rfl
    refine last_ (i := 18) (N := none) #[true, true, true, true, true, true, true, true, true, true, true, true, true, true, true, true, true, true, true] rfl rfl (one_of HT_.out (by kernel_rfl)) (by decide) (fun K hK => ?_)
    have hcg : w3.cell? ⟨g, 2, none⟩ = some (.slice Af L.length cf) := blk_cell HBG.out 2
    have hfz := blk_frozen HBG.out 2
    refine skip_ (w1 := ?_) (by rfl) rfl ?_ ?_
    rotate_left 1
    · go_simp
      rfl
    refine hK.out _ _ ?_
    clear hK K
    refine done_ (done_of HT_.out (by kernel_rfl)) ?_
    clear hcg hfz
    obtain ⟨h1, h2, h3⟩ := HA.out
    generalize (w3.setCell ⟨g, 2, none⟩ (.slice A29 n29 c29)) = w4 at h1 h2 h3 ⊢
    have HE := Aside0.mk (And.intro h1 (And.intro h2 h3))
    clear h1 h2 h3
    go_wp2
    refine bodyPost_end (results_none rfl _ _ _) rfl ?_
    exact ⟨by simp, _, HE.out.1, by rw [HNL.out]; exact (Fr.of_below (Below.trans HF.out (below_step (Below.refl _ _) HB2.out))).seq HE.out.2.1, by rw [HNL.out]; exact (Newer.refl w _).trans HB2.out.size HE.out.2.2⟩
  · have e0 : putC now b L = L := by unfold putC; rw [if_neg hlt]
    rw [e0]
    have hlb : decide ((L.length : Int) < 4096) = false := decide_eq_false (by omega)
    have HC := Aside0.mk h
    clear h hr
    go_enter Try.func12, Try.ntmps12
    go_wp2
    refine bodyPost_end (results_none rfl _ _ _) rfl ?_
    exact ⟨by simp, _, HC.out, Fr.refl _ _ _, Newer.refl _ _⟩
end Go.Proofs.Ytfplmoeahbjfmaa.P
