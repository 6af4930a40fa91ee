/- channel.Channel's Step by hand. No condition but bounds. -/
import Derived.Test.YtfplmoeahbjfmaaPCDelF
namespace Go.Proofs.Ytfplmoeahbjfmaa.P
open Go Go.Proofs Go.RowKit Go.Shelf Go.Proofs.YtfplmoeahbjfmaaW.PrintWords Go.Proofs.YtfplmoeahbjfmaaW.PrintLast Go.Proofs.YtfplmoeahbjfmaaW.PrintMore
set_option linter.unusedVariables false
set_option linter.unusedSimpArgs false

variable {n₀ g : Nat} {age now : Int} {v : Value} {L : List Fl}
def step5.T : Bool × List (List Nat × List Nat) := (true, [([], []), ([], []), ([1], [1]), ([2], [2]), ([3], [3]), ([], []), ([4, 5], [4, 5]), ([0, 0, 1, 2, 3, 4, 5, 6], [0]), ([7, 0, 1, 2, 3, 4, 5, 6], [7]), ([8, 6, 6, 0, 1, 2, 3, 4, 5, 6], [6, 8])])
def step5.B : List Nat := [0, 0, 2, 6, 14, 0, 62, 127, 255, 511]
theorem step5.tab : rtab .any (opsOf Try.f13 5) = step5.T := by kernel_rfl
theorem step5.bits : waitsOk step5.T.2 step5.B = true := by kernel_rfl
/-- DeleteFunc of no row. -/
theorem delf_nil {w : World} {B : Nat} : Calls Try.prog 35 #[.slice none 0 0, .func (.func 36) #[] #[.pointer (some ⟨B, 0, none⟩)]] w fun e w' => e = .returned (.slice none 0 0) ∧ Below w.heap.size w w' := by
  have hidx : Calls Try.prog 52 #[.slice none 0 0, .func (.func 36) #[] #[.pointer (some ⟨B, 0, none⟩)]] w fun e w' => e = .returned (.int .i64 (-1)) ∧ w = w' := by
    go_enter Try.func52, Try.ntmps52
    go_wp2_with fail
    refine wp_loop_rounds 1 ?_
    rw [rounds_succ]
    go_wp2
    go_ret
    exact ⟨by simp, rfl⟩
  go_enter Try.func35, Try.ntmps35
  go_wp2_with (go_at_call 52; refine hidx.mono ?_; rintro e w1 ⟨rfl, rfl⟩)
  go_ret
  exact ⟨by simp, Below.refl _ _⟩
theorem delf_any {w : World} {B : Nat} {v2 : Value} (h : Cap w B g age now v2) (hr : Kd.R kFl 50 w n₀ (fun _ => True) v L) (hl : L.length ≤ 5000) (hn : 0 ≤ now ∧ now ≤ 100000) (hs : Since now L) :
    Calls Try.prog 35 #[v, .func (.func 36) #[] #[.pointer (some ⟨B, 0, none⟩)]] w fun e w' =>
      ∃ v', e = .returned v' ∧ Kd.R kFl 50 w' n₀ (fun _ => True) v' (keepL age now L) ∧ w.grownBy w' v.ownBlock ∧ v'.ownBlock = v.ownBlock := by
  obtain ⟨inner, ho⟩ := Kd.R_own hr
  rcases ho.2 with ⟨rfl, h0⟩ | ⟨gr, cap, cur, rfl, _⟩
  · have e : L = [] := List.eq_nil_of_length_eq_zero h0
    subst e
    refine delf_nil.mono ?_
    rintro e w' ⟨rfl, hb⟩
    exact ⟨_, rfl, Kd.R_nil _ _ _ _ _, grownBy_below hb, rfl⟩
  · refine (delf_calls h hr hl hn hs).mono ?_
    rintro e w' ⟨m, rfl, hr', hg⟩
    exact ⟨_, rfl, hr', by simpa [Value.ownBlock] using hg, rfl⟩
set_option maxRecDepth 100000 in
set_option maxHeartbeats 8000000 in
theorem step_calls {w : World} (h : CS w n₀ g age now v L) (hl : L.length ≤ 5000) (hn : 0 ≤ now ∧ now ≤ 10000) (hs : Since now L) :
    Calls Try.prog 13 #[.pointer (some ⟨g, 0, none⟩)] w fun e w' => e = .returned (.int .i64 ((L.length : Int) - ((keepL age (now + 1) L).length : Int))) ∧ ∃ v', CS w' n₀ g age (now + 1) v' (keepL age (now + 1) L) ∧ Fr g v w w' ∧ Newer w v v' := by
  obtain ⟨Af, cf, e⟩ := h.slice
  have hba := below_alloc (Below.refl w.heap.size w) (.cells #[.pointer (some ⟨g, 0, none⟩)] 24)
  have h1 := h.below hba
  have hB0 : (w.alloc (.cells #[.pointer (some ⟨g, 0, none⟩)] 24)).heap[w.heap.size]? = some (.cells #[.pointer (some ⟨g, 0, none⟩)] 24 (0, 0)) := blk_new _ _
  have hgB : g ≠ w.heap.size := by have := h.lt; omega
  obtain ⟨B, hB⟩ : ∃ B, B = w.heap.size := ⟨_, rfl⟩
  rw [← hB] at hB0 hgB
  have hc1 : (w.alloc (.cells #[.pointer (some ⟨g, 0, none⟩)] 24)).cell? ⟨g, 1, none⟩ = some (.int .i64 now) := blk_cell h1.blk 1
  have hfz := fun q => blk_frozen h1.blk q
  obtain ⟨hn0, hn1⟩ := hn
  obtain ⟨w2, hw2⟩ : ∃ w2, w2 = (w.alloc (.cells #[.pointer (some ⟨g, 0, none⟩)] 24)).setCell ⟨g, 1, none⟩ (.int .i64 (now + 1)) := ⟨_, rfl⟩
  have h2 := h1.now_ (now + 1)
  rw [← hw2] at h2
  have hB2 : w2.heap[B]? = some (.cells #[.pointer (some ⟨g, 0, none⟩)] 24 (0, 0)) := by rw [hw2]; exact (Below.heap_setCell _ ⟨g, 1, none⟩ _ B hgB.symm).trans hB0
  have hf2 : Fr g v w w2 := by rw [hw2]; exact (Fr.of_below hba).seq (Fr.set 1 _)
  have hbd : Below w2.heap.size w2 w2.drew := below_drew1 (Below.refl _ _)
  have hCap : Cap w2.drew B g age (now + 1) v := Cap.below ⟨hB2, h2.blk⟩ hbd
  have HDF := Aside0.mk (delf_any hCap (h2.below hbd).row hl ⟨by omega, by omega⟩ hs)
  have H2 := Aside0.mk h2
  have HF2 := Aside0.mk hf2
  have HBK := Aside0.mk (And.intro hB0 hB2)
  have HS := Aside0.mk (show w2.drew.cell? ⟨g, 2, none⟩ = some v ∧ w2.drew.cell? ⟨B, 0, none⟩ = some (.pointer (some ⟨g, 0, none⟩)) from ⟨blk_cell h2.blk 2, blk_cell hB2 0⟩)
  have hcb : (w.alloc (.cells #[.pointer (some ⟨g, 0, none⟩)] 24)).cell? ⟨w.heap.size, 0, none⟩ = some (.pointer (some ⟨g, 0, none⟩)) := by rw [← hB]; exact blk_cell hB0 0
  have hc2 : w2.cell? ⟨g, 2, none⟩ = some v := blk_cell h2.blk 2
  have hcb2 : w2.cell? ⟨B, 0, none⟩ = some (.pointer (some ⟨g, 0, none⟩)) := blk_cell hB2 0
  rw [e] at hc2
  have HE := Aside0.mk e
  have HB := Aside0.mk hB
  have HW2 := Aside0.mk hw2
  have HL := Aside0.mk hl
  rw [hw2] at hc2
  rw [hw2, hB] at hcb2
  have hgB2 : g ≠ w.heap.size := by rw [← hB]; exact hgB
  clear h h1 h2 hB0 hB2 hf2 hbd hCap e hB hw2 hgB hl hs hba
  go_enter Try.func13, Try.ntmps13
  go_wp2_with fail
  rw [← HW2.out, ← HB.out]
  clear hc1 hfz hcb hc2 hcb2 hgB2 HW2
  rw [HE.out] at HS HDF
  have hlen : L.length ≤ 5000 := HL.out
  refine start_ (n := 10) (S := (fun w' => w'.cell? ⟨g, 2, none⟩ = some (.slice Af L.length cf) ∧ w'.cell? ⟨B, 0, none⟩ = some (.pointer (some ⟨g, 0, none⟩)))) (ds := [9]) #[false, false, false, false, false, false, false, false, false, false] (by kernel_rfl) rfl rfl HS.out (fun hHeld => ?_)
  refine with_tabW step5.tab step5.bits (fun HT_ HW_ => ?_)
  refine take_ (i := 0) (N := some 18) (v := ?_) (a' := ?_) #[true, false, false, false, false, false, false, false, false, false] rfl rfl (take_ofW HT_.out HW_.out (by kernel_rfl)) (fun _ _ _ h => h) (Or.inl ⟨by rfl, ?_⟩) hHeld ?_ ?_
  rotate_left
  · rintro w' ⟨s0, s1⟩
    go_simp
    with_reducible rfl
  rotate_left
  · simp only [Act.put, List.setIfInBounds_toArray, List.set_cons_zero, List.set_cons_succ, i64_w, i32_w]
    rfl
  refine take_ (i := 1) (N := some 19) (v := ?_) (a' := ?_) #[true, true, false, false, false, false, false, false, false, false] rfl rfl (take_ofW HT_.out HW_.out (by kernel_rfl)) (fun _ _ _ h => h) (Or.inl ⟨by rfl, ?_⟩) hHeld ?_ ?_
  rotate_left
  · rintro w' ⟨s0, s1⟩
    go_simp
    with_reducible rfl
  rotate_left
  · simp only [Act.put, List.setIfInBounds_toArray, List.set_cons_zero, List.set_cons_succ, i64_w, i32_w]
    rfl
  refine pure_ (i := 2) (N := some 20) (v := ?_) (a' := ?_) #[true, true, true, false, false, false, false, false, false, false] rfl rfl (any_of HT_.out (by kernel_rfl)) (fun _ _ _ h => h) (Or.inl ⟨by rfl, ?_⟩) ?_ ?_
  rotate_left
  · intro w'
    go_simp
    with_reducible rfl
  rotate_left
  · simp only [Act.put, List.setIfInBounds_toArray, List.set_cons_zero, List.set_cons_succ, i64_w, i32_w]
    rfl
  refine pure_ (i := 3) (N := some 21) (v := ?_) (a' := ?_) #[true, true, true, true, false, false, false, false, false, false] rfl rfl (any_of HT_.out (by kernel_rfl)) (fun _ _ _ h => h) (Or.inl ⟨by rfl, ?_⟩) ?_ ?_
  rotate_left
  · intro w'
    go_simp
    with_reducible rfl
  rotate_left
  · simp only [Act.put, List.setIfInBounds_toArray, List.set_cons_zero, List.set_cons_succ, i64_w, i32_w]
    rfl
  refine take_ (i := 4) (N := some 22) (v := ?_) (a' := ?_) #[true, true, true, true, true, false, false, false, false, false] rfl rfl (take_ofW HT_.out HW_.out (by kernel_rfl)) (fun _ _ _ h => h) (Or.inl ⟨by rfl, ?_⟩) hHeld ?_ ?_
  rotate_left
  · rintro w' ⟨s0, s1⟩
    go_simp
    with_reducible rfl
  rotate_left
  · simp only [Act.put, List.setIfInBounds_toArray, List.set_cons_zero, List.set_cons_succ, i64_w, i32_w]
    rfl
  refine pure_ (i := 5) (N := some 23) (v := ?_) (a' := ?_) #[true, true, true, true, true, true, false, false, false, false] rfl rfl (any_of HT_.out (by kernel_rfl)) (fun _ _ _ h => h) (Or.inl ⟨by rfl, ?_⟩) ?_ ?_
  rotate_left
  · intro w'
    go_simp
    with_reducible rfl
  rotate_left
  · simp only [Act.put, List.setIfInBounds_toArray, List.set_cons_zero, List.set_cons_succ, i64_w, i32_w]
    rfl
  refine one_ (i := 6) (N := some 24) #[true, true, true, true, true, true, true, false, false, false] rfl rfl (one_of HT_.out (by kernel_rfl)) (by decide) (fun K hK => ?_)
  refine goes_ Try.func35 (by kernel_rfl) rfl #[.slice Af L.length cf, .func (.func 36) #[] #[.pointer (some ⟨B, 0, none⟩)]] (by rfl) rfl rfl (by (try simp only [List.map_toArray, List.map_cons, List.map_nil]); first | done | rfl | (go_simp; done) | simp [Act.eval]) ?_
  refine HDF.out.mono ?_
  rintro e w3 ⟨v3, rfl, hr3, hg3, hat⟩
  obtain ⟨A3, c3, e3⟩ := Kd.R_slice hr3
  obtain ⟨n3, hn3⟩ : ∃ n3, n3 = (keepL age (now + 1) L).length := ⟨_, rfl⟩
  rw [← hn3] at e3
  subst e3
  have hg3' : w2.drew.grownBy w3 v.ownBlock := by rw [HE.out]; exact hg3
  have hC2 := H2.out.below (w' := w2.drew) (below_drew1 (Below.refl _ _))
  have hr3b := hC2.rowed (L' := keepL age (now + 1) L) hr3 hg3' (.inl (by rw [HE.out]; exact hat))
  have hbg3 := (hg3'.block g hC2.lt hC2.ne).trans hC2.blk
  have hB3 := (hg3'.block B (blk_lt HBK.out.2) (fun e => by have hx := Kd.R_ne hC2.row HBK.out.2 (by decide); exact hx (e.trans rfl))).trans HBK.out.2
  have HA := Aside0.mk hr3b
  have HBG := Aside0.mk (And.intro hbg3 hB3)
  have HN3 := Aside0.mk hn3
  clear hr3 hg3 hat hn3 hg3' hC2 hr3b hbg3 hB3
  refine ⟨_, rfl, ?_⟩
  refine hK.out _ _ ⟨(blk_cell HBG.out.1 2).trans (by rw [HE.out]; rfl), blk_cell HBG.out.2 0⟩ (fun hHeld => ?_)
  clear hK K
  refine norm_ (a' := ?_) ?_ ?_
  rotate_left
  · show Act.put _ (some 24) _ = _
    simp only [Act.put, List.setIfInBounds_toArray, List.set_cons_zero, List.set_cons_succ, i64_w, i32_w]
    rfl
  refine pure_ (i := 7) (N := some 25) (v := ?_) (a' := ?_) #[true, true, true, true, true, true, true, true, false, false] rfl rfl (any_of HT_.out (by kernel_rfl)) (fun _ _ _ h => h) (Or.inl ⟨by rfl, ?_⟩) ?_ ?_
  rotate_left
  · intro w'
    go_simp
    with_reducible rfl
  rotate_left
  · simp only [Act.put, List.setIfInBounds_toArray, List.set_cons_zero, List.set_cons_succ, i64_w, i32_w]
    rfl
  refine pure_ (i := 8) (N := some 26) (v := ?_) (a' := ?_) #[true, true, true, true, true, true, true, true, true, false] rfl rfl (any_of HT_.out (by kernel_rfl)) (fun _ _ _ h => h) (Or.inl ⟨by rfl, ?_⟩) ?_ ?_
  rotate_left
  · intro w'
    go_simp
    with_reducible rfl
  rotate_left
  · simp only [Act.put, List.setIfInBounds_toArray, List.set_cons_zero, List.set_cons_succ, i64_w, i32_w]
    rfl
  refine last_ (i := 9) (N := none) #[true, true, true, true, true, true, true, true, true, true] rfl rfl (one_of HT_.out (by kernel_rfl)) (by decide) (fun K hK => ?_)
  have hcg : w3.cell? ⟨g, 2, none⟩ = some v := blk_cell HBG.out.1 2
  have hfz := blk_frozen HBG.out.1 2
  refine skip_ (w1 := ?_) (by rfl) rfl ?_ ?_
  rotate_left 1
  · go_simp
    rfl
  refine hK.out _ _ ?_
  clear hK K
  refine done_ (done_of HT_.out (by kernel_rfl)) ?_
  clear hcg hfz
  obtain ⟨h1, h2, h3⟩ := HA.out
  have hb4 := (Below.heap_setCell w3 ⟨g, 2, none⟩ (.slice A3 n3 c3) B (fun e => by have hx := HBG.out.2; rw [e, HBG.out.1] at hx; simp at hx)).trans HBG.out.2
  generalize (w3.setCell ⟨g, 2, none⟩ (.slice A3 n3 c3)) = w4 at h1 h2 h3 hb4 ⊢
  have hd1 : w4.cell? ⟨B, 0, none⟩ = some (.pointer (some ⟨g, 0, none⟩)) := blk_cell hb4 0
  have hd2 : w4.cell? ⟨g, 2, none⟩ = some (.slice A3 n3 c3) := blk_cell h1.blk 2
  have hn3b : n3 ≤ L.length := by rw [HN3.out]; exact List.length_filter_le _ _
  have HE4 := Aside0.mk (And.intro h1 (And.intro h2 h3))
  clear h1 h2 h3 hb4
  go_wp2
  go_ret
  exact ⟨by rw [← HN3.out]; rfl, _, HE4.out.1, (HF2.out.seq (Fr.of_below (below_drew1 (Below.refl _ _)))).seq HE4.out.2.1, (Newer.refl w _).trans HF2.out.size HE4.out.2.2⟩
end Go.Proofs.Ytfplmoeahbjfmaa.P
