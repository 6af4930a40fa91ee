/- channel.Channel's Take and Lose by hand. No condition but bounds. -/
import Derived.Test.YtfplmoeahbjfmaaPCDel
namespace Go.Proofs.Ytfplmoeahbjfmaa.P
open Go Go.Proofs Go.RowKit Go.Shelf Go.Proofs.YtfplmoeahbjfmaaW.PrintWords Go.Proofs.YtfplmoeahbjfmaaW.PrintLast Go.Proofs.YtfplmoeahbjfmaaW.PrintMore
set_option linter.unusedVariables false
set_option linter.unusedSimpArgs false

variable {n₀ g : Nat} {age now : Int} {v : Value} {L : List Fl}
def tkF (k : Int) (L : List Fl) : Fl := if hasE L.length k = 0 then L.getD k.toNat ([], [], 0) else ([], [], 0)
def tkL (k : Int) (L : List Fl) : List Fl := if hasE L.length k = 0 then L.eraseIdx k.toNat else L
def CTakePost (w : World) (n₀ g : Nat) (age now : Int) (v : Value) (L : List Fl) (k : Int) (e : Ending) (w' : World) : Prop :=
  ∃ v1 v2 v', e = .returned (.tuple #[.agg #[v1, v2, .int .i64 (tkF k L).2.2], .int .i64 (hasE L.length k)]) ∧ Kd.R (Kd.int .u8) 5 w' w.heap.size (fun _ => True) v1 (tkF k L).1 ∧ Kd.R (Kd.int .u8) 5 w' w.heap.size (fun _ => True) v2 (tkF k L).2.1 ∧
    CS w' n₀ g age now v' (tkL k L) ∧ Fr g v w w' ∧ Newer w v v'
set_option maxRecDepth 100000 in
set_option maxHeartbeats 8000000 in
theorem ctake_calls {w : World} (h : CS w n₀ g age now v L) (k : Int) (hs : Short L) (h5 : L.length ≤ 5000) :
    Calls Try.prog 25 #[.pointer (some ⟨g, 0, none⟩), .int .i64 k] w (CTakePost w n₀ g age now v L k) := by
  have hba := below_alloc (Below.refl w.heap.size w) (.cells #[.slice none 0 0, .slice none 0 0, .int .i64 0] 50)
  have h4 := h.below hba
  have b4 : (w.alloc (.cells #[.slice none 0 0, .slice none 0 0, .int .i64 0] 50)).heap[w.heap.size]? = some (.cells #[.slice none 0 0, .slice none 0 0, .int .i64 0] 50 (0, 0)) := blk_new _ _
  have HHAS := Aside0.mk (chas_calls h4 k)
  by_cases hh : hasE L.length k = 0
  · have hk : 0 ≤ k ∧ k < L.length := by unfold hasE at hh; split at hh; assumption; omega
    obtain ⟨i, rfl⟩ := Int.eq_ofNat_of_zero_le hk.1
    have hil : i < L.length := by omega
    rw [hh] at HHAS
    obtain ⟨Af, cf, e⟩ := h.slice
    subst e
    obtain ⟨gr, cap, eg, _, _, _⟩ := Kd.R_form h.row (by omega)
    injection eg with eA _ eC
    subst eA
    subst eC
    obtain ⟨f, A1, c1, A2, c2, hLi, hf0, hf1, hf2, hr1, hr2⟩ := fl_get h4.row i hil
    have hfe : L.getD i ([], [], 0) = f := by rw [List.getD_eq_getElem?_getD, hLi]; rfl
    have e1 : tkF (i : Int) L = f := by unfold tkF; rw [if_pos hh, Int.toNat_natCast, hfe]
    have e2 : tkL (i : Int) L = L.eraseIdx i := by unfold tkL; rw [if_pos hh, Int.toNat_natCast]
    have hsf := hs f (List.mem_of_getElem? hLi)
    have hc2 : (w.alloc (.cells #[.slice none 0 0, .slice none 0 0, .int .i64 0] 50)).cell? ⟨g, 2, none⟩ = some (.slice (some ⟨gr, 0, none⟩) L.length cf) := blk_cell h4.blk 2
    have hg4 : g < w.heap.size := h.lt
    have hgr4 : gr < w.heap.size := (h.own gr (by simp [Value.ownBlock])).2
    have hgne : g ≠ gr := by have := h.ne; simp [Value.ownBlock] at this; exact this
    have HH := Aside0.mk (And.intro hh (And.intro e1 e2))
    have H0 := Aside0.mk h
    have H4 := Aside0.mk h4
    have HR1 := Aside0.mk hr1
    have HR2 := Aside0.mk hr2
    have HSF := Aside0.mk hsf
    have B4 := Aside0.mk b4
    have HBA := Aside0.mk hba
    have H5 := Aside0.mk h5
    obtain ⟨nL, hnL⟩ : ∃ nL, nL = L.length := ⟨_, rfl⟩
    rw [← hnL] at hc2 hil
    have hn5 : nL ≤ 5000 := by rw [hnL]; exact h5
    have HNL := Aside0.mk hnL
    obtain ⟨n1, hn1⟩ : ∃ n1, n1 = f.1.length := ⟨_, rfl⟩
    obtain ⟨n2, hn2⟩ : ∃ n2, n2 = f.2.1.length := ⟨_, rfl⟩
    obtain ⟨sn, hsn⟩ : ∃ sn, sn = f.2.2 := ⟨_, rfl⟩
    rw [← hn1] at hf0
    rw [← hn2] at hf1
    rw [← hsn] at hf2
    have HN1 := Aside0.mk hn1
    have HN2 := Aside0.mk hn2
    have HSN := Aside0.mk hsn
    clear h h4 hr1 hr2 hnL hn1 hn2 hsn hLi hfe hs hk e1 e2 hsf hh b4 hba h5
    go_enter Try.func25, Try.ntmps25
    go_wp2_with (go_at_call 37; refine HHAS.out.mono ?_; rintro e w1 ⟨rfl, rfl⟩)
    obtain ⟨w2, hw2⟩ : ∃ w2, w2 = ((w.alloc (.cells #[.slice none 0 0, .slice none 0 0, .int .i64 0] 50)).alloc (.cells #[.slice A1 n1 c1, .slice A2 n2 c2, .int .i64 sn] 50)) := ⟨_, rfl⟩
    have hb12 := below_alloc (Below.refl (w.alloc (.cells #[.slice none 0 0, .slice none 0 0, .int .i64 0] 50)).heap.size (w.alloc (.cells #[.slice none 0 0, .slice none 0 0, .int .i64 0] 50))) (.cells #[.slice A1 n1 c1, .slice A2 n2 c2, .int .i64 sn] 50)
    rw [← hw2] at hb12 ⊢
    have hC2 := H4.out.below hb12
    have hb02 := below_step HBA.out hb12
    have h42 := (hb12.block w.heap.size (by rw [World.size_alloc]; omega)).trans B4.out
    have h72 : w2.heap[w.heap.size + 1]? = some (.cells #[.slice A1 n1 c1, .slice A2 n2 c2, .int .i64 sn] 50 (0, 0)) := by
      rw [hw2]
      have := blk_new (w.alloc (.cells #[.slice none 0 0, .slice none 0 0, .int .i64 0] 50)) (.cells #[.slice A1 n1 c1, .slice A2 n2 c2, .int .i64 sn] 50)
      rw [World.size_alloc] at this
      exact this
    have hR12 := Kd.R_below HR1.out hb12
    have hR22 := Kd.R_below HR2.out hb12
    have hz2 : w2.heap.size = w.heap.size + 2 := by rw [hw2, World.size_alloc, World.size_alloc]
    have hrow2 : Kd.R kFl 50 w2 n₀ (fun k => k < w.heap.size) (.slice (some ⟨gr, 0, none⟩) nL cf) L := by rw [HNL.out]; exact Kd.R_below (Kd.R_mono (Kd.R_bound H0.out.row) (fun k ok => ok.2.2.1)) hb02
    have hdel := del_calls hrow2 i hil hn5
    obtain ⟨b4, hb4⟩ : ∃ b4, b4 = w.heap.size := ⟨_, rfl⟩
    obtain ⟨b7, hb7⟩ : ∃ b7, b7 = w.heap.size + 1 := ⟨_, rfl⟩
    rw [← hb7] at h72
    rw [← hb4] at h42
    rw [← hb4] at hb7
    have hne7 : b7 ≠ gr := by omega
    have hne7g : b7 ≠ g := by omega
    have hne4 : b4 ≠ gr := by omega
    have hne4g : b4 ≠ g := by omega
    rw [← hb4, ← hb7]
    have HB02 := Aside0.mk hb02
    have HZ2 := Aside0.mk (And.intro hz2 hb4)
    have HC2 := Aside0.mk hC2
    have HR12 := Aside0.mk hR12
    have HR22 := Aside0.mk hR22
    clear hw2 hb12 hC2 hb02 hR12 hR22 hz2 hrow2 hb7 hb4 HR1 HR2 B4 HBA hc2 hf0 hf1 hf2 H4
    refine hdel.mono ?_
    rintro e w3 ⟨rfl, hro, hgr⟩
    obtain ⟨hc5, hf5, hn5'⟩ := HC2.out.rowed (v' := .slice (some ⟨gr, 0, none⟩) (nL - 1) cf) (w2 := w3) (Kd.R_mono hro (fun _ _ => trivial)) (by simpa [Value.ownBlock] using hgr) (.inl rfl)
    have hbg3 := (hgr.block g (by have := HZ2.out.1; omega) (fun e => hgne (by injection e))).trans HC2.out.blk
    have hc3 : w3.cell? ⟨g, 2, none⟩ = some (.slice (some ⟨gr, 0, none⟩) L.length cf) := blk_cell hbg3 2
    have hfz3 : w3.frozen? ⟨g, 2, none⟩ = false := blk_frozen hbg3 2
    have hro4 := Kd.R_set hro hbg3 (by decide) 2 (.slice (some ⟨gr, 0, none⟩) (nL - 1) cf)
    have h73 := (Below.heap_setCell w3 ⟨g, 2, none⟩ (.slice (some ⟨gr, 0, none⟩) (nL - 1) cf) b7 hne7g).trans ((hgr.block b7 (blk_lt h72) (fun e => hne7 (by injection e))).trans h72)
    have h43 := (Below.heap_setCell w3 ⟨g, 2, none⟩ (.slice (some ⟨gr, 0, none⟩) (nL - 1) cf) b4 hne4g).trans ((hgr.block b4 (blk_lt h42) (fun e => hne4 (by injection e))).trans h42)
    have HR13 := Aside0.mk (Kd.R_step (w1 := w3.setCell ⟨g, 2, none⟩ (.slice (some ⟨gr, 0, none⟩) (nL - 1) cf)) (Kd.R_types HR12.out HC2.out.blk (by decide)) (fun k ok hk => hf5.block k hk ok.2 (fun e => ok.1.2 (by simpa [Value.ownBlock] using e))))
    have HR23 := Aside0.mk (Kd.R_step (w1 := w3.setCell ⟨g, 2, none⟩ (.slice (some ⟨gr, 0, none⟩) (nL - 1) cf)) (Kd.R_types HR22.out HC2.out.blk (by decide)) (fun k ok hk => hf5.block k hk ok.2 (fun e => ok.1.2 (by simpa [Value.ownBlock] using e))))
    obtain ⟨w4, hw4⟩ : ∃ w4, w4 = w3.setCell ⟨g, 2, none⟩ (.slice (some ⟨gr, 0, none⟩) (nL - 1) cf) := ⟨_, rfl⟩
    rw [← hw4] at h73 h43 HR13 HR23 hc5 hf5 hro4
    have HRO := Aside0.mk hro4
    have HC5 := Aside0.mk hc5
    have HF5 := Aside0.mk hf5
    have HN5 := Aside0.mk hn5'
    have H73 := Aside0.mk h73
    have H43 := Aside0.mk h43
    have hd0 : w4.cell? ⟨b7, 0, none⟩ = some (.slice A1 n1 c1) := blk_cell h73 0
    have hd1 : w4.cell? ⟨b7, 1, none⟩ = some (.slice A2 n2 c2) := blk_cell h73 1
    have hd2 : w4.cell? ⟨b7, 2, none⟩ = some (.int .i64 sn) := blk_cell h73 2
    rw [hw4] at hd0 hd1 hd2
    have HW4 := Aside0.mk hw4
    clear hro hro4 hgr hc5 hf5 hn5' hbg3 h73 h43 h72 h42 hw4
    go_wp2_with fail
    rw [← HW4.out]
    have hcl := copied_calls (w := w4) (f := f) (Kd.R_reads' HR13.out).2.2 (Kd.R_reads' HR13.out).2.1 (Kd.R_reads' HR23.out).2.2 (Kd.R_reads' HR23.out).2.1 HSF.out.1 HSF.out.2
    rw [← HN1.out, ← HN2.out, ← HSN.out] at hcl
    refine hcl.mono ?_
    rintro e w5 ⟨v1, v2, rfl, hr1, hr2, hb5⟩
    clear hcl
    obtain ⟨B1, d1, q1⟩ := Kd.R_slice hr1
    obtain ⟨B2, d2, q2⟩ := Kd.R_slice hr2
    rw [← HN1.out] at q1
    rw [← HN2.out] at q2
    subst q1
    subst q2
    have h45 := (hb5.block b4 (blk_lt H43.out)).trans H43.out
    have he0 : w5.cell? ⟨b4, 0, none⟩ = some (.slice none 0 0) := blk_cell h45 0
    have he1 : w5.cell? ⟨b4, 1, none⟩ = some (.slice none 0 0) := blk_cell h45 1
    have he2 : w5.cell? ⟨b4, 2, none⟩ = some (.int .i64 0) := blk_cell h45 2
    have hfz5 := fun q => blk_frozen h45 q
    have H45 := Aside0.mk h45
    have HB5 := Aside0.mk hb5
    have HV1 := Aside0.mk hr1
    have HV2 := Aside0.mk hr2
    clear hr1 hr2 hb5 h45 hd0 hd1 hd2
    go_wp2_with fail
    have bF : (((w5.setCell ⟨b4, 0, none⟩ (.slice B1 n1 d1)).setCell ⟨b4, 1, none⟩ (.slice B2 n2 d2)).setCell ⟨b4, 2, none⟩ (.int .i64 sn)).heap[b4]? = some (.cells #[.slice B1 n1 d1, .slice B2 n2 d2, .int .i64 sn] 50 (0, 0)) :=
      blk_put (cs := #[.slice B1 n1 d1, .slice B2 n2 d2, .int .i64 0]) (blk_put (cs := #[.slice B1 n1 d1, .slice none 0 0, .int .i64 0]) (blk_put H45.out 0 _ rfl) 1 _ rfl) 2 _ rfl
    have hFF : ∀ k, k ≠ b4 → (((w5.setCell ⟨b4, 0, none⟩ (.slice B1 n1 d1)).setCell ⟨b4, 1, none⟩ (.slice B2 n2 d2)).setCell ⟨b4, 2, none⟩ (.int .i64 sn)).heap[k]? = w5.heap[k]? := fun k hk =>
      (Below.heap_setCell _ ⟨b4, 2, none⟩ _ k hk).trans ((Below.heap_setCell _ ⟨b4, 1, none⟩ _ k hk).trans (Below.heap_setCell _ ⟨b4, 0, none⟩ _ k hk))
    have hSZ : (((w5.setCell ⟨b4, 0, none⟩ (.slice B1 n1 d1)).setCell ⟨b4, 1, none⟩ (.slice B2 n2 d2)).setCell ⟨b4, 2, none⟩ (.int .i64 sn)).heap.size = w5.heap.size := by simp
    have hOS : Below w.heap.size w5 (((w5.setCell ⟨b4, 0, none⟩ (.slice B1 n1 d1)).setCell ⟨b4, 1, none⟩ (.slice B2 n2 d2)).setCell ⟨b4, 2, none⟩ (.int .i64 sn)) := ⟨rfl, rfl, rfl, by simp, fun k hk => hFF k (by have := HZ2.out.2; omega)⟩
    generalize (((w5.setCell ⟨b4, 0, none⟩ (.slice B1 n1 d1)).setCell ⟨b4, 1, none⟩ (.slice B2 n2 d2)).setCell ⟨b4, 2, none⟩ (.int .i64 sn)) = wF at bF hFF hSZ hOS ⊢
    refine bodyPost_ret (v := .tuple #[.agg #[.slice B1 n1 d1, .slice B2 n2 d2, .int .i64 sn], .int .i64 0]) ?_ rfl ?_
    · have e0 : wF.cell? ⟨b4, 0, none⟩ = some (.slice B1 n1 d1) := blk_cell bF 0
      have e1 : wF.cell? ⟨b4, 1, none⟩ = some (.slice B2 n2 d2) := blk_cell bF 1
      have e2 : wF.cell? ⟨b4, 2, none⟩ = some (.int .i64 sn) := blk_cell bF 2
      clear bF hFF hSZ hOS
      simp [results, Try.results25, go_sem, e0, e1, e2]
    · have hb44 : b4 < w4.heap.size := blk_lt H43.out
      have hw4 : w.heap.size ≤ w4.heap.size := by have := HZ2.out.2; omega
      refine ⟨.slice B1 n1 d1, .slice B2 n2 d2, .slice (some ⟨gr, 0, none⟩) (nL - 1) cf, ?_, ?_, ?_, ?_, ?_, ?_⟩
      · rw [HH.out.2.1, HH.out.1, HSN.out]
      · rw [HH.out.2.1]
        exact Kd.R_mono (Kd.R_lower (Kd.R_step (Kd.R_bound HV1.out) (fun k ok _ => hFF k (by have := ok.2.1; omega))) hw4) (fun _ _ => trivial)
      · rw [HH.out.2.1]
        exact Kd.R_mono (Kd.R_lower (Kd.R_step (Kd.R_bound HV2.out) (fun k ok _ => hFF k (by have := ok.2.1; omega))) hw4) (fun _ _ => trivial)
      · rw [HH.out.2.2]
        refine ⟨(hFF g hne4g.symm).trans (HC5.out.below HB5.out).blk, ?_, HC5.out.low⟩
        exact Kd.R_mono (Kd.R_step (Kd.R_below HRO.out HB5.out) (fun k ok _ => hFF k (by have := HZ2.out.2; omega))) (fun _ _ => trivial)
      · have h1 : Fr g (.slice (some ⟨gr, 0, none⟩) L.length cf) w w5 := ((Fr.of_below HB02.out).seq HF5.out).seq (Fr.of_below HB5.out)
        exact ⟨hOS.os.trans h1.os, hOS.tape.trans h1.tape, hOS.output.trans h1.output, Nat.le_trans h1.size (Nat.le_of_eq hSZ.symm), fun k hk hkg hkv => (hOS.block k hk).trans (h1.block k hk hkg hkv)⟩
      · exact .inl rfl
  · have e0 : hasE L.length k = 9 := by unfold hasE at hh ⊢; split; simp_all; rfl
    have e1 : tkF k L = ([], [], 0) := by unfold tkF; rw [if_neg hh]
    have e2 : tkL k L = L := by unfold tkL; rw [if_neg hh]
    rw [e0] at HHAS
    have H4 := Aside0.mk h4
    have HBA := Aside0.mk hba
    have HH := Aside0.mk (And.intro e0 (And.intro e1 e2))
    have hd0 : (w.alloc (.cells #[.slice none 0 0, .slice none 0 0, .int .i64 0] 50)).cell? ⟨w.heap.size, 0, none⟩ = some (.slice none 0 0) := blk_cell b4 0
    have hd1 : (w.alloc (.cells #[.slice none 0 0, .slice none 0 0, .int .i64 0] 50)).cell? ⟨w.heap.size, 1, none⟩ = some (.slice none 0 0) := blk_cell b4 1
    have hd2 : (w.alloc (.cells #[.slice none 0 0, .slice none 0 0, .int .i64 0] 50)).cell? ⟨w.heap.size, 2, none⟩ = some (.int .i64 0) := blk_cell b4 2
    have hfz := fun q => blk_frozen b4 q
    have B4 := Aside0.mk b4
    clear h h4 hh e0 e1 e2 hba b4
    go_enter Try.func25, Try.ntmps25
    go_wp2_with (go_at_call 37; refine HHAS.out.mono ?_; rintro e w1 ⟨rfl, rfl⟩)
    refine bodyPost_ret (v := .tuple #[.agg #[.slice none 0 0, .slice none 0 0, .int .i64 0], .int .i64 9]) ?_ rfl ?_
    · simp [results, Try.results25, go_sem, hd0, hd1, hd2]
    · refine ⟨.slice none 0 0, .slice none 0 0, v, ?_, ?_, ?_, ?_, Fr.of_below HBA.out, Newer.refl _ _⟩
      · rw [HH.out.2.1, HH.out.1]
      · rw [HH.out.2.1]; exact Kd.R_nil _ _ _ _ _
      · rw [HH.out.2.1]; exact Kd.R_nil _ _ _ _ _
      · rw [HH.out.2.2]; exact H4.out
set_option maxRecDepth 100000 in
set_option maxHeartbeats 8000000 in
theorem lose_calls {w : World} (h : CS w n₀ g age now v L) (k : Int) (hs : Short L) (h5 : L.length ≤ 5000) :
    Calls Try.prog 26 #[.pointer (some ⟨g, 0, none⟩), .int .i64 k] w fun e w' => e = .returned (.int .i64 (hasE L.length k)) ∧ ∃ v', CS w' n₀ g age now v' (tkL k L) ∧ Fr g v w w' ∧ Newer w v v' := by
  have HT := Aside0.mk (ctake_calls h k hs h5)
  clear h hs h5
  go_enter Try.func26, Try.ntmps26
  go_wp2_with (go_at_call 25; refine HT.out.mono ?_; rintro e w1 ⟨v1, v2, v', rfl, hr1, hr2, hc, hf, hn⟩; obtain ⟨B1, d1, q1⟩ := Kd.R_slice hr1; obtain ⟨B2, d2, q2⟩ := Kd.R_slice hr2; subst q1; subst q2; have HC := Aside0.mk hc; have HF := Aside0.mk hf; have HN := Aside0.mk hn; clear hr1 hr2 hc hf hn)
  go_ret
  exact ⟨by simp, v', HC.out.below (below_alloc (Below.refl _ _) _), HF.out.seq (Fr.of_below (below_alloc (Below.refl _ _) _)), HN.out⟩
end Go.Proofs.Ytfplmoeahbjfmaa.P
