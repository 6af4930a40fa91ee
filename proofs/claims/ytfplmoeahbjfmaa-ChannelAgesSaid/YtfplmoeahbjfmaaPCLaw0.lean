/- What the laws of chapter 26 share, and the law's own first look. No condition. -/
import Derived.Test.YtfplmoeahbjfmaaPCStep
import Derived.Test.YtfplmoeahbjfmaaPPSizes
namespace Go.Proofs.Ytfplmoeahbjfmaa.P
open Go Go.Proofs Go.RowKit Go.Shelf Go.Proofs.YtfplmoeahbjfmaaW.PrintWords Go.Proofs.YtfplmoeahbjfmaaW.PrintLast Go.Proofs.YtfplmoeahbjfmaaW.PrintMore
set_option linter.unusedVariables false
set_option linter.unusedSimpArgs false

structure CLS (w0 w : World) (g : Nat) (age now : Int) (v : Value) (L : List Fl) : Prop where
  cs : CS w w0.heap.size g age now v L
  bel : Below w0.heap.size w0 w
variable {w0 w w' : World} {g : Nat} {age now now' : Int} {v v' : Value} {L L' : List Fl}
theorem CLS.below (h : CLS w0 w g age now v L) (hb : Below w.heap.size w w') : CLS w0 w' g age now v L := ⟨h.cs.below hb, below_step h.bel hb⟩
theorem CLS.fr (h : CLS w0 w g age now v L) (hc : CS w' w0.heap.size g age now' v' L') (hf : Fr g v w w') : CLS w0 w' g age now' v' L' := ⟨hc, h.bel.trans (hf.below h.bel.size h.cs.low (fun b hb => (h.cs.own b hb).1))⟩
/-- A text lies apart from the channel. -/
theorem CLS.apart {b : Nat} {ok : Nat → Prop} {u : Value} {xs : List Int} (h : CLS w0 w g age now v L) (hr : Kd.R (Kd.int .u8) 5 w b ok u xs) : Kd.R (Kd.int .u8) 5 w b (fun k => k ≠ g ∧ some k ≠ v.ownBlock) u xs :=
  Kd.R_mono (Kd.R_bound hr) (fun k ok => by
    obtain ⟨_, _, _, q, hq, cells, hc⟩ := ok
    have hq5 : q = 5 := by simpa [Kd.int, Kd.scalar] using hq
    subst hq5
    refine ⟨fun e => ?_, fun e => ?_⟩
    · have hb := h.cs.blk; rw [← e, hc] at hb; injection hb with hb; injection hb with _ hb; exact absurd hb (by decide)
    · obtain ⟨c2, h2⟩ := Kd.R_typed h.cs.row k e.symm; rw [hc] at h2; injection h2 with h2; injection h2 with _ h2; exact absurd h2 (by decide))
set_option maxRecDepth 100000 in
set_option maxHeartbeats 8000000 in
theorem flies_calls (w : World) : Calls Try.prog 11 #[] w fun e w' => e = .returned (.bool true) ∧ Below w.heap.size w w' := by
  have kc := fun (w : World) (C : Array Value) (n c : Nat) => Lib.run_convert_bytes_const (P := Try.prog) w 31 5 C n c Try.underlying31 Try.underlying5
  have hs2 : ((strOfNums [98]).toList == [98]) = true := by decide +kernel
  go_enter Try.func11, Try.ntmps11
  go_wp2_with (go_at_call 10; refine (cnew_calls _ w.heap.size 2 (Nat.le_refl _) (by decide) (by decide)).mono ?_; rintro e w1 ⟨g, rfl, hg, hc, hb⟩; have H1 := Aside0.mk (CLS.mk (w0 := w) hc hb); clear hg hc hb)
  have HR1 := Aside0.mk (const_reads w1 5 .u8 [97] #[.int .u8 97] (1, 2) rfl (by decide))
  have H2 := Aside0.mk (H1.out.below (below_alloc (Below.refl w1.heap.size w1) (.cells #[.int .u8 97] 5 (1, 2))))
  refine (put_calls H2.out.cs (some ⟨w1.heap.size, 0, none⟩) 1 [97] HR1.out (by decide) (by decide)).mono ?_
  rintro e w2 ⟨rfl, v2, hc2, hf2, hn2⟩
  have H3 := Aside0.mk (H2.out.fr hc2 hf2)
  clear hc2 hf2 hn2 H2 HR1 H1
  go_wp2_with fail
  have HR2 := Aside0.mk (const_reads w2 5 .u8 [98] #[.int .u8 98] (1, 2) rfl (by decide))
  have H4 := Aside0.mk (H3.out.below (below_alloc (Below.refl w2.heap.size w2) (.cells #[.int .u8 98] 5 (1, 2))))
  refine (put_calls H4.out.cs (some ⟨w2.heap.size, 0, none⟩) 1 [98] HR2.out (by decide) (by decide)).mono ?_
  rintro e w3 ⟨rfl, v3, hc3, hf3, hn3⟩
  have hL : putC 0 [98] (putC 0 [97] []) = [([97], [97], 0), ([98], [98], 0)] := by decide
  rw [hL] at hc3
  have H5 := Aside0.mk (H4.out.fr hc3 hf3)
  clear hc3 hf3 hn3 H4 HR2 H3 hL kc
  go_wp2_with fail
  refine (ctake_calls H5.out.cs 1 (by intro f hf; simp at hf; rcases hf with rfl | rfl <;> decide) (by decide)).mono ?_
  rintro e w4 ⟨v41, v42, v4, rfl, hr1, hr2, hc4, hf4, hn4⟩
  have eF : tkF 1 [([97], [97], 0), ([98], [98], 0)] = ([98], [98], 0) := by decide
  have eL : tkL 1 [([97], [97], 0), ([98], [98], 0)] = [([97], [97], 0)] := by decide
  have eE : hasE [(([97], [97], 0) : Fl), ([98], [98], 0)].length 1 = 0 := by decide
  rw [eF, eE]
  rw [eF] at hr1 hr2
  rw [eL] at hc4
  obtain ⟨B1, d1, q1⟩ := Kd.R_slice hr1
  obtain ⟨B2, d2, q2⟩ := Kd.R_slice hr2
  subst q1
  subst q2
  have H6 := Aside0.mk (H5.out.fr hc4 hf4)
  have HV := Aside0.mk hr1
  clear hr1 hr2 hc4 hf4 hn4 eF eL eE H5
  go_wp2_with fail
  have hba := below_alloc (Below.refl w4.heap.size w4) (.cells #[.slice B1 1 d1, .slice B2 1 d2, .int .i64 0] 50)
  have hb3 : (w4.alloc (.cells #[.slice B1 1 d1, .slice B2 1 d2, .int .i64 0] 50)).heap[w4.heap.size]? = some (.cells #[.slice B1 1 d1, .slice B2 1 d2, .int .i64 0] 50 (0, 0)) := blk_new _ _
  obtain ⟨w5, hw5⟩ : ∃ w5, w5 = w4.alloc (.cells #[.slice B1 1 d1, .slice B2 1 d2, .int .i64 0] 50) := ⟨_, rfl⟩
  have hsz : w4.heap.size < w5.heap.size := by rw [hw5, World.size_alloc]; omega
  have h7 := H6.out.below hba
  have hv5 := Kd.R_below HV.out hba
  obtain ⟨b3, hb3e⟩ : ∃ b3, b3 = w4.heap.size := ⟨_, rfl⟩
  have hbg : b3 ≠ g := by have := H6.out.cs.lt; omega
  have hbo : some b3 ≠ v4.ownBlock := fun e => by have := (H6.out.cs.own b3 e.symm).2; omega
  rw [← hw5] at hb3 h7 hv5
  rw [← hb3e] at hb3 hsz
  rw [← hw5, ← hb3e]
  have HV5 := Aside0.mk (h7.apart hv5)
  have H7 := Aside0.mk h7
  clear hw5 hb3e h7 hv5 hba HV H6
  have e1 : ([(([97], [97], 0) : Fl)].length : Int) - ((keepL 2 (0 + 1) [([97], [97], 0)]).length : Int) = 0 := by decide
  have e2 : keepL 2 (0 + 1) [([97], [97], 0)] = [([97], [97], 0)] := by decide
  have hst := step_calls H7.out.cs (by decide) (by decide) (by intro f hf; simp at hf; rw [hf]; decide)
  rw [e1, e2] at hst
  refine hst.mono ?_
  rintro e w6 ⟨rfl, v6, hc6, hf6, hn6⟩
  have hb6 := (hf6.block b3 hsz hbg hbo).trans hb3
  have hn6o : some b3 ≠ v6.ownBlock := (apart_newer hn6 hsz ⟨hbg, hbo⟩).2
  have HV6 := Aside0.mk (Kd.R_fr HV5.out hf6 hn6)
  have H8 := Aside0.mk (H7.out.fr hc6 hf6)
  clear hst hc6 hf6 hn6 HV5 H7 hb3 hbo hsz e1 e2
  go_wp2_with fail
  have e1 : ([(([97], [97], 0) : Fl)].length : Int) - ((keepL 2 (0 + 1 + 1) [([97], [97], 0)]).length : Int) = 1 := by decide
  have e2 : keepL 2 (0 + 1 + 1) [([97], [97], 0)] = [] := by decide
  have hst := step_calls H8.out.cs (by decide) (by decide) (by intro f hf; simp at hf; rw [hf]; decide)
  rw [e1, e2] at hst
  refine hst.mono ?_
  rintro e w7 ⟨rfl, v7, hc7, hf7, hn7⟩
  have hb7 := (hf7.block b3 (blk_lt hb6) hbg hn6o).trans hb6
  have HV7 := Aside0.mk (Kd.R_fr HV6.out hf7 hn7)
  have H9 := Aside0.mk (H8.out.fr hc7 hf7)
  have hd0 : w7.cell? ⟨b3, 0, none⟩ = some (.slice B1 1 d1) := blk_cell hb7 0
  have hcv : (convert 31 9 (.slice B1 1 d1)).run Try.prog w7 = .ok (.string (strOfNums [98])) w7 := Kd.C_string (P := Try.prog) (src := 31) (dst := 9) (e := 5) (c := d1) Try.underlying31 Try.underlying5 Try.underlying9 (Kd.R_reads' HV7.out).2.2
  clear hst hc7 hf7 hn7 HV6 H8 hb6 hn6o e1 e2
  go_wp2_with (go_at_call 14; refine (clen_calls H9.out.cs).mono ?_; rintro e w8 ⟨rfl, rfl⟩)
  go_ret
  exact ⟨by simp [hs2], H9.out.bel⟩
end Go.Proofs.Ytfplmoeahbjfmaa.P
