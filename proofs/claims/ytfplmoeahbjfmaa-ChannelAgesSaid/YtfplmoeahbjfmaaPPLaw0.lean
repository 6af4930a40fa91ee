/- What the laws of chapter 34 share: a new joiner, what it tells, a message of a row, and the law's own first look. No condition but bounds. -/
import Derived.Test.YtfplmoeahbjfmaaPPTake
import Derived.Test.YtfplmoeahbjfmaaPPRef
namespace Go.Proofs.Ytfplmoeahbjfmaa.P
open Go Go.Proofs Go.RowKit Go.Shelf Go.Proofs.YtfplmoeahbjfmaaW.PrintWords Go.Proofs.YtfplmoeahbjfmaaW.PrintLast Go.Proofs.YtfplmoeahbjfmaaW.PrintMore
set_option linter.unusedVariables false
set_option linter.unusedSimpArgs false

set_option maxRecDepth 100000 in
set_option maxHeartbeats 4000000 in
theorem new_calls (w : World) (n₀ : Nat) (hn : n₀ ≤ w.heap.size) : Calls Try.prog 18 #[] w fun e w' => ∃ g, e = .returned (.pointer (some ⟨g, 0, none⟩)) ∧ g = w.heap.size ∧ JS w' n₀ g false (.slice none 0 0) [] 0 0 ∧ Below w.heap.size w w' := by
  go_enter Try.func18, Try.ntmps18
  go_wp2
  go_ret
  exact ⟨w.heap.size, by simp, rfl, ⟨blk_new _ _, Kd.R_nil _ _ _ _ _, hn, fun _ => ⟨rfl, rfl⟩⟩, below_alloc (Below.refl _ _) _⟩
set_option maxRecDepth 100000 in
set_option maxHeartbeats 4000000 in
theorem half_calls (w : World) (n₀ g : Nat) (u : Bool) (v : Value) (xs : List Int) (nx bd : Int) (h : JS w n₀ g u v xs nx bd) : Calls Try.prog 23 #[.pointer (some ⟨g, 0, none⟩)] w fun e w' => e = .returned (.int .i64 (xs.length : Int)) ∧ w = w' := by
  obtain ⟨A, c, e⟩ := Kd.R_slice h.row
  subst e
  have hc : w.cell? ⟨g, 1, none⟩ = some (.slice A xs.length c) := blk_cell h.blk 1
  clear h
  go_enter Try.func23, Try.ntmps23
  go_wp2
  go_ret
  exact ⟨by simp, rfl⟩
set_option maxRecDepth 100000 in
set_option maxHeartbeats 4000000 in
theorem bad_calls (w : World) (n₀ g : Nat) (u : Bool) (v : Value) (xs : List Int) (nx bd : Int) (h : JS w n₀ g u v xs nx bd) : Calls Try.prog 22 #[.pointer (some ⟨g, 0, none⟩)] w fun e w' => e = .returned (.int .i64 bd) ∧ w = w' := by
  have hc : w.cell? ⟨g, 3, none⟩ = some (.int .i64 bd) := blk_cell h.blk 3
  clear h
  go_enter Try.func22, Try.ntmps22
  go_wp2
  go_ret
  exact ⟨by simp, rfl⟩
/-- A row's element. -/
theorem rows_get {w : World} {n₀ : Nat} {ok : Nat → Prop} {gr : Nat} {n c : Nat} {rows : List (List Int)} (h : Kd.R kRow 31 w n₀ ok (.slice (some ⟨gr, 0, none⟩) n c) rows) (i : Nat) (hi : i < n) :
    ∃ A cp, w.cell? ⟨gr, i, none⟩ = some (.slice A (rows.getD i []).length cp) ∧ Kd.V (Kd.int .u8) 5 w 0 ok (.slice A (rows.getD i []).length cp) (rows.getD i []) := by
  obtain ⟨cs, hl, hM, hc⟩ := Kd.R_get h [] (i : Int) (by omega) (by omega)
  rw [Int.toNat_natCast] at hM hc
  obtain ⟨v, rfl, hv⟩ := hM
  obtain ⟨A, cp, rfl⟩ := Kd.R_slice hv
  refine ⟨A, cp, ?_, Kd.R_V (Kd.R_mono hv (fun _ ok => ok.1))⟩
  have := hc 0 _ rfl
  rw [add_at, Nat.zero_add] at this
  simpa [kRow, Kd.slice] using this
theorem msgs_get (l : List Int) (n i : Nat) (hi : i < n) : (msgs l n).getD i [] = msg l i := by
  unfold msgs
  rw [List.getD_eq_getElem?_getD, List.getElem?_map, List.getElem?_range hi]; rfl
theorem msgs_length (l : List Int) (n : Nat) : (msgs l n).length = n := by simp [msgs]
set_option maxRecDepth 100000 in
set_option maxHeartbeats 4000000 in
theorem splits_calls (w : World) : Calls Try.prog 17 #[] w fun e w' => e = .returned (.bool true) ∧ Below w.heap.size w w' := by
  have HR := Aside0.mk (const_reads w 5 .u8 [97] #[.int .u8 97] (1, 2) rfl (by decide))
  have HB := Aside0.mk (below_alloc (Below.refl w.heap.size w) (.cells #[.int .u8 97] 5 (1, 2)))
  have hmc : mcount [(97 : Int)].length = 1 := by decide
  have hmsg : msg [97] 0 = [192, 97] := by decide +kernel
  have kc := fun (w : World) (C : Array Value) (n c : Nat) => Lib.run_convert_bytes_const (P := Try.prog) w 31 5 C n c Try.underlying31 Try.underlying5
  go_enter Try.func17, Try.ntmps17
  go_wp2_with fail
  have hs := split_calls (some ⟨w.heap.size, 0, none⟩) 1 [97] _ HR.out (by decide) (by decide)
  simp only [if_pos (show [(97 : Int)].length ≤ 65536 by decide), hmc] at hs
  refine hs.mono ?_
  rintro e w1 ⟨v1, ⟨rfl, hr1⟩, hb1⟩
  have HB1 := Aside0.mk (below_step HB.out hb1)
  have hr1 := Kd.R_lower hr1 HB.out.size
  clear hs hb1 HR HB
  obtain ⟨g1, c1, e1, _, _, _⟩ := Kd.R_form hr1 (by rw [msgs_length]; decide)
  subst e1
  rw [msgs_length] at hr1 ⊢
  have HR1 := Aside0.mk hr1
  clear hr1 hmc kc
  go_wp2_with fail
  refine (new_calls _ w.heap.size HB1.out.size).mono ?_
  rintro e w2 ⟨g, rfl, hg, hj, hb2⟩
  have hrow := Kd.R_below HR1.out hb2
  have hrow2 := Kd.R_mono (Kd.R_bound (Kd.R_mono (Kd.R_bound HR1.out) (ok' := fun k => k < w1.heap.size) (fun k ok => ok.2.2.1))) (ok' := fun k => k ≠ g ∧ some k ≠ (Value.slice none 0 0).ownBlock) (fun k ok => ⟨by have := ok.1; omega, by simp [Value.ownBlock]⟩)
  have hrow3 := Kd.R_below hrow2 hb2
  obtain ⟨A2, c2, hcell, hmv⟩ := rows_get hrow3 0 (by decide)
  rw [msgs_get _ _ _ (by decide)] at hcell hmv
  rw [hmsg] at hcell hmv
  have HB2 := Aside0.mk (below_step HB1.out hb2)
  have HMV := Aside0.mk hmv
  have HROW := Aside0.mk hrow3
  have HJ := Aside0.mk hj
  have HG := Aside0.mk hg
  have HRAW := Aside0.mk hrow
  clear hrow hrow2 hrow3 hmv hg hj hb2 HB1 HR1 hmsg
  have hmsg : msg [97] 0 = [192, 97] := by decide +kernel
  have hs1 : ((strOfNums [192, 97]).toList == [192, 97]) = true := by decide +kernel
  have hs2 : ((strOfNums [97]).toList == [97]) = true := by decide +kernel
  go_wp2_with fail
  refine (take_calls w2 w.heap.size g false (.slice none 0 0) [] 0 0 A2 2 c2 [97] 0 HJ.out (by decide) (by decide) (.inl rfl) (by rw [hmsg]; exact HMV.out) (by decide) (by decide) (by decide) (by decide)).mono ?_
  rintro e w3 ⟨t, v3, rfl, ht, hj3, hf3, hn3, hs3⟩
  have hB3 : Below w.heap.size w w3 := HB2.out.trans (hf3.below HB2.out.size HJ.out.low (fun b hb => by simp [Value.ownBlock] at hb))
  have hrow := Kd.R_fr HROW.out hf3 hn3
  obtain ⟨A4, c4, hcell4, hmv4⟩ := rows_get hrow 0 (by decide)
  rw [msgs_get _ _ _ (by decide), hmsg] at hcell4 hmv4
  have hcv1 : (convert 31 9 (.slice A4 2 c4)).run Try.prog w3 = .ok (.string (strOfNums [192, 97])) w3 := Kd.C_string (P := Try.prog) (src := 31) (dst := 9) (e := 5) (c := c4) Try.underlying31 Try.underlying5 Try.underlying9 (Kd.V_reads' hmv4).2.2
  rw [if_pos (show 0 + 1 = mcount [(97 : Int)].length by decide)] at ht
  have hcv2 := own_string (P := Try.prog) Try.underlying31 Try.underlying5 Try.underlying9 (Kd.own_of_R ht)
  have hd : decide (0 + 1 = mcount [(97 : Int)].length) = true := by decide
  rw [hd]
  have HB3 := Aside0.mk hB3
  clear hB3 hrow hmv4 ht hj3 hf3 hn3 hs3 hd hmsg hcell
  go_wp2
  go_ret
  exact ⟨by simp [hs1, hs2], HB3.out⟩
end Go.Proofs.Ytfplmoeahbjfmaa.P
