/- pieces.Joiner's Take by hand: a text's messages, one behind the other. No condition but bounds. -/
import Derived.Test.YtfplmoeahbjfmaaPPRead
import Derived.Test.YtfplmoeahbjfmaaP6
namespace Go.Proofs.Ytfplmoeahbjfmaa.P
open Go Go.Proofs Go.RowKit Go.Shelf Go.Proofs.YtfplmoeahbjfmaaW.PrintWords Go.Proofs.YtfplmoeahbjfmaaW.PrintLast Go.Proofs.YtfplmoeahbjfmaaW.PrintMore
set_option linter.unusedVariables false
set_option linter.unusedSimpArgs false

def bd1 (u : Bool) (i : Nat) (bd : Int) : Int := if i = 0 ∧ u = true then bd + 1 else bd
theorem bd1_le {u : Bool} {i : Nat} {bd : Int} : bd ≤ bd1 u i bd ∧ bd1 u i bd ≤ bd + 1 := by unfold bd1; split <;> omega
/-- Where a text's message number i may come. -/
def May (l : List Int) (u : Bool) (xs : List Int) (nx : Int) (i : Nat) : Prop := i = 0 ∨ (u = true ∧ xs = l.take (63 * i) ∧ nx = (i : Int))
theorem mayMid_calls (w : World) (n₀ g : Nat) (u : Bool) (v : Value) (xs : List Int) (nx bd : Int) (l : List Int) (i : Nat) (y : Bool) (vp : Value) (h : JS w n₀ g u v xs nx bd) (hb0 : 0 ≤ bd) (hb1 : bd ≤ 1000000)
    (hM : May l u xs nx i) (hnx : 0 ≤ nx) (hnx1 : nx ≤ 1000000) (hvp : vp.oneCell' = true) :
    Calls Try.prog 43 #[.pointer (some ⟨g, 0, none⟩), .agg #[.bool (decide (i = 0)), .bool y, .int .i64 ((i % 64 : Nat) : Int), vp]] w fun e w' => e = .returned (.bool true) ∧
      ∃ v1, JS w' n₀ g true v1 (l.take (63 * i)) (i : Int) (bd1 u i bd) ∧ (v1 = v ∨ v1 = .slice none 0 0) ∧ Fr g v w w' ∧ w.heap.size ≤ w'.heap.size := by
  refine (may_calls w n₀ g u v xs nx bd (decide (i = 0)) y _ vp h hb0 hb1 ?_ ?_ hnx hnx1 hvp).mono ?_
  · intro e; rw [of_decide_eq_true e]; rfl
  · intro e
    have e := of_decide_eq_false e
    rcases hM with hM | ⟨hu, _, hn⟩
    · exact absurd hM e
    · exact ⟨hu, by rw [hn]; omega⟩
  · rintro e w' ⟨rfl, hj, hf, hs⟩
    refine ⟨rfl, ?_⟩
    by_cases h0 : i = 0
    · rw [decide_eq_true h0, if_pos rfl] at hj
      obtain ⟨v', hj, rfl⟩ := hj
      refine ⟨_, ?_, .inr rfl, hf, hs⟩
      subst h0
      have e1 : bd1 u 0 bd = if u = true then bd + 1 else bd := by unfold bd1; simp
      rw [e1]; exact hj
    · rw [decide_eq_false h0, if_neg (by simp)] at hj
      rcases hM with hM | ⟨hu, hx, hn⟩
      · exact absurd hM h0
      · refine ⟨v, ?_, .inl rfl, hf, hs⟩
        have e1 : bd1 u i bd = bd := by unfold bd1; rw [if_neg (fun e => h0 e.1)]
        rw [e1, ← hx, ← hn, ← hu]; exact hj
theorem JS.appended {w w2 : World} {n₀ g : Nat} {u : Bool} {v v' : Value} {xs ys : List Int} {nx bd : Int} (h : JS w n₀ g u v xs nx bd) (hu : u = true)
    (hr : Kd.R (Kd.int .u8) 5 w2 n₀ (fun _ => True) v' ys) (hg : w.grownBy w2 v.ownBlock) (hat : v'.ownBlock = v.ownBlock ∨ ∃ b, v'.ownBlock = some b ∧ w.heap.size ≤ b) :
    JS (w2.setCell ⟨g, 1, none⟩ v') n₀ g u v' ys nx bd ∧ Fr g v w (w2.setCell ⟨g, 1, none⟩ v') ∧ Newer w v v' := by
  have hb2 : w2.heap[g]? = some (.cells #[.bool u, v, .int .i64 nx, .int .i64 bd] 77 (0, 0)) := (hg.block g h.lt h.ne).trans h.blk
  have hne : some g ≠ v'.ownBlock := Kd.R_ne hr hb2 (by decide)
  refine ⟨⟨blk_put hb2 1 _ rfl, ?_, h.low, fun e => by rw [hu] at e; cases e⟩, ⟨hg.os, hg.tape, hg.output, by simpa using hg.size, fun k hk hkg hkv => ?_⟩, ?_⟩
  · obtain ⟨h0, inner, ho, hp⟩ := hr
    exact ⟨h0, inner, own_move ho (fun b hb => Below.heap_setCell w2 ⟨g, 1, none⟩ v' b (fun e => hne (by rw [hb]; exact congrArg some e.symm))), hp.imp_ (fun _ _ hm => hm)⟩
  · rw [Below.heap_setCell w2 ⟨g, 1, none⟩ v' k hkg]; exact hg.block k hk hkv
  · rcases hat with e | ⟨b, e, hb⟩
    · exact .inl e
    · exact .inr fun b' hb' => by rw [e] at hb'; injection hb' with hb'; omega
def TakePost (w : World) (n₀ g : Nat) (u : Bool) (v : Value) (bd : Int) (l : List Int) (i : Nat) (e : Ending) (w' : World) : Prop :=
  ∃ t v', e = .returned (.tuple #[t, .bool (decide (i + 1 = mcount l.length)), .int .i64 0]) ∧ Kd.R (Kd.int .u8) 5 w' w.heap.size (fun k => k ≠ g ∧ some k ≠ v'.ownBlock) t (if i + 1 = mcount l.length then l else []) ∧
    JS w' n₀ g (!decide (i + 1 = mcount l.length)) v' (if i + 1 = mcount l.length then [] else l.take (63 * (i + 1))) ((i + 1 : Nat) : Int) (bd1 u i bd) ∧ Fr g v w w' ∧ Newer w v v' ∧ w.heap.size ≤ w'.heap.size
theorem take_next (l : List Int) (i : Nat) : l.take (63 * i) ++ cont l i = l.take (63 * (i + 1)) := by
  unfold cont
  rw [show 63 * (i + 1) = 63 * i + 63 by omega]
  have h := List.take_append_drop (63 * i) (l.take (63 * i + 63))
  rw [List.take_take, show min (63 * i) (63 * i + 63) = 63 * i by omega] at h
  exact h
theorem take_last (l : List Int) (i : Nat) (h : i + 1 = mcount l.length) : l.take (63 * (i + 1)) = l := List.take_of_length_le (by unfold mcount at h; omega)
def take12.T : Bool × List (List Nat × List Nat) := (true, [([], []), ([], []), ([1], [1]), ([2], [2]), ([3], [3]), ([], []), ([5], [5]), ([4, 6], [4, 6]), ([0, 0, 1, 2, 3, 4, 5, 6, 7], [0]), ([8, 0, 1, 2, 3, 4, 5, 6, 7], [8]), ([9, 7, 7, 0, 1, 2, 3, 4, 5, 6, 7], [7, 9])])
def take12.B : List Nat := [0, 0, 2, 6, 14, 0, 32, 126, 255, 511, 1023]
theorem take12.tab : rtab .any (opsOf Try.f19 12) = take12.T := by kernel_rfl
theorem take12.bits : waitsOk take12.T.2 take12.B = true := by kernel_rfl
set_option maxRecDepth 100000 in
set_option maxHeartbeats 8000000 in
theorem take_calls (w : World) (n₀ g : Nat) (u : Bool) (v : Value) (xs : List Int) (nx bd : Int) (A : Option Addr) (n c : Nat) (l : List Int) (i : Nat) (h : JS w n₀ g u v xs nx bd) (hi : i < mcount l.length) (hl : l.length ≤ 65536)
    (hM : May l u xs nx i) (hm : MV w (fun k => k ≠ g ∧ some k ≠ v.ownBlock) (.slice A n c) (msg l i)) (hb0 : 0 ≤ bd) (hb1 : bd ≤ 1000000) (hnx : 0 ≤ nx) (hnx1 : nx ≤ 1000000) :
    Calls Try.prog 19 #[.pointer (some ⟨g, 0, none⟩), .slice A n c] w (TakePost w n₀ g u v bd l i) := by
  obtain ⟨x, hx⟩ : ∃ x, x = decide (i = 0) := ⟨_, rfl⟩
  obtain ⟨y, hy⟩ : ∃ y, y = decide (i + 1 = mcount l.length) := ⟨_, rfl⟩
  obtain ⟨r, hr⟩ : ∃ r : Int, r = ((i % 64 : Nat) : Int) := ⟨_, rfl⟩
  have hrd := read_calls w _ A n c l i hi hm
  rw [← hx, ← hy, ← hr] at hrd
  have hlc : (l.take (63 * i)).length + (cont l i).length ≤ 65536 := by
    have := congrArg List.length (take_next l i)
    rw [List.length_append] at this
    rw [this, List.length_take]; omega
  have HH := Aside0.mk h
  have HI := Aside0.mk hi
  have HLC := Aside0.mk hlc
  have HX := Aside0.mk hx
  have HY := Aside0.mk hy
  have HR := Aside0.mk hr
  have HRD := Aside0.mk hrd
  have HMAY := Aside0.mk hM
  have HM := Aside0.mk hm
  have HBN := Aside0.mk (And.intro (And.intro hb0 hb1) (And.intro hnx hnx1))
  have HL := Aside0.mk hl
  clear h hi hlc hx hy hr hrd hM hm hb0 hb1 hnx hnx1 hl
  go_enter Try.func19, Try.ntmps19
  go_wp2_with fail
  refine HRD.out.mono ?_
  rintro e w1 ⟨Ap, cp, rfl, hmv, hb⟩
  have HMV := Aside0.mk hmv
  have HB1 := Aside0.mk hb
  have HJ1 := Aside0.mk (HH.out.below hb)
  clear hmv hb HRD
  go_wp2_with fail
  have hmc := mayMid_calls (w1.alloc (.cells #[.bool x, .bool y, .int .i64 r, .slice Ap (cont l i).length cp] 79)) n₀ g u v xs nx bd l i y (.slice Ap (cont l i).length cp) (HJ1.out.below (below_alloc (Below.refl _ _) _)) HBN.out.1.1 HBN.out.1.2 HMAY.out HBN.out.2.1 HBN.out.2.2 rfl
  rw [← HX.out, ← HR.out] at hmc
  refine hmc.mono ?_
  rintro e w3 ⟨rfl, v1, hj3, hv1, hf3, hs3⟩
  clear hmc
  have hn1 : Newer w v v1 := by
    rcases hv1 with rfl | rfl
    · exact Newer.refl _ _
    · exact Newer.none _ _
  have hn1b : Newer (w1.alloc (.cells #[.bool x, .bool y, .int .i64 r, .slice Ap (cont l i).length cp] 79)) v v1 := by
    rcases hv1 with rfl | rfl
    · exact Newer.refl _ _
    · exact Newer.none _ _
  have hmv3 := Kd.V_fr (Kd.V_below HMV.out (below_alloc (Below.refl w1.heap.size w1) (.cells #[.bool x, .bool y, .int .i64 r, .slice Ap (cont l i).length cp] 79))) hf3 hn1b
  have hF3 : Fr g v w w3 := (Fr.of_below (below_step HB1.out (below_alloc (Below.refl _ _) _))).seq hf3
  obtain ⟨b7, hb7⟩ : ∃ b7, b7 = w1.heap.size := ⟨_, rfl⟩
  have hw7 : w.heap.size ≤ b7 := by rw [hb7]; exact HB1.out.size
  have hb3 : b7 < w3.heap.size := by rw [World.size_alloc] at hs3; omega
  have hg7 : g ≠ b7 := by have := HH.out.lt; omega
  have hv7 : ∀ b, v1.ownBlock = some b → b ≠ b7 := by
    intro b hb e
    rcases hv1 with rfl | rfl
    · have := (HH.out.own b hb).2; omega
    · simp [Value.ownBlock] at hb
  have bp : w3.heap[b7]? = some (.cells #[.bool x, .bool y, .int .i64 r, .slice Ap (cont l i).length cp] 79 (0, 0)) := by
    rw [hf3.block b7 (by rw [World.size_alloc]; omega) (fun e => hg7 e.symm) (fun e => by have := (HH.out.own b7 e.symm).2; omega), hb7]
    exact blk_new _ _
  rw [← hb7]
  have HJ3 := Aside0.mk hj3
  have HN1 := Aside0.mk hn1
  have HMV3 := Aside0.mk hmv3
  have HF3 := Aside0.mk hF3
  have HG7 := Aside0.mk hg7
  have HV7 := Aside0.mk hv7
  have HW7 := Aside0.mk (And.intro hw7 hb3)
  clear hj3 hv1 hf3 hs3 hn1 hn1b hmv3 hF3 hb7 hw7 hb3 hg7 hv7 HMV HB1 HJ1
  obtain ⟨A1, c1, e1⟩ := Kd.R_slice HJ3.out.row
  subst e1
  have hlc := HLC.out
  have hwl : wrap64 (((l.take (63 * i)).length : Int) + ((cont l i).length : Int)) = ((l.take (63 * i)).length : Int) + ((cont l i).length : Int) := by unfold wrap64; omega
  have hsd : decide ((65536 : Int) < ((l.take (63 * i)).length : Int) + ((cont l i).length : Int)) = false := decide_eq_false (by omega)
  have hsd2 : decide (((l.take (63 * i)).length : Int) + ((cont l i).length : Int) > 65536) = false := decide_eq_false (by omega)
  have hc1 : w3.cell? ⟨g, 1, none⟩ = some (.slice A1 (l.take (63 * i)).length c1) := blk_cell HJ3.out.blk 1
  have hp3 : w3.cell? ⟨b7, 3, none⟩ = some (.slice Ap (cont l i).length cp) := blk_cell bp 3
  have HBP := Aside0.mk bp
  clear bp
  generalize hLT : l.take (63 * i) = L at hlc hwl hsd hsd2 hc1 HJ3 HLC HV7 HN1 HMV3 ⊢
  have HLT := Aside0.mk hLT
  clear hLT
  go_wp2_with fail
  go_quiet (fail)
  go_wp2_with fail
  have hb5 : Below w3.heap.size w3 (w3.drewN nq).drew := below_drew1 (pw_below_drewN (Below.refl _ _) nq)
  have HJ5 := Aside0.mk (HJ3.out.below hb5)
  have HP5 := Aside0.mk (Kd.V_below HMV3.out hb5)
  have HBP5 := Aside0.mk ((hb5.block b7 HW7.out.2).trans HBP.out)
  have HF5 := Aside0.mk (HF3.out.seq (Fr.of_below (v := v) hb5))
  have HSZ := Aside0.mk (show w3.heap.size ≤ (w3.drewN nq).drew.heap.size from hb5.size)
  have HS := Aside0.mk (show (w3.drewN nq).drew.cell? ⟨g, 1, none⟩ = some (.slice A1 L.length c1) ∧ (w3.drewN nq).drew.cell? ⟨b7, 3, none⟩ = some (.slice Ap (cont l i).length cp) from ⟨blk_cell HJ5.out.blk 1, blk_cell HBP5.out 3⟩)
  clear hb5 hc1 hp3 HJ3 HMV3 HBP HF3
  refine start_ (n := 11) (S := (fun w' => w'.cell? ⟨g, 1, none⟩ = some (.slice A1 L.length c1) ∧ w'.cell? ⟨b7, 3, none⟩ = some (.slice Ap (cont l i).length cp))) (ds := [10]) #[false, false, false, false, false, false, false, false, false, false, false] (by kernel_rfl) rfl rfl HS.out (fun hHeld => ?_)
  refine with_tabW take12.tab take12.bits (fun HT_ HW_ => ?_)
  refine pure_ (i := 0) (N := some 37) (v := ?_) (a' := ?_) #[true, false, false, false, false, false, false, false, false, false, false] rfl rfl (any_of HT_.out (by kernel_rfl)) (fun _ _ _ h => h) (Or.inl ⟨by rfl, ?_⟩) ?_ ?_
  rotate_left
  · intro w'
    go_simp
    with_reducible rfl
  rotate_left
  · simp only [Act.put, List.setIfInBounds_toArray, List.set_cons_zero, List.set_cons_succ, i64_w, i32_w]
    rfl
  refine pure_ (i := 1) (N := some 38) (v := ?_) (a' := ?_) #[true, true, false, false, false, false, false, false, false, false, false] rfl rfl (any_of HT_.out (by kernel_rfl)) (fun _ _ _ h => h) (Or.inl ⟨by rfl, ?_⟩) ?_ ?_
  rotate_left
  · intro w'
    go_simp
    with_reducible rfl
  rotate_left
  · simp only [Act.put, List.setIfInBounds_toArray, List.set_cons_zero, List.set_cons_succ, i64_w, i32_w]
    rfl
  refine pure_ (i := 2) (N := some 39) (v := ?_) (a' := ?_) #[true, true, true, false, false, false, false, false, false, false, false] rfl rfl (any_of HT_.out (by kernel_rfl)) (fun _ _ _ h => h) (Or.inl ⟨by rfl, ?_⟩) ?_ ?_
  rotate_left
  · intro w'
    go_simp
    with_reducible rfl
  rotate_left
  · simp only [Act.put, List.setIfInBounds_toArray, List.set_cons_zero, List.set_cons_succ, i64_w, i32_w]
    rfl
  refine pure_ (i := 3) (N := some 40) (v := ?_) (a' := ?_) #[true, true, true, true, false, false, false, false, false, false, false] rfl rfl (any_of HT_.out (by kernel_rfl)) (fun _ _ _ h => h) (Or.inl ⟨by rfl, ?_⟩) ?_ ?_
  rotate_left
  · intro w'
    go_simp
    with_reducible rfl
  rotate_left
  · simp only [Act.put, List.setIfInBounds_toArray, List.set_cons_zero, List.set_cons_succ, i64_w, i32_w]
    rfl
  refine take_ (i := 4) (N := some 41) (v := ?_) (a' := ?_) #[true, true, true, true, true, false, false, false, false, false, false] rfl rfl (take_ofW HT_.out HW_.out (by kernel_rfl)) (fun _ _ _ h => h) (Or.inl ⟨by rfl, ?_⟩) hHeld ?_ ?_
  rotate_left
  · rintro w' ⟨s0, s1⟩
    go_simp
    with_reducible rfl
  rotate_left
  · simp only [Act.put, List.setIfInBounds_toArray, List.set_cons_zero, List.set_cons_succ, i64_w, i32_w]
    rfl
  refine pure_ (i := 5) (N := some 42) (v := ?_) (a' := ?_) #[true, true, true, true, true, true, false, false, false, false, false] rfl rfl (any_of HT_.out (by kernel_rfl)) (fun _ _ _ h => h) (Or.inl ⟨by rfl, ?_⟩) ?_ ?_
  rotate_left
  · intro w'
    go_simp
    with_reducible rfl
  rotate_left
  · simp only [Act.put, List.setIfInBounds_toArray, List.set_cons_zero, List.set_cons_succ, i64_w, i32_w]
    rfl
  refine take_ (i := 6) (N := some 43) (v := ?_) (a' := ?_) #[true, true, true, true, true, true, true, false, false, false, false] rfl rfl (take_ofW HT_.out HW_.out (by kernel_rfl)) (fun _ _ _ h => h) (Or.inl ⟨by rfl, ?_⟩) hHeld ?_ ?_
  rotate_left
  · rintro w' ⟨s0, s1⟩
    go_simp
    with_reducible rfl
  rotate_left
  · simp only [Act.put, List.setIfInBounds_toArray, List.set_cons_zero, List.set_cons_succ, i64_w, i32_w]
    rfl
  refine one_ (i := 7) (N := some 44) #[true, true, true, true, true, true, true, true, false, false, false] rfl rfl (one_of HT_.out (by kernel_rfl)) (by decide) (fun K hK => ?_)
  refine Kd.R_append_rows_step (Kd.int .u8) (w0 := (w3.drewN nq).drew) n₀ (by rfl) (.tmp 41) (.tmp 43) 31 5 (.int .u8 0) 1 rfl Try.underlying31 u8_infoS rfl (by decide) (by omega) (.slice A1 L.length c1) L (cont l i) Ap (cont l i).length cp (fun _ => True) (fun _ => False) (by first | rfl | (go_simp; done)) (by first | rfl | (go_simp; done)) HJ5.out.row (Kd.V_reads' HP5.out).2.2 (fun _ _ h => h) (fun _ h => h.elim) (fun _ _ => trivial) (Below.refl _ _) (by have := HJ5.out.low; have := HJ5.out.lt; omega) (by have := HLC.out; omega) ?_
  intro v6 w6 ho hb hg hat
  obtain ⟨A6, c6, e6⟩ := Kd.R_slice ho
  obtain ⟨n6, hn6⟩ : ∃ n6, n6 = (L ++ cont l i).length := ⟨_, rfl⟩
  rw [← hn6] at e6
  subst e6
  have HN6 := Aside0.mk hn6
  clear hn6
  have HA := Aside0.mk (HJ5.out.appended rfl ho hg hat)
  have HG := Aside0.mk hg
  have hbp6 := (hg.block b7 (blk_lt HBP5.out) (fun e => HV7.out b7 e.symm rfl)).trans HBP5.out
  have hbg6 := (hg.block g HJ5.out.lt HJ5.out.ne).trans HJ5.out.blk
  have HBP6 := Aside0.mk hbp6
  have HBG6 := Aside0.mk hbg6
  clear ho hb hg hat hbp6 hbg6
  refine hK.out _ _ ⟨blk_cell HBG6.out 1, blk_cell HBP6.out 3⟩ (fun hHeld => ?_)
  clear hK K
  refine norm_ (a' := ?_) ?_ ?_
  rotate_left
  · show Act.put _ (some 44) _ = _
    simp only [Act.put, List.setIfInBounds_toArray, List.set_cons_zero, List.set_cons_succ, i64_w, i32_w]
    rfl
  refine pure_ (i := 8) (N := some 45) (v := ?_) (a' := ?_) #[true, true, true, true, true, true, true, true, true, false, false] rfl rfl (any_of HT_.out (by kernel_rfl)) (fun _ _ _ h => h) (Or.inl ⟨by rfl, ?_⟩) ?_ ?_
  rotate_left
  · intro w'
    go_simp
    with_reducible rfl
  rotate_left
  · simp only [Act.put, List.setIfInBounds_toArray, List.set_cons_zero, List.set_cons_succ, i64_w, i32_w]
    rfl
  refine pure_ (i := 9) (N := some 46) (v := ?_) (a' := ?_) #[true, true, true, true, true, true, true, true, true, true, false] rfl rfl (any_of HT_.out (by kernel_rfl)) (fun _ _ _ h => h) (Or.inl ⟨by rfl, ?_⟩) ?_ ?_
  rotate_left
  · intro w'
    go_simp
    with_reducible rfl
  rotate_left
  · simp only [Act.put, List.setIfInBounds_toArray, List.set_cons_zero, List.set_cons_succ, i64_w, i32_w]
    rfl
  refine last_ (i := 10) (N := none) #[true, true, true, true, true, true, true, true, true, true, true] rfl rfl (one_of HT_.out (by kernel_rfl)) (by decide) (fun K hK => ?_)
  have hc1 : w6.cell? ⟨g, 1, none⟩ = some (.slice A1 L.length c1) := blk_cell HBG6.out 1
  have hfz := blk_frozen HBG6.out 1
  refine skip_ (w1 := ?_) (by rfl) rfl ?_ ?_
  rotate_left 1
  · go_simp
    rfl
  refine hK.out _ _ ?_
  clear hK K
  refine done_ (done_of HT_.out (by kernel_rfl)) ?_
  clear hc1 hfz HS HP5
  obtain ⟨hj7, hf7, hn7⟩ := HA.out
  have hbp7 : (w6.setCell ⟨g, 1, none⟩ (.slice A6 n6 c6)).heap[b7]? = some (.cells #[.bool x, .bool y, .int .i64 r, .slice Ap (cont l i).length cp] 79 (0, 0)) := (Below.heap_setCell w6 ⟨g, 1, none⟩ _ b7 (fun e => HG7.out e.symm)).trans HBP6.out
  generalize (w6.setCell ⟨g, 1, none⟩ (.slice A6 n6 c6)) = w7 at hj7 hf7 hbp7 ⊢
  have hF7 : Fr g v w w7 := HF5.out.trans HN1.out hf7
  have hN7 : Newer w v (.slice A6 n6 c6) := HN1.out.trans (HF5.out.size) hn7
  clear hf7 hn7 HA HG HBP6 HBG6 HBP5 HF5 HJ5 HN1
  have HJ7 := Aside0.mk hj7
  have HF7 := Aside0.mk hF7
  have HN7 := Aside0.mk hN7
  have hc2 : w7.cell? ⟨g, 2, none⟩ = some (.int .i64 (i : Int)) := blk_cell hj7.blk 2
  have hfz := fun q => blk_frozen hj7.blk q
  have hp1 : w7.cell? ⟨b7, 1, none⟩ = some (.bool y) := blk_cell hbp7 1
  have hne : g ≠ b7 := HG7.out
  have hne2 : b7 ≠ g := fun e => HG7.out e.symm
  have hic : (i : Int) ≤ 100000 := by have := HI.out; have := HL.out; unfold mcount at *; omega
  clear hj7 hF7 hN7 hbp7
  have hc1 : w7.cell? ⟨g, 1, none⟩ = some (.slice A6 n6 c6) := blk_cell HJ7.out.blk 1
  have HJ8 := Aside0.mk (HJ7.out.set2 (((i : Nat) : Int) + 1))
  have HF8 := Aside0.mk (HF7.out.seq (Fr.set (g := g) (v := v) (w := w7) 2 (.int .i64 (((i : Nat) : Int) + 1))))
  clear HJ7 HF7
  have hL1 : L ++ cont l i = l.take (63 * (i + 1)) := by rw [← HLT.out]; exact take_next l i
  have HL1 := Aside0.mk hL1
  clear hL1
  cases y with
  | false =>
    go_wp2_with fail
    go_ret3
    have hy := of_decide_eq_false HY.out.symm
    refine ⟨.slice none 0 0, .slice A6 n6 c6, by rw [decide_eq_false hy]; rfl, ?_, ?_, HF8.out, HN7.out, ?_⟩
    · rw [if_neg hy]; exact Kd.R_nil _ _ _ _ _
    · rw [if_neg hy, decide_eq_false hy, ← HL1.out]; exact HJ8.out
    · exact HF8.out.size
  | true =>
    have hl2 : (L ++ cont l i).length < 140737488355328 := by have := HLC.out; rw [List.length_append]; omega
    obtain ⟨hrd1, hrd2, hrd3⟩ := Kd.R_reads' (show Kd.R (Kd.int .u8) 5 _ n₀ (fun _ => True) (.slice A6 n6 c6) (L ++ cont l i) from HJ8.out.row)
    have hcl := bytes_Clone.calls A6 c6 (L ++ cont l i) (L ++ cont l i) _ hrd3 (by omega) (by unfold bytes_Clone.f; rw [if_pos hl2])
    rw [← hrd1] at hcl
    have HCL := Aside0.mk hcl
    clear hcl hrd1 hrd2 hrd3 hl2
    go_wp2_with fail
    refine HCL.out.mono ?_
    rintro e w9 ⟨v9, rfl, hr9, hb9⟩
    have hj9 := HJ8.out.below hb9
    have hf9 := HF8.out.seq (Fr.of_below (g := g) (v := v) hb9)
    have hfz9 := fun q => blk_frozen hj9.blk q
    have hd0 : w9.cell? ⟨g, 0, none⟩ = some (.bool true) := blk_cell hj9.blk 0
    have hd1 : w9.cell? ⟨g, 1, none⟩ = some (.slice A6 n6 c6) := blk_cell hj9.blk 1
    have HR9 := Aside0.mk hr9
    have HJ9 := Aside0.mk hj9
    have HF9 := Aside0.mk hf9
    clear hr9 hb9 hj9 hf9 HCL hfz hc1 hc2 hp1
    go_wp2_with fail
    go_ret3
    have hy := of_decide_eq_true HY.out.symm
    refine ⟨v9, .slice none 0 0, by rw [decide_eq_true hy]; rfl, ?_, ?_, ?_, Newer.none _ _, ?_⟩
    · rw [if_pos hy]
      have hl := HL1.out
      rw [take_last l i hy] at hl
      have h9 := HR9.out
      rw [hl] at h9
      have h9b := Kd.R_mono (Kd.R_bound h9) (ok' := fun k => k ≠ g ∧ some k ≠ (Value.slice none 0 0).ownBlock) (fun k ok => ⟨by have := HJ8.out.lt; have := ok.2.1; omega, by simp [Value.ownBlock]⟩)
      exact Kd.R_lower (Kd.R_far (p := ⟨g, 1, none⟩) (Kd.R_far (p := ⟨g, 0, none⟩) h9b (fun k ok => ok.1) _) (fun k ok => ok.1) _) HF8.out.size
    · rw [if_pos hy, decide_eq_true hy]; exact HJ9.out.clear
    · exact HF9.out.seq ((Fr.set 0 _).seq (Fr.set 1 _))
    · have := HF9.out.size; simpa using this
end Go.Proofs.Ytfplmoeahbjfmaa.P
