/- pieces.read by hand: a message of a text's, taken apart. No condition but bounds. -/
import Derived.Test.YtfplmoeahbjfmaaPPMay
namespace Go.Proofs.Ytfplmoeahbjfmaa.P
open Go Go.Proofs Go.RowKit Go.Shelf Go.Proofs.YtfplmoeahbjfmaaW.PrintWords Go.Proofs.YtfplmoeahbjfmaaW.PrintLast Go.Proofs.YtfplmoeahbjfmaaW.PrintMore
set_option linter.unusedVariables false
set_option linter.unusedSimpArgs false

/-- A message's bytes, in blocks that are ok. -/
abbrev MV (w : World) (ok : Nat → Prop) (vm : Value) (m : List Int) : Prop := Kd.V (Kd.int .u8) 5 w 0 ok vm m
theorem headOf_lt {m i : Nat} : 0 ≤ headOf m i ∧ headOf m i < 256 := by unfold headOf; split <;> split <;> omega
theorem head_bits : ∀ i < 64, ∀ a b : Bool, (Go.bits .and .u8 ((i + (if a then 128 else 0) + (if b then 64 else 0) : Nat) : Int) 128 != 0) = a ∧ (Go.bits .and .u8 ((i + (if a then 128 else 0) + (if b then 64 else 0) : Nat) : Int) 64 != 0) = b := by decide +kernel
theorem C_cell {w : World} {ad : Addr} {l : List Int} (h : Kd.C (Kd.int .u8) w (some ad) l.length l) (i : Int) (h0 : 0 ≤ i) (hi : i < l.length) : w.cell? (ad.add i.toNat) = some (.int .u8 (rdOf 0 l i)) := by
  obtain ⟨ad', e, hc⟩ := ReadsOf.at_ (Kd.reads_of_C (d := (0 : Int)) h) i h0 hi
  injection e with e
  subst e
  exact hc
def read3.T : Bool × List (List Nat × List Nat) := (true, [([], []), ([0], [0]), ([1], [1]), ([2], [2]), ([3], [3]), ([], []), ([5], [5]), ([6], [6]), ([7], [7]), ([8], [8]), ([], []), ([10], [10]), ([11], [11]), ([12], [12]), ([13], [13]), ([], []), ([15], [15]), ([4, 9, 14, 16], [4, 9, 14, 16]), ([], []), ([18, 17, 0, 1, 2, 3, 4, 5, 6, 7, 8, 9, 10, 11, 12, 13, 14, 15, 16, 17, 18], [17, 18])])
def read3.B : List Nat := [0, 1, 3, 7, 15, 0, 32, 96, 224, 480, 0, 1024, 3072, 7168, 15360, 0, 32768, 131071, 0, 524287]
theorem read3.tab : rtab .any (opsOf Try.f41 3) = read3.T := by kernel_rfl
theorem read3.bits : waitsOk read3.T.2 read3.B = true := by kernel_rfl
set_option maxRecDepth 100000 in
set_option maxHeartbeats 4000000 in
theorem read_calls (w : World) (ok : Nat → Prop) (A : Option Addr) (n c : Nat) (l : List Int) (i : Nat) (hi : i < mcount l.length) (hm : MV w ok (.slice A n c) (msg l i)) :
    Calls Try.prog 41 #[.slice A n c] w fun e w' => ∃ A' c', e = .returned (.tuple #[.agg #[.bool (decide (i = 0)), .bool (decide (i + 1 = mcount l.length)), .int .i64 ((i % 64 : Nat) : Int), .slice A' (cont l i).length c'], .bool true]) ∧ MV w' ok (.slice A' (cont l i).length c') (cont l i) ∧ Below w.heap.size w w' := by
  obtain ⟨hn, hnc, hC⟩ := Kd.V_reads' hm
  have hlen : n = (cont l i).length + 1 := by rw [hn]; rfl
  have HM := Aside0.mk hm
  have h63 : (cont l i).length ≤ 63 := by rw [cont_length]; omega
  obtain ⟨hd, hhd⟩ : ∃ hd, hd = headOf (mcount l.length) i := ⟨_, rfl⟩
  obtain ⟨x, hx⟩ : ∃ x, x = decide (i = 0) := ⟨_, rfl⟩
  obtain ⟨y, hy⟩ : ∃ y, y = decide (i + 1 = mcount l.length) := ⟨_, rfl⟩
  have hb1 : (Go.bits .and .u8 hd 128 != 0) = x := by
    have h := (head_bits (i % 64) (Nat.mod_lt _ (by decide)) x y).1
    rw [hhd]; unfold headOf; rw [← h, hx, hy]; simp
  have hb2 : (Go.bits .and .u8 hd 64 != 0) = y := by
    have h := (head_bits (i % 64) (Nat.mod_lt _ (by decide)) x y).2
    rw [hhd]; unfold headOf; rw [← h, hx, hy]; simp
  have hr0 : hd.tmod 64 = ((i % 64 : Nat) : Int) := by
    have h0 : 0 ≤ hd := by rw [hhd]; exact headOf_lt.1
    rw [Int.tmod_eq_emod_of_nonneg h0, hhd]; unfold headOf; split <;> split <;> omega
  obtain ⟨r, hr⟩ : ∃ r : Int, r = ((i % 64 : Nat) : Int) := ⟨_, rfl⟩
  rw [← hr] at hr0 ⊢
  have hr1 : wrap64 r = r := by rw [hr]; unfold wrap64; omega
  clear hr
  obtain ⟨ad, rfl, hcell⟩ := ReadsOf.at_ (Kd.reads_of_C (d := (0 : Int)) hC) 0 (by omega) (by unfold msg; rw [List.length_cons]; omega)
  clear hcell
  have hrd : rdOf 0 (msg l i) 0 = hd := by rw [hhd]; rfl
  have HS := Aside0.mk (fun w' (hb : Below w.heap.size w w') => show w'.cell? ad = some (.int .u8 hd) by have h := C_cell (Kd.C_below hC hb) 0 (by omega) (by unfold msg; rw [List.length_cons]; omega); rw [hrd] at h; exact h)
  clear hrd
  rw [hlen]
  have hw1 : decide (((cont l i).length : Int) + 1 < 1) = false := decide_eq_false (by omega)
  have hw2 : decide (64 < ((cont l i).length : Int) + 1) = false := decide_eq_false (by omega)
  have hw3 : (1 : Int) ≤ ((cont l i).length : Int) + 1 := by omega
  rw [← hx, ← hy]
  have HX := Aside0.mk hx
  have HY := Aside0.mk hy
  have hlf : y = false → (cont l i).length = 63 := by
    intro e
    rw [hy] at e
    have e := of_decide_eq_false e
    rw [cont_length]; unfold mcount at hi e; omega
  have hlt : y = true → x = false → 0 < (cont l i).length := by
    intro e e2
    rw [hx] at e2
    have e2 := of_decide_eq_false e2
    rw [cont_length]; unfold mcount at hi; omega
  obtain ⟨Ap, hAp⟩ : ∃ Ap, (if c = 1 then some ad else some { block := ad.block, off := ad.off + 1 }) = Ap := ⟨_, rfl⟩
  have HAP := Aside0.mk hAp
  have hgl : ∀ w', Below w.heap.size w w' → MV w' ok (.slice Ap (cont l i).length (c - 1)) (cont l i) := by
    intro w' hb
    have h1 := Kd.V_below HM.out hb
    obtain ⟨hn1, hnc1, hF1⟩ := Kd.V_at h1
    refine Kd.V_mk (by omega) (Kd.F_imp hF1 (fun W' hc => ?_))
    have hd2 := Kd.C_drop (m := 1) (c := c) hc (by omega) (by omega)
    rw [show (msg l i).drop 1 = cont l i from rfl] at hd2
    rw [← HAP.out]
    by_cases hc1 : c = 1
    · rw [if_pos hc1] at hd2 ⊢; exact hd2
    · rw [if_neg hc1] at hd2 ⊢
      have e : (ad.add (1 * (Kd.int .u8).sz)) = { block := ad.block, off := ad.off + 1 } := rfl
      rw [Option.map_some, e] at hd2
      exact hd2
  have HMT := Aside0.mk hgl
  clear hgl HM
  clear hhd hx hy
  go_enter Try.func41, Try.ntmps41
  go_wp2
  have HB := Aside0.mk (below_drew1 (below_alloc (Below.refl w.heap.size w) (.cells #[Value.bool false, Value.bool false, Value.int IntKind.i64 0, Value.slice none 0 0] 79)))
  refine start_ (n := 20) (S := (fun w' => w'.cell? ad = some (.int .u8 hd))) (ds := []) #[false, false, false, false, false, false, false, false, false, false, false, false, false, false, false, false, false, false, false, false] (by kernel_rfl) rfl rfl (HS.out _ HB.out) (fun hHeld => ?_)
  refine with_tabW read3.tab read3.bits (fun HT_ HW_ => ?_)
  refine pure_ (i := 0) (N := some 14) (v := ?_) (a' := ?_) #[true, false, false, false, false, false, false, false, false, false, false, false, false, false, false, false, false, false, false, false] rfl rfl (any_of HT_.out (by kernel_rfl)) (fun _ _ _ h => h) (Or.inl ⟨by rfl, ?_⟩) ?_ ?_
  rotate_left
  · intro w'
    go_simp
    with_reducible rfl
  rotate_left
  · simp only [Act.put, List.setIfInBounds_toArray, List.set_cons_zero, List.set_cons_succ, i64_w, i32_w]
    rfl
  refine pure_ (i := 1) (N := some 15) (v := ?_) (a' := ?_) #[true, true, false, false, false, false, false, false, false, false, false, false, false, false, false, false, false, false, false, false] rfl rfl (any_of HT_.out (by kernel_rfl)) (fun _ _ _ h => h) (Or.inl ⟨by rfl, ?_⟩) ?_ ?_
  rotate_left
  · intro w'
    go_simp
    with_reducible rfl
  rotate_left
  · simp only [Act.put, List.setIfInBounds_toArray, List.set_cons_zero, List.set_cons_succ, i64_w, i32_w]
    rfl
  refine take_ (i := 2) (N := some 16) (v := ?_) (a' := ?_) #[true, true, true, false, false, false, false, false, false, false, false, false, false, false, false, false, false, false, false, false] rfl rfl (take_ofW HT_.out HW_.out (by kernel_rfl)) (fun _ _ _ h => h) (Or.inl ⟨by rfl, ?_⟩) hHeld ?_ ?_
  rotate_left
  · rintro w' s0
    go_simp
    with_reducible rfl
  rotate_left
  · simp only [Act.put, List.setIfInBounds_toArray, List.set_cons_zero, List.set_cons_succ, i64_w, i32_w]
    rfl
  refine pure_ (i := 3) (N := some 17) (v := ?_) (a' := ?_) #[true, true, true, true, false, false, false, false, false, false, false, false, false, false, false, false, false, false, false, false] rfl rfl (any_of HT_.out (by kernel_rfl)) (fun _ _ _ h => h) (Or.inl ⟨by rfl, ?_⟩) ?_ ?_
  rotate_left
  · intro w'
    go_simp
    with_reducible rfl
  rotate_left
  · simp only [Act.put, List.setIfInBounds_toArray, List.set_cons_zero, List.set_cons_succ, i64_w, i32_w]
    rfl
  refine pure_ (i := 4) (N := some 18) (v := ?_) (a' := ?_) #[true, true, true, true, true, false, false, false, false, false, false, false, false, false, false, false, false, false, false, false] rfl rfl (any_of HT_.out (by kernel_rfl)) (fun _ _ _ h => h) (Or.inl ⟨by rfl, ?_⟩) ?_ ?_
  rotate_left
  · intro w'
    go_simp
    with_reducible rfl
  rotate_left
  · simp only [Act.put, List.setIfInBounds_toArray, List.set_cons_zero, List.set_cons_succ, i64_w, i32_w]
    rfl
  refine pure_ (i := 5) (N := some 19) (v := ?_) (a' := ?_) #[true, true, true, true, true, true, false, false, false, false, false, false, false, false, false, false, false, false, false, false] rfl rfl (any_of HT_.out (by kernel_rfl)) (fun _ _ _ h => h) (Or.inl ⟨by rfl, ?_⟩) ?_ ?_
  rotate_left
  · intro w'
    go_simp
    with_reducible rfl
  rotate_left
  · simp only [Act.put, List.setIfInBounds_toArray, List.set_cons_zero, List.set_cons_succ, i64_w, i32_w]
    rfl
  refine pure_ (i := 6) (N := some 20) (v := ?_) (a' := ?_) #[true, true, true, true, true, true, true, false, false, false, false, false, false, false, false, false, false, false, false, false] rfl rfl (any_of HT_.out (by kernel_rfl)) (fun _ _ _ h => h) (Or.inl ⟨by rfl, ?_⟩) ?_ ?_
  rotate_left
  · intro w'
    go_simp
    with_reducible rfl
  rotate_left
  · simp only [Act.put, List.setIfInBounds_toArray, List.set_cons_zero, List.set_cons_succ, i64_w, i32_w]
    rfl
  refine take_ (i := 7) (N := some 21) (v := ?_) (a' := ?_) #[true, true, true, true, true, true, true, true, false, false, false, false, false, false, false, false, false, false, false, false] rfl rfl (take_ofW HT_.out HW_.out (by kernel_rfl)) (fun _ _ _ h => h) (Or.inl ⟨by rfl, ?_⟩) hHeld ?_ ?_
  rotate_left
  · rintro w' s0
    go_simp
    with_reducible rfl
  rotate_left
  · simp only [Act.put, List.setIfInBounds_toArray, List.set_cons_zero, List.set_cons_succ, i64_w, i32_w]
    rfl
  refine pure_ (i := 8) (N := some 22) (v := ?_) (a' := ?_) #[true, true, true, true, true, true, true, true, true, false, false, false, false, false, false, false, false, false, false, false] rfl rfl (any_of HT_.out (by kernel_rfl)) (fun _ _ _ h => h) (Or.inl ⟨by rfl, ?_⟩) ?_ ?_
  rotate_left
  · intro w'
    go_simp
    with_reducible rfl
  rotate_left
  · simp only [Act.put, List.setIfInBounds_toArray, List.set_cons_zero, List.set_cons_succ, i64_w, i32_w]
    rfl
  refine pure_ (i := 9) (N := some 23) (v := ?_) (a' := ?_) #[true, true, true, true, true, true, true, true, true, true, false, false, false, false, false, false, false, false, false, false] rfl rfl (any_of HT_.out (by kernel_rfl)) (fun _ _ _ h => h) (Or.inl ⟨by rfl, ?_⟩) ?_ ?_
  rotate_left
  · intro w'
    go_simp
    with_reducible rfl
  rotate_left
  · simp only [Act.put, List.setIfInBounds_toArray, List.set_cons_zero, List.set_cons_succ, i64_w, i32_w]
    rfl
  refine pure_ (i := 10) (N := some 24) (v := ?_) (a' := ?_) #[true, true, true, true, true, true, true, true, true, true, true, false, false, false, false, false, false, false, false, false] rfl rfl (any_of HT_.out (by kernel_rfl)) (fun _ _ _ h => h) (Or.inl ⟨by rfl, ?_⟩) ?_ ?_
  rotate_left
  · intro w'
    go_simp
    with_reducible rfl
  rotate_left
  · simp only [Act.put, List.setIfInBounds_toArray, List.set_cons_zero, List.set_cons_succ, i64_w, i32_w]
    rfl
  refine pure_ (i := 11) (N := some 25) (v := ?_) (a' := ?_) #[true, true, true, true, true, true, true, true, true, true, true, true, false, false, false, false, false, false, false, false] rfl rfl (any_of HT_.out (by kernel_rfl)) (fun _ _ _ h => h) (Or.inl ⟨by rfl, ?_⟩) ?_ ?_
  rotate_left
  · intro w'
    go_simp
    with_reducible rfl
  rotate_left
  · simp only [Act.put, List.setIfInBounds_toArray, List.set_cons_zero, List.set_cons_succ, i64_w, i32_w]
    rfl
  refine take_ (i := 12) (N := some 26) (v := ?_) (a' := ?_) #[true, true, true, true, true, true, true, true, true, true, true, true, true, false, false, false, false, false, false, false] rfl rfl (take_ofW HT_.out HW_.out (by kernel_rfl)) (fun _ _ _ h => h) (Or.inl ⟨by rfl, ?_⟩) hHeld ?_ ?_
  rotate_left
  · rintro w' s0
    go_simp
    with_reducible rfl
  rotate_left
  · simp only [Act.put, List.setIfInBounds_toArray, List.set_cons_zero, List.set_cons_succ, i64_w, i32_w]
    rfl
  refine pure_ (i := 13) (N := some 27) (v := ?_) (a' := ?_) #[true, true, true, true, true, true, true, true, true, true, true, true, true, true, false, false, false, false, false, false] rfl rfl (any_of HT_.out (by kernel_rfl)) (fun _ _ _ h => h) (Or.inl ⟨by rfl, ?_⟩) ?_ ?_
  rotate_left
  · intro w'
    go_simp
    with_reducible rfl
  rotate_left
  · simp only [Act.put, List.setIfInBounds_toArray, List.set_cons_zero, List.set_cons_succ, i64_w, i32_w]
    rfl
  refine pure_ (i := 14) (N := some 28) (v := ?_) (a' := ?_) #[true, true, true, true, true, true, true, true, true, true, true, true, true, true, true, false, false, false, false, false] rfl rfl (any_of HT_.out (by kernel_rfl)) (fun _ _ _ h => h) (Or.inl ⟨by rfl, ?_⟩) ?_ ?_
  rotate_left
  · intro w'
    go_simp
    with_reducible rfl
  rotate_left
  · simp only [Act.put, List.setIfInBounds_toArray, List.set_cons_zero, List.set_cons_succ, i64_w, i32_w]
    rfl
  refine pure_ (i := 15) (N := some 29) (v := ?_) (a' := ?_) #[true, true, true, true, true, true, true, true, true, true, true, true, true, true, true, true, false, false, false, false] rfl rfl (any_of HT_.out (by kernel_rfl)) (fun _ _ _ h => h) (Or.inl ⟨by rfl, ?_⟩) ?_ ?_
  rotate_left
  · intro w'
    go_simp
    with_reducible rfl
  rotate_left
  · simp only [Act.put, List.setIfInBounds_toArray, List.set_cons_zero, List.set_cons_succ, i64_w, i32_w]
    rfl
  refine pure_ (i := 16) (N := some 30) (v := ?_) (a' := ?_) #[true, true, true, true, true, true, true, true, true, true, true, true, true, true, true, true, true, false, false, false] rfl rfl (any_of HT_.out (by kernel_rfl)) (fun _ _ _ h => h) (Or.inl ⟨by rfl, ?_⟩) ?_ ?_
  rotate_left
  · intro w'
    go_simp
    with_reducible rfl
  rotate_left
  · simp only [Act.put, List.setIfInBounds_toArray, List.set_cons_zero, List.set_cons_succ, i64_w, i32_w]
    rfl
  refine pure_ (i := 17) (N := some 31) (v := ?_) (a' := ?_) #[true, true, true, true, true, true, true, true, true, true, true, true, true, true, true, true, true, true, false, false] rfl rfl (any_of HT_.out (by kernel_rfl)) (fun _ _ _ h => h) (Or.inl ⟨by rfl, ?_⟩) ?_ ?_
  rotate_left
  · intro w'
    go_simp
    with_reducible rfl
  rotate_left
  · simp only [Act.put, List.setIfInBounds_toArray, List.set_cons_zero, List.set_cons_succ, i64_w, i32_w]
    rfl
  refine one_ (i := 18) (N := some 4) #[true, true, true, true, true, true, true, true, true, true, true, true, true, true, true, true, true, true, true, false] rfl rfl (one_of HT_.out (by kernel_rfl)) (by decide) (fun K hK => ?_)
  skip
  refine value_ (w1 := ?_) (v := ?_) (by rfl) rfl ?_ ?_
  rotate_left 2
  · go_simp
    constructor
    · rfl
    · rfl
  refine hK.out _ _ (HS.out _ (below_alloc HB.out _)) (fun hHeld => ?_)
  clear hK K
  refine norm_ (a' := ?_) ?_ ?_
  rotate_left
  · show Act.put _ (some 4) _ = _
    simp only [Act.put, List.setIfInBounds_toArray, List.set_cons_zero, List.set_cons_succ, i64_w, i32_w]
    rfl
  refine one_ (i := 19) (N := none) #[true, true, true, true, true, true, true, true, true, true, true, true, true, true, true, true, true, true, true, true] rfl rfl (one_of HT_.out (by kernel_rfl)) (by decide) (fun K hK => ?_)
  refine skip_ (w1 := ?_) (by rfl) rfl ?_ ?_
  rotate_left 1
  · go_simp
    rfl
  refine hK.out _ _ (HS.out _ (below_drew1 (below_alloc (below_alloc (Below.refl _ _) _) _))) (fun hHeld => ?_)
  clear hK K
  refine done_ (done_of HT_.out (by kernel_rfl)) ?_
  clear HT_ HW_ hHeld
  obtain ⟨g2, hg2⟩ : ∃ g2, g2 = w.heap.size := ⟨_, rfl⟩
  obtain ⟨g4, hg4⟩ : ∃ g4, g4 = g2 + 1 := ⟨_, rfl⟩
  obtain ⟨W, hW⟩ : ∃ W, W = ((w.alloc (.cells #[Value.bool false, Value.bool false, Value.int IntKind.i64 0, Value.slice none 0 0] 79)).alloc (.cells #[.bool x, .bool y, .int .i64 r, .slice Ap (cont l i).length (c - 1)] 79)).drew := ⟨_, rfl⟩
  have b2 : W.heap[g2]? = some (.cells #[Value.bool false, Value.bool false, Value.int IntKind.i64 0, Value.slice none 0 0] 79 (0, 0)) := by rw [hW, hg2]; exact blk_drew (blk_alloc (blk_new _ _) _)
  have b4 : W.heap[g4]? = some (.cells #[.bool x, .bool y, .int .i64 r, .slice Ap (cont l i).length (c - 1)] 79 (0, 0)) := by
    rw [hW, hg4, hg2]
    have h := blk_new (w.alloc (.cells #[Value.bool false, Value.bool false, Value.int IntKind.i64 0, Value.slice none 0 0] 79)) (.cells #[.bool x, .bool y, .int .i64 r, .slice Ap (cont l i).length (c - 1)] 79)
    rw [World.size_alloc] at h
    exact h
  have HBW := Aside0.mk (show Below w.heap.size w W by rw [hW]; exact below_drew1 (below_alloc (below_alloc (Below.refl _ _) _) _))
  have hne : g4 ≠ g2 := by omega
  have hlow : w.heap.size ≤ (⟨g2, 0, none⟩ : Addr).block := by show w.heap.size ≤ g2; omega
  rw [← hW]
  rw [← hg2, ← hg4]
  have hc0 : W.cell? ⟨g4, 0, none⟩ = some (.bool x) := blk_cell b4 0
  have hc1 : W.cell? ⟨g4, 1, none⟩ = some (.bool y) := blk_cell b4 1
  have hc2 : W.cell? ⟨g4, 2, none⟩ = some (.int .i64 r) := blk_cell b4 2
  have hc3 : W.cell? ⟨g4, 3, none⟩ = some (.slice Ap (cont l i).length (c - 1)) := blk_cell b4 3
  have hd0 : W.cell? ⟨g2, 0, none⟩ = some (.bool false) := blk_cell b2 0
  have hd1 : W.cell? ⟨g2, 1, none⟩ = some (.bool false) := blk_cell b2 1
  have hd2 : W.cell? ⟨g2, 2, none⟩ = some (.int .i64 0) := blk_cell b2 2
  have hd3 : W.cell? ⟨g2, 3, none⟩ = some (.slice none 0 0) := blk_cell b2 3
  have hf2 := fun i => blk_frozen b2 i
  have HW := Aside0.mk hW
  clear hW hg2 hg4 HB
  have HLF := Aside0.mk hlf
  have HLT := Aside0.mk hlt
  clear hlf hlt
  cases y with
  | false =>
    have hl63 := HLF.out rfl
    have hl63b : decide (((cont l i).length : Int) < 63) = false := decide_eq_false (by omega)
    clear hl63
    go_wp2
    have bF : (World.setCell (World.setCell (World.setCell (World.setCell W ⟨g2, 0, none⟩ (.bool x)) ⟨g2, 1, none⟩ (.bool false)) ⟨g2, 2, none⟩ (.int .i64 r)) ⟨g2, 3, none⟩ (.slice Ap (cont l i).length (c - 1))).heap[g2]? = some (.cells #[.bool x, .bool false, .int .i64 r, .slice Ap (cont l i).length (c - 1)] 79 (0, 0)) :=
      blk_put (cs := #[.bool x, .bool false, .int .i64 r, .slice none 0 0]) (blk_put (cs := #[.bool x, .bool false, .int .i64 0, .slice none 0 0]) (blk_put (cs := #[.bool x, .bool false, .int .i64 0, .slice none 0 0]) (blk_put b2 0 _ rfl) 1 _ rfl) 2 _ rfl) 3 _ rfl
    have hbF : Below w.heap.size w (World.setCell (World.setCell (World.setCell (World.setCell W ⟨g2, 0, none⟩ (.bool x)) ⟨g2, 1, none⟩ (.bool false)) ⟨g2, 2, none⟩ (.int .i64 r)) ⟨g2, 3, none⟩ (.slice Ap (cont l i).length (c - 1))) := (((HBW.out.setCell hlow _).setCell hlow _).setCell hlow _).setCell hlow _
    generalize (World.setCell (World.setCell (World.setCell (World.setCell W ⟨g2, 0, none⟩ (.bool x)) ⟨g2, 1, none⟩ (.bool false)) ⟨g2, 2, none⟩ (.int .i64 r)) ⟨g2, 3, none⟩ (.slice Ap (cont l i).length (c - 1))) = wF at bF hbF ⊢
    refine bodyPost_ret (v := .tuple #[.agg #[.bool x, .bool false, .int .i64 r, .slice Ap (cont l i).length (c - 1)], .bool true]) ?_ rfl ?_
    · have e0 : wF.cell? ⟨g2, 0, none⟩ = some (.bool x) := blk_cell bF 0
      have e1 : wF.cell? ⟨g2, 1, none⟩ = some (.bool false) := blk_cell bF 1
      have e2 : wF.cell? ⟨g2, 2, none⟩ = some (.int .i64 r) := blk_cell bF 2
      have e3 : wF.cell? ⟨g2, 3, none⟩ = some (.slice Ap (cont l i).length (c - 1)) := blk_cell bF 3
      clear bF hbF HBW
      simp [results, Try.results41, go_sem, e0, e1, e2, e3]
    · exact ⟨Ap, c - 1, rfl, HMT.out _ hbF, hbF⟩
  | true =>
    cases x with
    | true =>
      go_wp2
      have bF : (World.setCell (World.setCell (World.setCell (World.setCell W ⟨g2, 0, none⟩ (.bool true)) ⟨g2, 1, none⟩ (.bool true)) ⟨g2, 2, none⟩ (.int .i64 r)) ⟨g2, 3, none⟩ (.slice Ap (cont l i).length (c - 1))).heap[g2]? = some (.cells #[.bool true, .bool true, .int .i64 r, .slice Ap (cont l i).length (c - 1)] 79 (0, 0)) :=
        blk_put (cs := #[.bool true, .bool true, .int .i64 r, .slice none 0 0]) (blk_put (cs := #[.bool true, .bool true, .int .i64 0, .slice none 0 0]) (blk_put (cs := #[.bool true, .bool false, .int .i64 0, .slice none 0 0]) (blk_put b2 0 _ rfl) 1 _ rfl) 2 _ rfl) 3 _ rfl
      have hbF : Below w.heap.size w (World.setCell (World.setCell (World.setCell (World.setCell W ⟨g2, 0, none⟩ (.bool true)) ⟨g2, 1, none⟩ (.bool true)) ⟨g2, 2, none⟩ (.int .i64 r)) ⟨g2, 3, none⟩ (.slice Ap (cont l i).length (c - 1))) := (((HBW.out.setCell hlow _).setCell hlow _).setCell hlow _).setCell hlow _
      generalize (World.setCell (World.setCell (World.setCell (World.setCell W ⟨g2, 0, none⟩ (.bool true)) ⟨g2, 1, none⟩ (.bool true)) ⟨g2, 2, none⟩ (.int .i64 r)) ⟨g2, 3, none⟩ (.slice Ap (cont l i).length (c - 1))) = wF at bF hbF ⊢
      refine bodyPost_ret (v := .tuple #[.agg #[.bool true, .bool true, .int .i64 r, .slice Ap (cont l i).length (c - 1)], .bool true]) ?_ rfl ?_
      · have e0 : wF.cell? ⟨g2, 0, none⟩ = some (.bool true) := blk_cell bF 0
        have e1 : wF.cell? ⟨g2, 1, none⟩ = some (.bool true) := blk_cell bF 1
        have e2 : wF.cell? ⟨g2, 2, none⟩ = some (.int .i64 r) := blk_cell bF 2
        have e3 : wF.cell? ⟨g2, 3, none⟩ = some (.slice Ap (cont l i).length (c - 1)) := blk_cell bF 3
        clear bF hbF HBW
        simp [results, Try.results41, go_sem, e0, e1, e2, e3]
      · exact ⟨Ap, c - 1, rfl, HMT.out _ hbF, hbF⟩
    | false =>
      have hl0 := HLT.out rfl rfl
      have hl0b : (((cont l i).length : Int) == 0) = false := by rw [beq_eq_false_iff_ne]; omega
      clear hl0
      go_wp2
      have bF : (World.setCell (World.setCell (World.setCell (World.setCell W ⟨g2, 0, none⟩ (.bool false)) ⟨g2, 1, none⟩ (.bool true)) ⟨g2, 2, none⟩ (.int .i64 r)) ⟨g2, 3, none⟩ (.slice Ap (cont l i).length (c - 1))).heap[g2]? = some (.cells #[.bool false, .bool true, .int .i64 r, .slice Ap (cont l i).length (c - 1)] 79 (0, 0)) :=
        blk_put (cs := #[.bool false, .bool true, .int .i64 r, .slice none 0 0]) (blk_put (cs := #[.bool false, .bool true, .int .i64 0, .slice none 0 0]) (blk_put (cs := #[.bool false, .bool false, .int .i64 0, .slice none 0 0]) (blk_put b2 0 _ rfl) 1 _ rfl) 2 _ rfl) 3 _ rfl
      have hbF : Below w.heap.size w (World.setCell (World.setCell (World.setCell (World.setCell W ⟨g2, 0, none⟩ (.bool false)) ⟨g2, 1, none⟩ (.bool true)) ⟨g2, 2, none⟩ (.int .i64 r)) ⟨g2, 3, none⟩ (.slice Ap (cont l i).length (c - 1))) := (((HBW.out.setCell hlow _).setCell hlow _).setCell hlow _).setCell hlow _
      generalize (World.setCell (World.setCell (World.setCell (World.setCell W ⟨g2, 0, none⟩ (.bool false)) ⟨g2, 1, none⟩ (.bool true)) ⟨g2, 2, none⟩ (.int .i64 r)) ⟨g2, 3, none⟩ (.slice Ap (cont l i).length (c - 1))) = wF at bF hbF ⊢
      refine bodyPost_ret (v := .tuple #[.agg #[.bool false, .bool true, .int .i64 r, .slice Ap (cont l i).length (c - 1)], .bool true]) ?_ rfl ?_
      · have e0 : wF.cell? ⟨g2, 0, none⟩ = some (.bool false) := blk_cell bF 0
        have e1 : wF.cell? ⟨g2, 1, none⟩ = some (.bool true) := blk_cell bF 1
        have e2 : wF.cell? ⟨g2, 2, none⟩ = some (.int .i64 r) := blk_cell bF 2
        have e3 : wF.cell? ⟨g2, 3, none⟩ = some (.slice Ap (cont l i).length (c - 1)) := blk_cell bF 3
        clear bF hbF HBW
        simp [results, Try.results41, go_sem, e0, e1, e2, e3]
      · exact ⟨Ap, c - 1, rfl, HMT.out _ hbF, hbF⟩
end Go.Proofs.Ytfplmoeahbjfmaa.P
