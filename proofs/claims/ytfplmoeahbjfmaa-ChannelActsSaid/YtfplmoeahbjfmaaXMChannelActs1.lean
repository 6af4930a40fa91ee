/- Texts of this seat, one behind the other (merge.py): the walks of the functions that the law ChannelActs uses, and plain words on what they come to. No condition. -/
import Derived.Laws.BitsAllLaws
import Derived.OpenShut
import Derived.RangeFuncNested
import Derived.RangeFuncBound
import Derived.RangeFuncCalls
import Derived.RangeFuncLeaves
import Derived.RangeFuncBox
import Derived.Shelf.Abstract
import Derived.WalkKit
import Derived.OwnWalkIn
import Derived.TacticsInMore
import Derived.LoopNIn
import Derived.LoopIn
import Derived.Maps.AppendAt
import Derived.Test.YtfplmoeahbjfmaaWLast
import Derived.Test.YtfplmoeahbjfmaaXMChannelActs0
-- YtfplmoeahbjfmaaPPRead
namespace Go.Proofs.Ytfplmoeahbjfmaa.P
open Go Go.Proofs Go.RowKit Go.Shelf Go.Proofs.YtfplmoeahbjfmaaW.PrintWords Go.Proofs.YtfplmoeahbjfmaaW.PrintLast Go.Proofs.YtfplmoeahbjfmaaW.PrintMore
set_option linter.unusedVariables false
set_option linter.unusedSimpArgs false

/-- A message's bytes, in blocks that are ok. -/
abbrev MV (w : World) (ok : Nat → Prop) (vm : Value) (m : List Int) : Prop := Kd.V (Kd.int .u8) 5 w 0 ok vm m
theorem headOf_lt {m i : Nat} : 0 ≤ headOf m i ∧ headOf m i < 256 := by unfold headOf; split <;> split <;> omega
theorem head_bits : ∀ i < 64, ∀ a b : Bool, (Go.bits .and .u8 ((i + (if a then 128 else 0) + (if b then 64 else 0) : Nat) : Int) 128 != 0) = a ∧ (Go.bits .and .u8 ((i + (if a then 128 else 0) + (if b then 64 else 0) : Nat) : Int) 64 != 0) = b := by decide +kernel
theorem C_cell {w : World} {ad : Addr} {l : List Int} (h : Kd.C (Kd.int .u8) w (some ad) l.length l) (i : Int) (h0 : 0 ≤ i) (hi : i < l.length) : w.cell? (ad.add i.toNat) = some (.int .u8 (rdOf 0 l i)) := by
  obtain ⟨ad', e, hc⟩ := ReadsOf.at_ (Kd.reads_of_C (d := (0 : Int)) h) i h0 hi
  injection e with e
  subst e
  exact hc
def read3.T : Bool × List (List Nat × List Nat) := (true, [([], []), ([0], [0]), ([1], [1]), ([2], [2]), ([3], [3]), ([], []), ([5], [5]), ([6], [6]), ([7], [7]), ([8], [8]), ([], []), ([10], [10]), ([11], [11]), ([12], [12]), ([13], [13]), ([], []), ([15], [15]), ([4, 9, 14, 16], [4, 9, 14, 16]), ([], []), ([18, 17, 0, 1, 2, 3, 4, 5, 6, 7, 8, 9, 10, 11, 12, 13, 14, 15, 16, 17, 18], [17, 18])])
def read3.B : List Nat := [0, 1, 3, 7, 15, 0, 32, 96, 224, 480, 0, 1024, 3072, 7168, 15360, 0, 32768, 131071, 0, 524287]
theorem read3.tab : rtab .any (opsOf Try.f41 3) = read3.T := by kernel_rfl
theorem read3.bits : waitsOk read3.T.2 read3.B = true := by kernel_rfl
set_option maxRecDepth 100000 in
set_option maxHeartbeats 4000000 in
theorem read_calls (w : World) (ok : Nat → Prop) (A : Option Addr) (n c : Nat) (l : List Int) (i : Nat) (hi : i < mcount l.length) (hm : MV w ok (.slice A n c) (msg l i)) :
    Calls Try.prog 41 #[.slice A n c] w fun e w' => ∃ A' c', e = .returned (.tuple #[.agg #[.bool (decide (i = 0)), .bool (decide (i + 1 = mcount l.length)), .int .i64 ((i % 64 : Nat) : Int), .slice A' (cont l i).length c'], .bool true]) ∧ MV w' ok (.slice A' (cont l i).length c') (cont l i) ∧ Below w.heap.size w w' := by
  obtain ⟨hn, hnc, hC⟩ := Kd.V_reads' hm
  have hlen : n = (cont l i).length + 1 := by rw [hn]; rfl
  have HM := Aside0.mk hm
  have h63 : (cont l i).length ≤ 63 := by rw [cont_length]; omega
  obtain ⟨hd, hhd⟩ : ∃ hd, hd = headOf (mcount l.length) i := ⟨_, rfl⟩
  obtain ⟨x, hx⟩ : ∃ x, x = decide (i = 0) := ⟨_, rfl⟩
  obtain ⟨y, hy⟩ : ∃ y, y = decide (i + 1 = mcount l.length) := ⟨_, rfl⟩
  have hb1 : (Go.bits .and .u8 hd 128 != 0) = x := by
    have h := (head_bits (i % 64) (Nat.mod_lt _ (by decide)) x y).1
    rw [hhd]; unfold headOf; rw [← h, hx, hy]; simp
  have hb2 : (Go.bits .and .u8 hd 64 != 0) = y := by
    have h := (head_bits (i % 64) (Nat.mod_lt _ (by decide)) x y).2
    rw [hhd]; unfold headOf; rw [← h, hx, hy]; simp
  have hr0 : hd.tmod 64 = ((i % 64 : Nat) : Int) := by
    have h0 : 0 ≤ hd := by rw [hhd]; exact headOf_lt.1
    rw [Int.tmod_eq_emod_of_nonneg h0, hhd]; unfold headOf; split <;> split <;> omega
  obtain ⟨r, hr⟩ : ∃ r : Int, r = ((i % 64 : Nat) : Int) := ⟨_, rfl⟩
  rw [← hr] at hr0 ⊢
  have hr1 : wrap64 r = r := by rw [hr]; unfold wrap64; omega
  clear hr
  obtain ⟨ad, rfl, hcell⟩ := ReadsOf.at_ (Kd.reads_of_C (d := (0 : Int)) hC) 0 (by omega) (by unfold msg; rw [List.length_cons]; omega)
  clear hcell
  have hrd : rdOf 0 (msg l i) 0 = hd := by rw [hhd]; rfl
  have HS := Aside0.mk (fun w' (hb : Below w.heap.size w w') => show w'.cell? ad = some (.int .u8 hd) by have h := C_cell (Kd.C_below hC hb) 0 (by omega) (by unfold msg; rw [List.length_cons]; omega); rw [hrd] at h; exact h)
  clear hrd
  rw [hlen]
  have hw1 : decide (((cont l i).length : Int) + 1 < 1) = false := decide_eq_false (by omega)
  have hw2 : decide (64 < ((cont l i).length : Int) + 1) = false := decide_eq_false (by omega)
  have hw3 : (1 : Int) ≤ ((cont l i).length : Int) + 1 := by omega
  rw [← hx, ← hy]
  have HX := Aside0.mk hx
  have HY := Aside0.mk hy
  have hlf : y = false → (cont l i).length = 63 := by
    intro e
    rw [hy] at e
    have e := of_decide_eq_false e
    rw [cont_length]; unfold mcount at hi e; omega
  have hlt : y = true → x = false → 0 < (cont l i).length := by
    intro e e2
    rw [hx] at e2
    have e2 := of_decide_eq_false e2
    rw [cont_length]; unfold mcount at hi; omega
  obtain ⟨Ap, hAp⟩ : ∃ Ap, (if c = 1 then some ad else some { block := ad.block, off := ad.off + 1 }) = Ap := ⟨_, rfl⟩
  have HAP := Aside0.mk hAp
  have hgl : ∀ w', Below w.heap.size w w' → MV w' ok (.slice Ap (cont l i).length (c - 1)) (cont l i) := by
    intro w' hb
    have h1 := Kd.V_below HM.out hb
    obtain ⟨hn1, hnc1, hF1⟩ := Kd.V_at h1
    refine Kd.V_mk (by omega) (Kd.F_imp hF1 (fun W' hc => ?_))
    have hd2 := Kd.C_drop (m := 1) (c := c) hc (by omega) (by omega)
    rw [show (msg l i).drop 1 = cont l i from rfl] at hd2
    rw [← HAP.out]
    by_cases hc1 : c = 1
    · rw [if_pos hc1] at hd2 ⊢; exact hd2
    · rw [if_neg hc1] at hd2 ⊢
      have e : (ad.add (1 * (Kd.int .u8).sz)) = { block := ad.block, off := ad.off + 1 } := rfl
      rw [Option.map_some, e] at hd2
      exact hd2
  have HMT := Aside0.mk hgl
  clear hgl HM
  clear hhd hx hy
  go_enter Try.func41, Try.ntmps41
  go_wp2
  have HB := Aside0.mk (below_drew1 (below_alloc (Below.refl w.heap.size w) (.cells #[Value.bool false, Value.bool false, Value.int IntKind.i64 0, Value.slice none 0 0] 79)))
  refine start_ (n := 20) (S := (fun w' => w'.cell? ad = some (.int .u8 hd))) (ds := []) #[false, false, false, false, false, false, false, false, false, false, false, false, false, false, false, false, false, false, false, false] (by kernel_rfl) rfl rfl (HS.out _ HB.out) (fun hHeld => ?_)
  refine with_tabW read3.tab read3.bits (fun HT_ HW_ => ?_)
  refine pure_ (i := 0) (N := some 14) (v := ?_) (a' := ?_) #[true, false, false, false, false, false, false, false, false, false, false, false, false, false, false, false, false, false, false, false] rfl rfl (any_of HT_.out (by kernel_rfl)) (fun _ _ _ h => h) (Or.inl ⟨by rfl, ?_⟩) ?_ ?_
  rotate_left
  · intro w'
    go_simp
    with_reducible rfl
  rotate_left
  · simp only [Act.put, List.setIfInBounds_toArray, List.set_cons_zero, List.set_cons_succ, i64_w, i32_w]
    rfl
  refine pure_ (i := 1) (N := some 15) (v := ?_) (a' := ?_) #[true, true, false, false, false, false, false, false, false, false, false, false, false, false, false, false, false, false, false, false] rfl rfl (any_of HT_.out (by kernel_rfl)) (fun _ _ _ h => h) (Or.inl ⟨by rfl, ?_⟩) ?_ ?_
  rotate_left
  · intro w'
    go_simp
    with_reducible rfl
  rotate_left
  · simp only [Act.put, List.setIfInBounds_toArray, List.set_cons_zero, List.set_cons_succ, i64_w, i32_w]
    rfl
  refine take_ (i := 2) (N := some 16) (v := ?_) (a' := ?_) #[true, true, true, false, false, false, false, false, false, false, false, false, false, false, false, false, false, false, false, false] rfl rfl (take_ofW HT_.out HW_.out (by kernel_rfl)) (fun _ _ _ h => h) (Or.inl ⟨by rfl, ?_⟩) hHeld ?_ ?_
  rotate_left
  · rintro w' s0
    go_simp
    with_reducible rfl
  rotate_left
  · simp only [Act.put, List.setIfInBounds_toArray, List.set_cons_zero, List.set_cons_succ, i64_w, i32_w]
    rfl
  refine pure_ (i := 3) (N := some 17) (v := ?_) (a' := ?_) #[true, true, true, true, false, false, false, false, false, false, false, false, false, false, false, false, false, false, false, false] rfl rfl (any_of HT_.out (by kernel_rfl)) (fun _ _ _ h => h) (Or.inl ⟨by rfl, ?_⟩) ?_ ?_
  rotate_left
  · intro w'
    go_simp
    with_reducible rfl
  rotate_left
  · simp only [Act.put, List.setIfInBounds_toArray, List.set_cons_zero, List.set_cons_succ, i64_w, i32_w]
    rfl
  refine pure_ (i := 4) (N := some 18) (v := ?_) (a' := ?_) #[true, true, true, true, true, false, false, false, false, false, false, false, false, false, false, false, false, false, false, false] rfl rfl (any_of HT_.out (by kernel_rfl)) (fun _ _ _ h => h) (Or.inl ⟨by rfl, ?_⟩) ?_ ?_
  rotate_left
  · intro w'
    go_simp
    with_reducible rfl
  rotate_left
  · simp only [Act.put, List.setIfInBounds_toArray, List.set_cons_zero, List.set_cons_succ, i64_w, i32_w]
    rfl
  refine pure_ (i := 5) (N := some 19) (v := ?_) (a' := ?_) #[true, true, true, true, true, true, false, false, false, false, false, false, false, false, false, false, false, false, false, false] rfl rfl (any_of HT_.out (by kernel_rfl)) (fun _ _ _ h => h) (Or.inl ⟨by rfl, ?_⟩) ?_ ?_
  rotate_left
  · intro w'
    go_simp
    with_reducible rfl
  rotate_left
  · simp only [Act.put, List.setIfInBounds_toArray, List.set_cons_zero, List.set_cons_succ, i64_w, i32_w]
    rfl
  refine pure_ (i := 6) (N := some 20) (v := ?_) (a' := ?_) #[true, true, true, true, true, true, true, false, false, false, false, false, false, false, false, false, false, false, false, false] rfl rfl (any_of HT_.out (by kernel_rfl)) (fun _ _ _ h => h) (Or.inl ⟨by rfl, ?_⟩) ?_ ?_
  rotate_left
  · intro w'
    go_simp
    with_reducible rfl
  rotate_left
  · simp only [Act.put, List.setIfInBounds_toArray, List.set_cons_zero, List.set_cons_succ, i64_w, i32_w]
    rfl
  refine take_ (i := 7) (N := some 21) (v := ?_) (a' := ?_) #[true, true, true, true, true, true, true, true, false, false, false, false, false, false, false, false, false, false, false, false] rfl rfl (take_ofW HT_.out HW_.out (by kernel_rfl)) (fun _ _ _ h => h) (Or.inl ⟨by rfl, ?_⟩) hHeld ?_ ?_
  rotate_left
  · rintro w' s0
    go_simp
    with_reducible rfl
  rotate_left
  · simp only [Act.put, List.setIfInBounds_toArray, List.set_cons_zero, List.set_cons_succ, i64_w, i32_w]
    rfl
  refine pure_ (i := 8) (N := some 22) (v := ?_) (a' := ?_) #[true, true, true, true, true, true, true, true, true, false, false, false, false, false, false, false, false, false, false, false] rfl rfl (any_of HT_.out (by kernel_rfl)) (fun _ _ _ h => h) (Or.inl ⟨by rfl, ?_⟩) ?_ ?_
  rotate_left
  · intro w'
    go_simp
    with_reducible rfl
  rotate_left
  · simp only [Act.put, List.setIfInBounds_toArray, List.set_cons_zero, List.set_cons_succ, i64_w, i32_w]
    rfl
  refine pure_ (i := 9) (N := some 23) (v := ?_) (a' := ?_) #[true, true, true, true, true, true, true, true, true, true, false, false, false, false, false, false, false, false, false, false] rfl rfl (any_of HT_.out (by kernel_rfl)) (fun _ _ _ h => h) (Or.inl ⟨by rfl, ?_⟩) ?_ ?_
  rotate_left
  · intro w'
    go_simp
    with_reducible rfl
  rotate_left
  · simp only [Act.put, List.setIfInBounds_toArray, List.set_cons_zero, List.set_cons_succ, i64_w, i32_w]
    rfl
  refine pure_ (i := 10) (N := some 24) (v := ?_) (a' := ?_) #[true, true, true, true, true, true, true, true, true, true, true, false, false, false, false, false, false, false, false, false] rfl rfl (any_of HT_.out (by kernel_rfl)) (fun _ _ _ h => h) (Or.inl ⟨by rfl, ?_⟩) ?_ ?_
  rotate_left
  · intro w'
    go_simp
    with_reducible rfl
  rotate_left
  · simp only [Act.put, List.setIfInBounds_toArray, List.set_cons_zero, List.set_cons_succ, i64_w, i32_w]
    rfl
  refine pure_ (i := 11) (N := some 25) (v := ?_) (a' := ?_) #[true, true, true, true, true, true, true, true, true, true, true, true, false, false, false, false, false, false, false, false] rfl rfl (any_of HT_.out (by kernel_rfl)) (fun _ _ _ h => h) (Or.inl ⟨by rfl, ?_⟩) ?_ ?_
  rotate_left
  · intro w'
    go_simp
    with_reducible rfl
  rotate_left
  · simp only [Act.put, List.setIfInBounds_toArray, List.set_cons_zero, List.set_cons_succ, i64_w, i32_w]
    rfl
  refine take_ (i := 12) (N := some 26) (v := ?_) (a' := ?_) #[true, true, true, true, true, true, true, true, true, true, true, true, true, false, false, false, false, false, false, false] rfl rfl (take_ofW HT_.out HW_.out (by kernel_rfl)) (fun _ _ _ h => h) (Or.inl ⟨by rfl, ?_⟩) hHeld ?_ ?_
  rotate_left
  · rintro w' s0
    go_simp
    with_reducible rfl
  rotate_left
  · simp only [Act.put, List.setIfInBounds_toArray, List.set_cons_zero, List.set_cons_succ, i64_w, i32_w]
    rfl
  refine pure_ (i := 13) (N := some 27) (v := ?_) (a' := ?_) #[true, true, true, true, true, true, true, true, true, true, true, true, true, true, false, false, false, false, false, false] rfl rfl (any_of HT_.out (by kernel_rfl)) (fun _ _ _ h => h) (Or.inl ⟨by rfl, ?_⟩) ?_ ?_
  rotate_left
  · intro w'
    go_simp
    with_reducible rfl
  rotate_left
  · simp only [Act.put, List.setIfInBounds_toArray, List.set_cons_zero, List.set_cons_succ, i64_w, i32_w]
    rfl
  refine pure_ (i := 14) (N := some 28) (v := ?_) (a' := ?_) #[true, true, true, true, true, true, true, true, true, true, true, true, true, true, true, false, false, false, false, false] rfl rfl (any_of HT_.out (by kernel_rfl)) (fun _ _ _ h => h) (Or.inl ⟨by rfl, ?_⟩) ?_ ?_
  rotate_left
  · intro w'
    go_simp
    with_reducible rfl
  rotate_left
  · simp only [Act.put, List.setIfInBounds_toArray, List.set_cons_zero, List.set_cons_succ, i64_w, i32_w]
    rfl
  refine pure_ (i := 15) (N := some 29) (v := ?_) (a' := ?_) #[true, true, true, true, true, true, true, true, true, true, true, true, true, true, true, true, false, false, false, false] rfl rfl (any_of HT_.out (by kernel_rfl)) (fun _ _ _ h => h) (Or.inl ⟨by rfl, ?_⟩) ?_ ?_
  rotate_left
  · intro w'
    go_simp
    with_reducible rfl
  rotate_left
  · simp only [Act.put, List.setIfInBounds_toArray, List.set_cons_zero, List.set_cons_succ, i64_w, i32_w]
    rfl
  refine pure_ (i := 16) (N := some 30) (v := ?_) (a' := ?_) #[true, true, true, true, true, true, true, true, true, true, true, true, true, true, true, true, true, false, false, false] rfl rfl (any_of HT_.out (by kernel_rfl)) (fun _ _ _ h => h) (Or.inl ⟨by rfl, ?_⟩) ?_ ?_
  rotate_left
  · intro w'
    go_simp
    with_reducible rfl
  rotate_left
  · simp only [Act.put, List.setIfInBounds_toArray, List.set_cons_zero, List.set_cons_succ, i64_w, i32_w]
    rfl
  refine pure_ (i := 17) (N := some 31) (v := ?_) (a' := ?_) #[true, true, true, true, true, true, true, true, true, true, true, true, true, true, true, true, true, true, false, false] rfl rfl (any_of HT_.out (by kernel_rfl)) (fun _ _ _ h => h) (Or.inl ⟨by rfl, ?_⟩) ?_ ?_
  rotate_left
  · intro w'
    go_simp
    with_reducible rfl
  rotate_left
  · simp only [Act.put, List.setIfInBounds_toArray, List.set_cons_zero, List.set_cons_succ, i64_w, i32_w]
    rfl
  refine one_ (i := 18) (N := some 4) #[true, true, true, true, true, true, true, true, true, true, true, true, true, true, true, true, true, true, true, false] rfl rfl (one_of HT_.out (by kernel_rfl)) (by decide) (fun K hK => ?_)
  skip
  refine value_ (w1 := ?_) (v := ?_) (by rfl) rfl ?_ ?_
  rotate_left 2
  · go_simp
    constructor
    · rfl
    · rfl
  refine hK.out _ _ (HS.out _ (below_alloc HB.out _)) (fun hHeld => ?_)
  clear hK K
  refine norm_ (a' := ?_) ?_ ?_
  rotate_left
  · show Act.put _ (some 4) _ = _
    simp only [Act.put, List.setIfInBounds_toArray, List.set_cons_zero, List.set_cons_succ, i64_w, i32_w]
    rfl
  refine one_ (i := 19) (N := none) #[true, true, true, true, true, true, true, true, true, true, true, true, true, true, true, true, true, true, true, true] rfl rfl (one_of HT_.out (by kernel_rfl)) (by decide) (fun K hK => ?_)
  refine skip_ (w1 := ?_) (by rfl) rfl ?_ ?_
  rotate_left 1
  · go_simp
    rfl
  refine hK.out _ _ (HS.out _ (below_drew1 (below_alloc (below_alloc (Below.refl _ _) _) _))) (fun hHeld => ?_)
  clear hK K
  refine done_ (done_of HT_.out (by kernel_rfl)) ?_
  clear HT_ HW_ hHeld
  obtain ⟨g2, hg2⟩ : ∃ g2, g2 = w.heap.size := ⟨_, rfl⟩
  obtain ⟨g4, hg4⟩ : ∃ g4, g4 = g2 + 1 := ⟨_, rfl⟩
  obtain ⟨W, hW⟩ : ∃ W, W = ((w.alloc (.cells #[Value.bool false, Value.bool false, Value.int IntKind.i64 0, Value.slice none 0 0] 79)).alloc (.cells #[.bool x, .bool y, .int .i64 r, .slice Ap (cont l i).length (c - 1)] 79)).drew := ⟨_, rfl⟩
  have b2 : W.heap[g2]? = some (.cells #[Value.bool false, Value.bool false, Value.int IntKind.i64 0, Value.slice none 0 0] 79 (0, 0)) := by rw [hW, hg2]; exact blk_drew (blk_alloc (blk_new _ _) _)
  have b4 : W.heap[g4]? = some (.cells #[.bool x, .bool y, .int .i64 r, .slice Ap (cont l i).length (c - 1)] 79 (0, 0)) := by
    rw [hW, hg4, hg2]
    have h := blk_new (w.alloc (.cells #[Value.bool false, Value.bool false, Value.int IntKind.i64 0, Value.slice none 0 0] 79)) (.cells #[.bool x, .bool y, .int .i64 r, .slice Ap (cont l i).length (c - 1)] 79)
    rw [World.size_alloc] at h
    exact h
  have HBW := Aside0.mk (show Below w.heap.size w W by rw [hW]; exact below_drew1 (below_alloc (below_alloc (Below.refl _ _) _) _))
  have hne : g4 ≠ g2 := by omega
  have hlow : w.heap.size ≤ (⟨g2, 0, none⟩ : Addr).block := by show w.heap.size ≤ g2; omega
  rw [← hW]
  rw [← hg2, ← hg4]
  have hc0 : W.cell? ⟨g4, 0, none⟩ = some (.bool x) := blk_cell b4 0
  have hc1 : W.cell? ⟨g4, 1, none⟩ = some (.bool y) := blk_cell b4 1
  have hc2 : W.cell? ⟨g4, 2, none⟩ = some (.int .i64 r) := blk_cell b4 2
  have hc3 : W.cell? ⟨g4, 3, none⟩ = some (.slice Ap (cont l i).length (c - 1)) := blk_cell b4 3
  have hd0 : W.cell? ⟨g2, 0, none⟩ = some (.bool false) := blk_cell b2 0
  have hd1 : W.cell? ⟨g2, 1, none⟩ = some (.bool false) := blk_cell b2 1
  have hd2 : W.cell? ⟨g2, 2, none⟩ = some (.int .i64 0) := blk_cell b2 2
  have hd3 : W.cell? ⟨g2, 3, none⟩ = some (.slice none 0 0) := blk_cell b2 3
  have hf2 := fun i => blk_frozen b2 i
  have HW := Aside0.mk hW
  clear hW hg2 hg4 HB
  have HLF := Aside0.mk hlf
  have HLT := Aside0.mk hlt
  clear hlf hlt
  cases y with
  | false =>
    have hl63 := HLF.out rfl
    have hl63b : decide (((cont l i).length : Int) < 63) = false := decide_eq_false (by omega)
    clear hl63
    go_wp2
    have bF : (World.setCell (World.setCell (World.setCell (World.setCell W ⟨g2, 0, none⟩ (.bool x)) ⟨g2, 1, none⟩ (.bool false)) ⟨g2, 2, none⟩ (.int .i64 r)) ⟨g2, 3, none⟩ (.slice Ap (cont l i).length (c - 1))).heap[g2]? = some (.cells #[.bool x, .bool false, .int .i64 r, .slice Ap (cont l i).length (c - 1)] 79 (0, 0)) :=
      blk_put (cs := #[.bool x, .bool false, .int .i64 r, .slice none 0 0]) (blk_put (cs := #[.bool x, .bool false, .int .i64 0, .slice none 0 0]) (blk_put (cs := #[.bool x, .bool false, .int .i64 0, .slice none 0 0]) (blk_put b2 0 _ rfl) 1 _ rfl) 2 _ rfl) 3 _ rfl
    have hbF : Below w.heap.size w (World.setCell (World.setCell (World.setCell (World.setCell W ⟨g2, 0, none⟩ (.bool x)) ⟨g2, 1, none⟩ (.bool false)) ⟨g2, 2, none⟩ (.int .i64 r)) ⟨g2, 3, none⟩ (.slice Ap (cont l i).length (c - 1))) := (((HBW.out.setCell hlow _).setCell hlow _).setCell hlow _).setCell hlow _
    generalize (World.setCell (World.setCell (World.setCell (World.setCell W ⟨g2, 0, none⟩ (.bool x)) ⟨g2, 1, none⟩ (.bool false)) ⟨g2, 2, none⟩ (.int .i64 r)) ⟨g2, 3, none⟩ (.slice Ap (cont l i).length (c - 1))) = wF at bF hbF ⊢
    refine bodyPost_ret (v := .tuple #[.agg #[.bool x, .bool false, .int .i64 r, .slice Ap (cont l i).length (c - 1)], .bool true]) ?_ rfl ?_
    · have e0 : wF.cell? ⟨g2, 0, none⟩ = some (.bool x) := blk_cell bF 0
      have e1 : wF.cell? ⟨g2, 1, none⟩ = some (.bool false) := blk_cell bF 1
      have e2 : wF.cell? ⟨g2, 2, none⟩ = some (.int .i64 r) := blk_cell bF 2
      have e3 : wF.cell? ⟨g2, 3, none⟩ = some (.slice Ap (cont l i).length (c - 1)) := blk_cell bF 3
      clear bF hbF HBW
      simp [results, Try.results41, go_sem, e0, e1, e2, e3]
    · exact ⟨Ap, c - 1, rfl, HMT.out _ hbF, hbF⟩
  | true =>
    cases x with
    | true =>
      go_wp2
      have bF : (World.setCell (World.setCell (World.setCell (World.setCell W ⟨g2, 0, none⟩ (.bool true)) ⟨g2, 1, none⟩ (.bool true)) ⟨g2, 2, none⟩ (.int .i64 r)) ⟨g2, 3, none⟩ (.slice Ap (cont l i).length (c - 1))).heap[g2]? = some (.cells #[.bool true, .bool true, .int .i64 r, .slice Ap (cont l i).length (c - 1)] 79 (0, 0)) :=
        blk_put (cs := #[.bool true, .bool true, .int .i64 r, .slice none 0 0]) (blk_put (cs := #[.bool true, .bool true, .int .i64 0, .slice none 0 0]) (blk_put (cs := #[.bool true, .bool false, .int .i64 0, .slice none 0 0]) (blk_put b2 0 _ rfl) 1 _ rfl) 2 _ rfl) 3 _ rfl
      have hbF : Below w.heap.size w (World.setCell (World.setCell (World.setCell (World.setCell W ⟨g2, 0, none⟩ (.bool true)) ⟨g2, 1, none⟩ (.bool true)) ⟨g2, 2, none⟩ (.int .i64 r)) ⟨g2, 3, none⟩ (.slice Ap (cont l i).length (c - 1))) := (((HBW.out.setCell hlow _).setCell hlow _).setCell hlow _).setCell hlow _
      generalize (World.setCell (World.setCell (World.setCell (World.setCell W ⟨g2, 0, none⟩ (.bool true)) ⟨g2, 1, none⟩ (.bool true)) ⟨g2, 2, none⟩ (.int .i64 r)) ⟨g2, 3, none⟩ (.slice Ap (cont l i).length (c - 1))) = wF at bF hbF ⊢
      refine bodyPost_ret (v := .tuple #[.agg #[.bool true, .bool true, .int .i64 r, .slice Ap (cont l i).length (c - 1)], .bool true]) ?_ rfl ?_
      · have e0 : wF.cell? ⟨g2, 0, none⟩ = some (.bool true) := blk_cell bF 0
        have e1 : wF.cell? ⟨g2, 1, none⟩ = some (.bool true) := blk_cell bF 1
        have e2 : wF.cell? ⟨g2, 2, none⟩ = some (.int .i64 r) := blk_cell bF 2
        have e3 : wF.cell? ⟨g2, 3, none⟩ = some (.slice Ap (cont l i).length (c - 1)) := blk_cell bF 3
        clear bF hbF HBW
        simp [results, Try.results41, go_sem, e0, e1, e2, e3]
      · exact ⟨Ap, c - 1, rfl, HMT.out _ hbF, hbF⟩
    | false =>
      have hl0 := HLT.out rfl rfl
      have hl0b : (((cont l i).length : Int) == 0) = false := by rw [beq_eq_false_iff_ne]; omega
      clear hl0
      go_wp2
      have bF : (World.setCell (World.setCell (World.setCell (World.setCell W ⟨g2, 0, none⟩ (.bool false)) ⟨g2, 1, none⟩ (.bool true)) ⟨g2, 2, none⟩ (.int .i64 r)) ⟨g2, 3, none⟩ (.slice Ap (cont l i).length (c - 1))).heap[g2]? = some (.cells #[.bool false, .bool true, .int .i64 r, .slice Ap (cont l i).length (c - 1)] 79 (0, 0)) :=
        blk_put (cs := #[.bool false, .bool true, .int .i64 r, .slice none 0 0]) (blk_put (cs := #[.bool false, .bool true, .int .i64 0, .slice none 0 0]) (blk_put (cs := #[.bool false, .bool false, .int .i64 0, .slice none 0 0]) (blk_put b2 0 _ rfl) 1 _ rfl) 2 _ rfl) 3 _ rfl
      have hbF : Below w.heap.size w (World.setCell (World.setCell (World.setCell (World.setCell W ⟨g2, 0, none⟩ (.bool false)) ⟨g2, 1, none⟩ (.bool true)) ⟨g2, 2, none⟩ (.int .i64 r)) ⟨g2, 3, none⟩ (.slice Ap (cont l i).length (c - 1))) := (((HBW.out.setCell hlow _).setCell hlow _).setCell hlow _).setCell hlow _
      generalize (World.setCell (World.setCell (World.setCell (World.setCell W ⟨g2, 0, none⟩ (.bool false)) ⟨g2, 1, none⟩ (.bool true)) ⟨g2, 2, none⟩ (.int .i64 r)) ⟨g2, 3, none⟩ (.slice Ap (cont l i).length (c - 1))) = wF at bF hbF ⊢
      refine bodyPost_ret (v := .tuple #[.agg #[.bool false, .bool true, .int .i64 r, .slice Ap (cont l i).length (c - 1)], .bool true]) ?_ rfl ?_
      · have e0 : wF.cell? ⟨g2, 0, none⟩ = some (.bool false) := blk_cell bF 0
        have e1 : wF.cell? ⟨g2, 1, none⟩ = some (.bool true) := blk_cell bF 1
        have e2 : wF.cell? ⟨g2, 2, none⟩ = some (.int .i64 r) := blk_cell bF 2
        have e3 : wF.cell? ⟨g2, 3, none⟩ = some (.slice Ap (cont l i).length (c - 1)) := blk_cell bF 3
        clear bF hbF HBW
        simp [results, Try.results41, go_sem, e0, e1, e2, e3]
      · exact ⟨Ap, c - 1, rfl, HMT.out _ hbF, hbF⟩
end Go.Proofs.Ytfplmoeahbjfmaa.P

-- YtfplmoeahbjfmaaPPTake
namespace Go.Proofs.Ytfplmoeahbjfmaa.P
open Go Go.Proofs Go.RowKit Go.Shelf Go.Proofs.YtfplmoeahbjfmaaW.PrintWords Go.Proofs.YtfplmoeahbjfmaaW.PrintLast Go.Proofs.YtfplmoeahbjfmaaW.PrintMore
set_option linter.unusedVariables false
set_option linter.unusedSimpArgs false

def bd1 (u : Bool) (i : Nat) (bd : Int) : Int := if i = 0 ∧ u = true then bd + 1 else bd
theorem bd1_le {u : Bool} {i : Nat} {bd : Int} : bd ≤ bd1 u i bd ∧ bd1 u i bd ≤ bd + 1 := by unfold bd1; split <;> omega
/-- Where a text's message number i may come. -/
def May (l : List Int) (u : Bool) (xs : List Int) (nx : Int) (i : Nat) : Prop := i = 0 ∨ (u = true ∧ xs = l.take (63 * i) ∧ nx = (i : Int))
theorem mayMid_calls (w : World) (n₀ g : Nat) (u : Bool) (v : Value) (xs : List Int) (nx bd : Int) (l : List Int) (i : Nat) (y : Bool) (vp : Value) (h : JS w n₀ g u v xs nx bd) (hb0 : 0 ≤ bd) (hb1 : bd ≤ 1000000)
    (hM : May l u xs nx i) (hnx : 0 ≤ nx) (hnx1 : nx ≤ 1000000) (hvp : vp.oneCell' = true) :
    Calls Try.prog 43 #[.pointer (some ⟨g, 0, none⟩), .agg #[.bool (decide (i = 0)), .bool y, .int .i64 ((i % 64 : Nat) : Int), vp]] w fun e w' => e = .returned (.bool true) ∧
      ∃ v1, JS w' n₀ g true v1 (l.take (63 * i)) (i : Int) (bd1 u i bd) ∧ (v1 = v ∨ v1 = .slice none 0 0) ∧ Fr g v w w' ∧ w.heap.size ≤ w'.heap.size := by
  refine (may_calls w n₀ g u v xs nx bd (decide (i = 0)) y _ vp h hb0 hb1 ?_ ?_ hnx hnx1 hvp).mono ?_
  · intro e; rw [of_decide_eq_true e]; rfl
  · intro e
    have e := of_decide_eq_false e
    rcases hM with hM | ⟨hu, _, hn⟩
    · exact absurd hM e
    · exact ⟨hu, by rw [hn]; omega⟩
  · rintro e w' ⟨rfl, hj, hf, hs⟩
    refine ⟨rfl, ?_⟩
    by_cases h0 : i = 0
    · rw [decide_eq_true h0, if_pos rfl] at hj
      obtain ⟨v', hj, rfl⟩ := hj
      refine ⟨_, ?_, .inr rfl, hf, hs⟩
      subst h0
      have e1 : bd1 u 0 bd = if u = true then bd + 1 else bd := by unfold bd1; simp
      rw [e1]; exact hj
    · rw [decide_eq_false h0, if_neg (by simp)] at hj
      rcases hM with hM | ⟨hu, hx, hn⟩
      · exact absurd hM h0
      · refine ⟨v, ?_, .inl rfl, hf, hs⟩
        have e1 : bd1 u i bd = bd := by unfold bd1; rw [if_neg (fun e => h0 e.1)]
        rw [e1, ← hx, ← hn, ← hu]; exact hj
theorem JS.appended {w w2 : World} {n₀ g : Nat} {u : Bool} {v v' : Value} {xs ys : List Int} {nx bd : Int} (h : JS w n₀ g u v xs nx bd) (hu : u = true)
    (hr : Kd.R (Kd.int .u8) 5 w2 n₀ (fun _ => True) v' ys) (hg : w.grownBy w2 v.ownBlock) (hat : v'.ownBlock = v.ownBlock ∨ ∃ b, v'.ownBlock = some b ∧ w.heap.size ≤ b) :
    JS (w2.setCell ⟨g, 1, none⟩ v') n₀ g u v' ys nx bd ∧ Fr g v w (w2.setCell ⟨g, 1, none⟩ v') ∧ Newer w v v' := by
  have hb2 : w2.heap[g]? = some (.cells #[.bool u, v, .int .i64 nx, .int .i64 bd] 77 (0, 0)) := (hg.block g h.lt h.ne).trans h.blk
  have hne : some g ≠ v'.ownBlock := Kd.R_ne hr hb2 (by decide)
  refine ⟨⟨blk_put hb2 1 _ rfl, ?_, h.low, fun e => by rw [hu] at e; cases e⟩, ⟨hg.os, hg.tape, hg.output, by simpa using hg.size, fun k hk hkg hkv => ?_⟩, ?_⟩
  · obtain ⟨h0, inner, ho, hp⟩ := hr
    exact ⟨h0, inner, own_move ho (fun b hb => Below.heap_setCell w2 ⟨g, 1, none⟩ v' b (fun e => hne (by rw [hb]; exact congrArg some e.symm))), hp.imp_ (fun _ _ hm => hm)⟩
  · rw [Below.heap_setCell w2 ⟨g, 1, none⟩ v' k hkg]; exact hg.block k hk hkv
  · rcases hat with e | ⟨b, e, hb⟩
    · exact .inl e
    · exact .inr fun b' hb' => by rw [e] at hb'; injection hb' with hb'; omega
def TakePost (w : World) (n₀ g : Nat) (u : Bool) (v : Value) (bd : Int) (l : List Int) (i : Nat) (e : Ending) (w' : World) : Prop :=
  ∃ t v', e = .returned (.tuple #[t, .bool (decide (i + 1 = mcount l.length)), .int .i64 0]) ∧ Kd.R (Kd.int .u8) 5 w' w.heap.size (fun k => k ≠ g ∧ some k ≠ v'.ownBlock) t (if i + 1 = mcount l.length then l else []) ∧
    JS w' n₀ g (!decide (i + 1 = mcount l.length)) v' (if i + 1 = mcount l.length then [] else l.take (63 * (i + 1))) ((i + 1 : Nat) : Int) (bd1 u i bd) ∧ Fr g v w w' ∧ Newer w v v' ∧ w.heap.size ≤ w'.heap.size
theorem take_next (l : List Int) (i : Nat) : l.take (63 * i) ++ cont l i = l.take (63 * (i + 1)) := by
  unfold cont
  rw [show 63 * (i + 1) = 63 * i + 63 by omega]
  have h := List.take_append_drop (63 * i) (l.take (63 * i + 63))
  rw [List.take_take, show min (63 * i) (63 * i + 63) = 63 * i by omega] at h
  exact h
theorem take_last (l : List Int) (i : Nat) (h : i + 1 = mcount l.length) : l.take (63 * (i + 1)) = l := List.take_of_length_le (by unfold mcount at h; omega)
def take12.T : Bool × List (List Nat × List Nat) := (true, [([], []), ([], []), ([1], [1]), ([2], [2]), ([3], [3]), ([], []), ([5], [5]), ([4, 6], [4, 6]), ([0, 0, 1, 2, 3, 4, 5, 6, 7], [0]), ([8, 0, 1, 2, 3, 4, 5, 6, 7], [8]), ([9, 7, 7, 0, 1, 2, 3, 4, 5, 6, 7], [7, 9])])
def take12.B : List Nat := [0, 0, 2, 6, 14, 0, 32, 126, 255, 511, 1023]
theorem take12.tab : rtab .any (opsOf Try.f19 12) = take12.T := by kernel_rfl
theorem take12.bits : waitsOk take12.T.2 take12.B = true := by kernel_rfl
set_option maxRecDepth 100000 in
set_option maxHeartbeats 8000000 in
theorem take_calls (w : World) (n₀ g : Nat) (u : Bool) (v : Value) (xs : List Int) (nx bd : Int) (A : Option Addr) (n c : Nat) (l : List Int) (i : Nat) (h : JS w n₀ g u v xs nx bd) (hi : i < mcount l.length) (hl : l.length ≤ 65536)
    (hM : May l u xs nx i) (hm : MV w (fun k => k ≠ g ∧ some k ≠ v.ownBlock) (.slice A n c) (msg l i)) (hb0 : 0 ≤ bd) (hb1 : bd ≤ 1000000) (hnx : 0 ≤ nx) (hnx1 : nx ≤ 1000000) :
    Calls Try.prog 19 #[.pointer (some ⟨g, 0, none⟩), .slice A n c] w (TakePost w n₀ g u v bd l i) := by
  obtain ⟨x, hx⟩ : ∃ x, x = decide (i = 0) := ⟨_, rfl⟩
  obtain ⟨y, hy⟩ : ∃ y, y = decide (i + 1 = mcount l.length) := ⟨_, rfl⟩
  obtain ⟨r, hr⟩ : ∃ r : Int, r = ((i % 64 : Nat) : Int) := ⟨_, rfl⟩
  have hrd := read_calls w _ A n c l i hi hm
  rw [← hx, ← hy, ← hr] at hrd
  have hlc : (l.take (63 * i)).length + (cont l i).length ≤ 65536 := by
    have := congrArg List.length (take_next l i)
    rw [List.length_append] at this
    rw [this, List.length_take]; omega
  have HH := Aside0.mk h
  have HI := Aside0.mk hi
  have HLC := Aside0.mk hlc
  have HX := Aside0.mk hx
  have HY := Aside0.mk hy
  have HR := Aside0.mk hr
  have HRD := Aside0.mk hrd
  have HMAY := Aside0.mk hM
  have HM := Aside0.mk hm
  have HBN := Aside0.mk (And.intro (And.intro hb0 hb1) (And.intro hnx hnx1))
  have HL := Aside0.mk hl
  clear h hi hlc hx hy hr hrd hM hm hb0 hb1 hnx hnx1 hl
  go_enter Try.func19, Try.ntmps19
  go_wp2_with fail
  refine HRD.out.mono ?_
  rintro e w1 ⟨Ap, cp, rfl, hmv, hb⟩
  have HMV := Aside0.mk hmv
  have HB1 := Aside0.mk hb
  have HJ1 := Aside0.mk (HH.out.below hb)
  clear hmv hb HRD
  go_wp2_with fail
  have hmc := mayMid_calls (w1.alloc (.cells #[.bool x, .bool y, .int .i64 r, .slice Ap (cont l i).length cp] 79)) n₀ g u v xs nx bd l i y (.slice Ap (cont l i).length cp) (HJ1.out.below (below_alloc (Below.refl _ _) _)) HBN.out.1.1 HBN.out.1.2 HMAY.out HBN.out.2.1 HBN.out.2.2 rfl
  rw [← HX.out, ← HR.out] at hmc
  refine hmc.mono ?_
  rintro e w3 ⟨rfl, v1, hj3, hv1, hf3, hs3⟩
  clear hmc
  have hn1 : Newer w v v1 := by
    rcases hv1 with rfl | rfl
    · exact Newer.refl _ _
    · exact Newer.none _ _
  have hn1b : Newer (w1.alloc (.cells #[.bool x, .bool y, .int .i64 r, .slice Ap (cont l i).length cp] 79)) v v1 := by
    rcases hv1 with rfl | rfl
    · exact Newer.refl _ _
    · exact Newer.none _ _
  have hmv3 := Kd.V_fr (Kd.V_below HMV.out (below_alloc (Below.refl w1.heap.size w1) (.cells #[.bool x, .bool y, .int .i64 r, .slice Ap (cont l i).length cp] 79))) hf3 hn1b
  have hF3 : Fr g v w w3 := (Fr.of_below (below_step HB1.out (below_alloc (Below.refl _ _) _))).seq hf3
  obtain ⟨b7, hb7⟩ : ∃ b7, b7 = w1.heap.size := ⟨_, rfl⟩
  have hw7 : w.heap.size ≤ b7 := by rw [hb7]; exact HB1.out.size
  have hb3 : b7 < w3.heap.size := by rw [World.size_alloc] at hs3; omega
  have hg7 : g ≠ b7 := by have := HH.out.lt; omega
  have hv7 : ∀ b, v1.ownBlock = some b → b ≠ b7 := by
    intro b hb e
    rcases hv1 with rfl | rfl
    · have := (HH.out.own b hb).2; omega
    · simp [Value.ownBlock] at hb
  have bp : w3.heap[b7]? = some (.cells #[.bool x, .bool y, .int .i64 r, .slice Ap (cont l i).length cp] 79 (0, 0)) := by
    rw [hf3.block b7 (by rw [World.size_alloc]; omega) (fun e => hg7 e.symm) (fun e => by have := (HH.out.own b7 e.symm).2; omega), hb7]
    exact blk_new _ _
  rw [← hb7]
  have HJ3 := Aside0.mk hj3
  have HN1 := Aside0.mk hn1
  have HMV3 := Aside0.mk hmv3
  have HF3 := Aside0.mk hF3
  have HG7 := Aside0.mk hg7
  have HV7 := Aside0.mk hv7
  have HW7 := Aside0.mk (And.intro hw7 hb3)
  clear hj3 hv1 hf3 hs3 hn1 hn1b hmv3 hF3 hb7 hw7 hb3 hg7 hv7 HMV HB1 HJ1
  obtain ⟨A1, c1, e1⟩ := Kd.R_slice HJ3.out.row
  subst e1
  have hlc := HLC.out
  have hwl : wrap64 (((l.take (63 * i)).length : Int) + ((cont l i).length : Int)) = ((l.take (63 * i)).length : Int) + ((cont l i).length : Int) := by unfold wrap64; omega
  have hsd : decide ((65536 : Int) < ((l.take (63 * i)).length : Int) + ((cont l i).length : Int)) = false := decide_eq_false (by omega)
  have hsd2 : decide (((l.take (63 * i)).length : Int) + ((cont l i).length : Int) > 65536) = false := decide_eq_false (by omega)
  have hc1 : w3.cell? ⟨g, 1, none⟩ = some (.slice A1 (l.take (63 * i)).length c1) := blk_cell HJ3.out.blk 1
  have hp3 : w3.cell? ⟨b7, 3, none⟩ = some (.slice Ap (cont l i).length cp) := blk_cell bp 3
  have HBP := Aside0.mk bp
  clear bp
  generalize hLT : l.take (63 * i) = L at hlc hwl hsd hsd2 hc1 HJ3 HLC HV7 HN1 HMV3 ⊢
  have HLT := Aside0.mk hLT
  clear hLT
  go_wp2_with fail
  go_quiet (fail)
  go_wp2_with fail
  have hb5 : Below w3.heap.size w3 (w3.drewN nq).drew := below_drew1 (pw_below_drewN (Below.refl _ _) nq)
  have HJ5 := Aside0.mk (HJ3.out.below hb5)
  have HP5 := Aside0.mk (Kd.V_below HMV3.out hb5)
  have HBP5 := Aside0.mk ((hb5.block b7 HW7.out.2).trans HBP.out)
  have HF5 := Aside0.mk (HF3.out.seq (Fr.of_below (v := v) hb5))
  have HSZ := Aside0.mk (show w3.heap.size ≤ (w3.drewN nq).drew.heap.size from hb5.size)
  have HS := Aside0.mk (show (w3.drewN nq).drew.cell? ⟨g, 1, none⟩ = some (.slice A1 L.length c1) ∧ (w3.drewN nq).drew.cell? ⟨b7, 3, none⟩ = some (.slice Ap (cont l i).length cp) from ⟨blk_cell HJ5.out.blk 1, blk_cell HBP5.out 3⟩)
  clear hb5 hc1 hp3 HJ3 HMV3 HBP HF3
  refine start_ (n := 11) (S := (fun w' => w'.cell? ⟨g, 1, none⟩ = some (.slice A1 L.length c1) ∧ w'.cell? ⟨b7, 3, none⟩ = some (.slice Ap (cont l i).length cp))) (ds := [10]) #[false, false, false, false, false, false, false, false, false, false, false] (by kernel_rfl) rfl rfl HS.out (fun hHeld => ?_)
  refine with_tabW take12.tab take12.bits (fun HT_ HW_ => ?_)
  refine pure_ (i := 0) (N := some 37) (v := ?_) (a' := ?_) #[true, false, false, false, false, false, false, false, false, false, false] rfl rfl (any_of HT_.out (by kernel_rfl)) (fun _ _ _ h => h) (Or.inl ⟨by rfl, ?_⟩) ?_ ?_
  rotate_left
  · intro w'
    go_simp
    with_reducible rfl
  rotate_left
  · simp only [Act.put, List.setIfInBounds_toArray, List.set_cons_zero, List.set_cons_succ, i64_w, i32_w]
    rfl
  refine pure_ (i := 1) (N := some 38) (v := ?_) (a' := ?_) #[true, true, false, false, false, false, false, false, false, false, false] rfl rfl (any_of HT_.out (by kernel_rfl)) (fun _ _ _ h => h) (Or.inl ⟨by rfl, ?_⟩) ?_ ?_
  rotate_left
  · intro w'
    go_simp
    with_reducible rfl
  rotate_left
  · simp only [Act.put, List.setIfInBounds_toArray, List.set_cons_zero, List.set_cons_succ, i64_w, i32_w]
    rfl
  refine pure_ (i := 2) (N := some 39) (v := ?_) (a' := ?_) #[true, true, true, false, false, false, false, false, false, false, false] rfl rfl (any_of HT_.out (by kernel_rfl)) (fun _ _ _ h => h) (Or.inl ⟨by rfl, ?_⟩) ?_ ?_
  rotate_left
  · intro w'
    go_simp
    with_reducible rfl
  rotate_left
  · simp only [Act.put, List.setIfInBounds_toArray, List.set_cons_zero, List.set_cons_succ, i64_w, i32_w]
    rfl
  refine pure_ (i := 3) (N := some 40) (v := ?_) (a' := ?_) #[true, true, true, true, false, false, false, false, false, false, false] rfl rfl (any_of HT_.out (by kernel_rfl)) (fun _ _ _ h => h) (Or.inl ⟨by rfl, ?_⟩) ?_ ?_
  rotate_left
  · intro w'
    go_simp
    with_reducible rfl
  rotate_left
  · simp only [Act.put, List.setIfInBounds_toArray, List.set_cons_zero, List.set_cons_succ, i64_w, i32_w]
    rfl
  refine take_ (i := 4) (N := some 41) (v := ?_) (a' := ?_) #[true, true, true, true, true, false, false, false, false, false, false] rfl rfl (take_ofW HT_.out HW_.out (by kernel_rfl)) (fun _ _ _ h => h) (Or.inl ⟨by rfl, ?_⟩) hHeld ?_ ?_
  rotate_left
  · rintro w' ⟨s0, s1⟩
    go_simp
    with_reducible rfl
  rotate_left
  · simp only [Act.put, List.setIfInBounds_toArray, List.set_cons_zero, List.set_cons_succ, i64_w, i32_w]
    rfl
  refine pure_ (i := 5) (N := some 42) (v := ?_) (a' := ?_) #[true, true, true, true, true, true, false, false, false, false, false] rfl rfl (any_of HT_.out (by kernel_rfl)) (fun _ _ _ h => h) (Or.inl ⟨by rfl, ?_⟩) ?_ ?_
  rotate_left
  · intro w'
    go_simp
    with_reducible rfl
  rotate_left
  · simp only [Act.put, List.setIfInBounds_toArray, List.set_cons_zero, List.set_cons_succ, i64_w, i32_w]
    rfl
  refine take_ (i := 6) (N := some 43) (v := ?_) (a' := ?_) #[true, true, true, true, true, true, true, false, false, false, false] rfl rfl (take_ofW HT_.out HW_.out (by kernel_rfl)) (fun _ _ _ h => h) (Or.inl ⟨by rfl, ?_⟩) hHeld ?_ ?_
  rotate_left
  · rintro w' ⟨s0, s1⟩
    go_simp
    with_reducible rfl
  rotate_left
  · simp only [Act.put, List.setIfInBounds_toArray, List.set_cons_zero, List.set_cons_succ, i64_w, i32_w]
    rfl
  refine one_ (i := 7) (N := some 44) #[true, true, true, true, true, true, true, true, false, false, false] rfl rfl (one_of HT_.out (by kernel_rfl)) (by decide) (fun K hK => ?_)
  refine Kd.R_append_rows_step (Kd.int .u8) (w0 := (w3.drewN nq).drew) n₀ (by rfl) (.tmp 41) (.tmp 43) 31 5 (.int .u8 0) 1 rfl Try.underlying31 u8_infoS rfl (by decide) (by omega) (.slice A1 L.length c1) L (cont l i) Ap (cont l i).length cp (fun _ => True) (fun _ => False) (by first | rfl | (go_simp; done)) (by first | rfl | (go_simp; done)) HJ5.out.row (Kd.V_reads' HP5.out).2.2 (fun _ _ h => h) (fun _ h => h.elim) (fun _ _ => trivial) (Below.refl _ _) (by have := HJ5.out.low; have := HJ5.out.lt; omega) (by have := HLC.out; omega) ?_
  intro v6 w6 ho hb hg hat
  obtain ⟨A6, c6, e6⟩ := Kd.R_slice ho
  obtain ⟨n6, hn6⟩ : ∃ n6, n6 = (L ++ cont l i).length := ⟨_, rfl⟩
  rw [← hn6] at e6
  subst e6
  have HN6 := Aside0.mk hn6
  clear hn6
  have HA := Aside0.mk (HJ5.out.appended rfl ho hg hat)
  have HG := Aside0.mk hg
  have hbp6 := (hg.block b7 (blk_lt HBP5.out) (fun e => HV7.out b7 e.symm rfl)).trans HBP5.out
  have hbg6 := (hg.block g HJ5.out.lt HJ5.out.ne).trans HJ5.out.blk
  have HBP6 := Aside0.mk hbp6
  have HBG6 := Aside0.mk hbg6
  clear ho hb hg hat hbp6 hbg6
  refine hK.out _ _ ⟨blk_cell HBG6.out 1, blk_cell HBP6.out 3⟩ (fun hHeld => ?_)
  clear hK K
  refine norm_ (a' := ?_) ?_ ?_
  rotate_left
  · show Act.put _ (some 44) _ = _
    simp only [Act.put, List.setIfInBounds_toArray, List.set_cons_zero, List.set_cons_succ, i64_w, i32_w]
    rfl
  refine pure_ (i := 8) (N := some 45) (v := ?_) (a' := ?_) #[true, true, true, true, true, true, true, true, true, false, false] rfl rfl (any_of HT_.out (by kernel_rfl)) (fun _ _ _ h => h) (Or.inl ⟨by rfl, ?_⟩) ?_ ?_
  rotate_left
  · intro w'
    go_simp
    with_reducible rfl
  rotate_left
  · simp only [Act.put, List.setIfInBounds_toArray, List.set_cons_zero, List.set_cons_succ, i64_w, i32_w]
    rfl
  refine pure_ (i := 9) (N := some 46) (v := ?_) (a' := ?_) #[true, true, true, true, true, true, true, true, true, true, false] rfl rfl (any_of HT_.out (by kernel_rfl)) (fun _ _ _ h => h) (Or.inl ⟨by rfl, ?_⟩) ?_ ?_
  rotate_left
  · intro w'
    go_simp
    with_reducible rfl
  rotate_left
  · simp only [Act.put, List.setIfInBounds_toArray, List.set_cons_zero, List.set_cons_succ, i64_w, i32_w]
    rfl
  refine last_ (i := 10) (N := none) #[true, true, true, true, true, true, true, true, true, true, true] rfl rfl (one_of HT_.out (by kernel_rfl)) (by decide) (fun K hK => ?_)
  have hc1 : w6.cell? ⟨g, 1, none⟩ = some (.slice A1 L.length c1) := blk_cell HBG6.out 1
  have hfz := blk_frozen HBG6.out 1
  refine skip_ (w1 := ?_) (by rfl) rfl ?_ ?_
  rotate_left 1
  · go_simp
    rfl
  refine hK.out _ _ ?_
  clear hK K
  refine done_ (done_of HT_.out (by kernel_rfl)) ?_
  clear hc1 hfz HS HP5
  obtain ⟨hj7, hf7, hn7⟩ := HA.out
  have hbp7 : (w6.setCell ⟨g, 1, none⟩ (.slice A6 n6 c6)).heap[b7]? = some (.cells #[.bool x, .bool y, .int .i64 r, .slice Ap (cont l i).length cp] 79 (0, 0)) := (Below.heap_setCell w6 ⟨g, 1, none⟩ _ b7 (fun e => HG7.out e.symm)).trans HBP6.out
  generalize (w6.setCell ⟨g, 1, none⟩ (.slice A6 n6 c6)) = w7 at hj7 hf7 hbp7 ⊢
  have hF7 : Fr g v w w7 := HF5.out.trans HN1.out hf7
  have hN7 : Newer w v (.slice A6 n6 c6) := HN1.out.trans (HF5.out.size) hn7
  clear hf7 hn7 HA HG HBP6 HBG6 HBP5 HF5 HJ5 HN1
  have HJ7 := Aside0.mk hj7
  have HF7 := Aside0.mk hF7
  have HN7 := Aside0.mk hN7
  have hc2 : w7.cell? ⟨g, 2, none⟩ = some (.int .i64 (i : Int)) := blk_cell hj7.blk 2
  have hfz := fun q => blk_frozen hj7.blk q
  have hp1 : w7.cell? ⟨b7, 1, none⟩ = some (.bool y) := blk_cell hbp7 1
  have hne : g ≠ b7 := HG7.out
  have hne2 : b7 ≠ g := fun e => HG7.out e.symm
  have hic : (i : Int) ≤ 100000 := by have := HI.out; have := HL.out; unfold mcount at *; omega
  clear hj7 hF7 hN7 hbp7
  have hc1 : w7.cell? ⟨g, 1, none⟩ = some (.slice A6 n6 c6) := blk_cell HJ7.out.blk 1
  have HJ8 := Aside0.mk (HJ7.out.set2 (((i : Nat) : Int) + 1))
  have HF8 := Aside0.mk (HF7.out.seq (Fr.set (g := g) (v := v) (w := w7) 2 (.int .i64 (((i : Nat) : Int) + 1))))
  clear HJ7 HF7
  have hL1 : L ++ cont l i = l.take (63 * (i + 1)) := by rw [← HLT.out]; exact take_next l i
  have HL1 := Aside0.mk hL1
  clear hL1
  cases y with
  | false =>
    go_wp2_with fail
    go_ret3
    have hy := of_decide_eq_false HY.out.symm
    refine ⟨.slice none 0 0, .slice A6 n6 c6, by rw [decide_eq_false hy]; rfl, ?_, ?_, HF8.out, HN7.out, ?_⟩
    · rw [if_neg hy]; exact Kd.R_nil _ _ _ _ _
    · rw [if_neg hy, decide_eq_false hy, ← HL1.out]; exact HJ8.out
    · exact HF8.out.size
  | true =>
    have hl2 : (L ++ cont l i).length < 140737488355328 := by have := HLC.out; rw [List.length_append]; omega
    obtain ⟨hrd1, hrd2, hrd3⟩ := Kd.R_reads' (show Kd.R (Kd.int .u8) 5 _ n₀ (fun _ => True) (.slice A6 n6 c6) (L ++ cont l i) from HJ8.out.row)
    have hcl := bytes_Clone.calls A6 c6 (L ++ cont l i) (L ++ cont l i) _ hrd3 (by omega) (by unfold bytes_Clone.f; rw [if_pos hl2])
    rw [← hrd1] at hcl
    have HCL := Aside0.mk hcl
    clear hcl hrd1 hrd2 hrd3 hl2
    go_wp2_with fail
    refine HCL.out.mono ?_
    rintro e w9 ⟨v9, rfl, hr9, hb9⟩
    have hj9 := HJ8.out.below hb9
    have hf9 := HF8.out.seq (Fr.of_below (g := g) (v := v) hb9)
    have hfz9 := fun q => blk_frozen hj9.blk q
    have hd0 : w9.cell? ⟨g, 0, none⟩ = some (.bool true) := blk_cell hj9.blk 0
    have hd1 : w9.cell? ⟨g, 1, none⟩ = some (.slice A6 n6 c6) := blk_cell hj9.blk 1
    have HR9 := Aside0.mk hr9
    have HJ9 := Aside0.mk hj9
    have HF9 := Aside0.mk hf9
    clear hr9 hb9 hj9 hf9 HCL hfz hc1 hc2 hp1
    go_wp2_with fail
    go_ret3
    have hy := of_decide_eq_true HY.out.symm
    refine ⟨v9, .slice none 0 0, by rw [decide_eq_true hy]; rfl, ?_, ?_, ?_, Newer.none _ _, ?_⟩
    · rw [if_pos hy]
      have hl := HL1.out
      rw [take_last l i hy] at hl
      have h9 := HR9.out
      rw [hl] at h9
      have h9b := Kd.R_mono (Kd.R_bound h9) (ok' := fun k => k ≠ g ∧ some k ≠ (Value.slice none 0 0).ownBlock) (fun k ok => ⟨by have := HJ8.out.lt; have := ok.2.1; omega, by simp [Value.ownBlock]⟩)
      exact Kd.R_lower (Kd.R_far (p := ⟨g, 1, none⟩) (Kd.R_far (p := ⟨g, 0, none⟩) h9b (fun k ok => ok.1) _) (fun k ok => ok.1) _) HF8.out.size
    · rw [if_pos hy, decide_eq_true hy]; exact HJ9.out.clear
    · exact HF9.out.seq ((Fr.set 0 _).seq (Fr.set 1 _))
    · have := HF9.out.size; simpa using this
end Go.Proofs.Ytfplmoeahbjfmaa.P

-- YtfplmoeahbjfmaaPPRef
namespace Go.Proofs.Ytfplmoeahbjfmaa.P
open Go Go.Proofs Go.RowKit Go.Shelf Go.Proofs.YtfplmoeahbjfmaaW.PrintWords Go.Proofs.YtfplmoeahbjfmaaW.PrintLast Go.Proofs.YtfplmoeahbjfmaaW.PrintMore
set_option linter.unusedVariables false
set_option linter.unusedSimpArgs false
attribute [local go_sem] max2_int min2_int max_two min_two

set_option maxRecDepth 100000 in
set_option maxHeartbeats 8000000 in
theorem rsplit_calls (A0 : Option Addr) (c0 : Nat) (l : List Int) (w : World) (hr : Kd.C (Kd.int .u8) w A0 l.length l) (hc : l.length ≤ c0) (hl : l.length ≤ 65536) :
    Calls Try.prog 20 #[.slice A0 l.length c0] w fun e w' => ∃ v, e = .returned v ∧ Kd.R kRow 31 w' w.heap.size (fun _ => True) v (msgs l (mcount l.length)) ∧ Below w.heap.size w w' := by
  obtain ⟨mc, hmc⟩ : ∃ mc, mc = mcount l.length := ⟨_, rfl⟩
  have HMD := Aside0.mk hmc
  have HR0 := Aside0.mk hr
  have HB := Aside0.mk (Below.refl w.heap.size w)
  have hm1 : 0 < mc := by rw [hmc]; unfold mcount; omega
  have hm2 : mc ≤ 1041 := by rw [hmc]; unfold mcount; omega
  clear hmc hr
  go_enter Try.func20, Try.ntmps20
  go_wp2_with fail
  go_loopw [3, 4] (fun v3 v4 wr => ∃ (i : Nat), v4 = .int .i64 (i : Int) ∧ i ≤ mc ∧ Aside0 (Kd.R kRow 31 wr w.heap.size (fun _ => True) v3 (msgs l i)) ∧ Aside0 (Below w.heap.size w wr)) (fun _ v4 _ => mc - (intOf v4).toNat)
  case atStart => exact ⟨0, by simp, by omega, ⟨Kd.R_nil _ _ _ _ _⟩, HB⟩
  case round =>
    clear HB
    obtain ⟨i, rfl, hi, HO, HB⟩ := hrel
    have hmul : wrap64 (63 * (i : Int)) = 63 * (i : Int) := by unfold wrap64; omega
    by_cases hlt : i < mc
    · obtain ⟨z, hz⟩ : ∃ z : Bool, z = decide (i = 0) := ⟨_, rfl⟩
      obtain ⟨y, hy⟩ : ∃ y : Bool, y = decide (i + 1 = mc) := ⟨_, rfl⟩
      have hz1 : ((i : Int) == 0) = z := by rw [hz]; by_cases q : i = 0 <;> simp [q]
      have hlo : 63 * i ≤ l.length := by have := HMD.out; unfold mcount at this; omega
      have hcon : z = false → decide (63 * (i : Int) < (l.length : Int)) = true := by
        intro e
        rw [hz] at e
        have e := of_decide_eq_false e
        have := HMD.out; unfold mcount at this
        exact decide_eq_true (by omega)
      obtain ⟨J, hJ⟩ : ∃ J : Int, (if (l.length : Int) < 63 * (i : Int) + 63 then (l.length : Int) else 63 * (i : Int) + 63) = J := ⟨_, rfl⟩
      have hJ1 : 63 * (i : Int) ≤ J := by rw [← hJ]; split <;> omega
      have hJ2 : J ≤ (l.length : Int) := by rw [← hJ]; split <;> omega
      have hJ3 : J.toNat = min (63 * i + 63) l.length := by rw [← hJ]; split <;> omega
      have hy1 : decide ((l.length : Int) ≤ 63 * (i : Int) + 63) = y := by
        rw [hy]
        have := HMD.out; unfold mcount at this
        by_cases q : i + 1 = mc
        · rw [decide_eq_true q]; exact decide_eq_true (by omega)
        · rw [decide_eq_false q]; exact decide_eq_false (by omega)
      obtain ⟨i0, hi0, hz0, hsz0, hz2⟩ := info_parts u8_infoS
      obtain ⟨Ap, hcut, hA, hC⟩ := print_mid_of (P := Try.prog) (Value.int .u8) 0 31 5 .i64 .i64 Try.underlying31 hi0 hsz0 A0 c0 l (63 * (i : Int)) J (by omega) hJ1 hJ2 hc
      have ec : (l.take J.toNat).drop (63 * (i : Int)).toNat = cont l i := by
        unfold cont
        rw [show (63 * (i : Int)).toNat = 63 * i by omega, hJ3]
        congr 1
        by_cases q : 63 * i + 63 ≤ l.length
        · rw [show min (63 * i + 63) l.length = 63 * i + 63 by omega]
        · rw [show min (63 * i + 63) l.length = l.length by omega, List.take_of_length_le (by omega), List.take_of_length_le (by omega)]
      rw [ec] at hcut hA hC
      have HCP := Aside0.mk (Kd.C_of_reads (h1 := fun _ => rfl) (hA _ (Kd.reads_of_C (Kd.C_below HR0.out HB.out))))
      obtain ⟨cP, hcP⟩ : ∃ cP, cP = c0 - (63 * (i : Int)).toNat := ⟨_, rfl⟩
      rw [← hcP] at hcut hC
      have HZ := Aside0.mk hz
      have HY := Aside0.mk hy
      obtain ⟨n8, hn8⟩ : ∃ n8, n8 = wr.heap.size := ⟨_, rfl⟩
      have HN8 := Aside0.mk (show n8 ≤ wr.heap.size by omega)
      have HO8 := Aside0.mk (show ∀ k, u3.ownBlock = some k → k < n8 from fun k hk => by rw [hn8]; exact Kd.R_lt HO.out k hk)
      have HOb := Aside0.mk (Kd.R_mono (Kd.R_bound HO.out) (ok' := fun k => k < n8) (fun k ok => by rw [hn8]; exact ok.2.2.1))
      clear HO
      have HO := HOb
      clear HOb
      have HCL := Aside0.mk (show (cont l i).length ≤ 63 by rw [cont_length]; omega)
      have HLM := Aside0.mk (show i ≤ 1100 by omega)
      clear hz hy hJ1 hJ2 hJ3 ec hA hC hcP hn8 hz0 hi0 hsz0 hz2 hlo
      cases z with
      | false =>
        have hcn := hcon rfl
        clear hcon
        cases y with
        | false =>
          obtain ⟨hd, hhd⟩ : ∃ hd, hd = headOf mc i := ⟨_, rfl⟩
          have HHD := Aside0.mk hhd
          have hv : (i : Int) % 64 = hd := by rw [hhd]; unfold headOf; have h1 := of_decide_eq_false HZ.out.symm; have h2 := of_decide_eq_false HY.out.symm; rw [if_neg h1, if_neg h2]; omega
          clear hhd
          have HMSG := Aside0.mk (show msg l i = [hd] ++ cont l i by unfold msg; rw [← HMD.out, ← HHD.out]; rfl)
          go_wp2_with (first | ((with_reducible refine gate_dst (N := 45) rfl ?_); refine Kd.R_lit (Kd.int .u8) (w0 := w) w.heap.size 5 ?hg (N := 45) ?hd (xs := [hd]) (inner := [.int .u8 hd]) (ok := fun k => n8 ≤ k) (okp := fun _ => False) ?hr ?hp (fun _ hk => hk.elim) HN8.out HB.out HB.out.size (by simp) ?_; (case hd => rfl); (case hg => rfl); (case hr => first | (go_simp; done) | (go_simp; rfl)); (case hp => exact Reps.one rfl (Reps.none _ _)); intro v42 w42 ho hb hg hn; have H42 := Aside0.mk ho; have n0 := Aside0.mk hb; have n2_ := Aside0.mk (Kd.R_grown HO.out hg (fun k ok => by simp)); have n4 := Aside0.mk (Kd.C_below HCP.out (Below.of_grown hg)); have n5 := Aside0.mk (Nat.le_trans HN8.out hg.size); clear HB HO HCP HN8 ho hb hg hn; have HB := n0; have HO := n2_; have HCP := n4; have HN8 := n5; clear n0 n2_ n4 n5) | ((with_reducible refine gate_builtin (b := .append) (xs := #[.tmp 45, .tmp 46]) rfl ?_); at_builtin; refine Kd.R_append_rows (Kd.int .u8) (w0 := w) w.heap.size rfl (.tmp 45) (.tmp 46) 31 5 (.int .u8 0) 1 rfl Try.underlying31 u8_infoS rfl (by decide) (by omega) v42 [hd] (cont l i) Ap (cont l i).length cP (fun k => n8 ≤ k) (fun _ => False) rfl rfl H42.out HCP.out (fun _ _ h => h) (fun _ h => h.elim) (fun k hk => Nat.le_trans HN8.out hk) HB.out HB.out.size (by have := HCL.out; simp only [List.length_cons, List.length_nil]; omega) ?_; intro v44 w44 ho hb hg hat; have H44 := Aside0.mk ho; obtain ⟨A44, n44, c44, e44⟩ : ∃ A n c, v44 = Value.slice A n c := (by obtain ⟨A, c, e⟩ := Kd.R_slice ho; exact ⟨A, _, c, e⟩); subst e44; have n0 := Aside0.mk hb; have n2_ := Aside0.mk (Kd.R_grown HO.out hg (fun k ok e => by have := H42.out.1 k e.symm; omega)); have n5 := Aside0.mk (Nat.le_trans HN8.out hg.size); clear HB HO HCP HN8 H42 ho hb hg hat; have HB := n0; have HO := n2_; have HN8 := n5; clear n0 n2_ n5) | ((with_reducible refine gate_builtin (b := .append) (xs := #[.tmp 42, .tmp 48]) rfl ?_); at_builtin; refine Kd.R_append kRow (w0 := w) w.heap.size rfl (.tmp 42) (.tmp 48) 36 31 (.slice none 0 0) 24 rfl Try.underlying36 row_infoS rfl (by decide) (by omega) u3 (msgs l i) (msg l i) [.slice A44 n44 c44] (fun _ => True) (fun k => n8 ≤ k) rfl (by first | (go_simp; done) | (go_simp; rfl)) ⟨.slice A44 n44 c44, rfl, by rw [HMSG.out]; exact H44.out⟩ (fun k hk => ⟨trivial, fun e => by have := HO8.out k e.symm; omega⟩) (fun k hk => trivial) (Kd.R_mono HO.out (fun k hk => trivial)) HB.out HB.out.size (by have := HLM.out; simp only [msgs, List.length_map, List.length_range]; omega) ?_; intro v46 w46 ho hb hg hat; rw [← msgs_succ] at ho; have n0 := Aside0.mk hb; have n2_ := Aside0.mk ho; clear HB HO HN8 H44 ho hb hg hat; have HB := n0; have HO := n2_; clear n0 n2_) | fail)
          go_roundw
          exact ⟨i + 1, by simp, by omega, HO, HB⟩
          case measure => simp only [intOf]; omega
        | true =>
          obtain ⟨hd, hhd⟩ : ∃ hd, hd = headOf mc i := ⟨_, rfl⟩
          have HHD := Aside0.mk hhd
          have hv : (i : Int) % 64 + 64 = hd := by rw [hhd]; unfold headOf; have h1 := of_decide_eq_false HZ.out.symm; have h2 := of_decide_eq_true HY.out.symm; rw [if_neg h1, if_pos h2]; omega
          clear hhd
          have HMSG := Aside0.mk (show msg l i = [hd] ++ cont l i by unfold msg; rw [← HMD.out, ← HHD.out]; rfl)
          go_wp2_with (first | ((with_reducible refine gate_dst (N := 45) rfl ?_); refine Kd.R_lit (Kd.int .u8) (w0 := w) w.heap.size 5 ?hg (N := 45) ?hd (xs := [hd]) (inner := [.int .u8 hd]) (ok := fun k => n8 ≤ k) (okp := fun _ => False) ?hr ?hp (fun _ hk => hk.elim) HN8.out HB.out HB.out.size (by simp) ?_; (case hd => rfl); (case hg => rfl); (case hr => first | (go_simp; done) | (go_simp; rfl)); (case hp => exact Reps.one rfl (Reps.none _ _)); intro v42 w42 ho hb hg hn; have H42 := Aside0.mk ho; have n0 := Aside0.mk hb; have n2_ := Aside0.mk (Kd.R_grown HO.out hg (fun k ok => by simp)); have n4 := Aside0.mk (Kd.C_below HCP.out (Below.of_grown hg)); have n5 := Aside0.mk (Nat.le_trans HN8.out hg.size); clear HB HO HCP HN8 ho hb hg hn; have HB := n0; have HO := n2_; have HCP := n4; have HN8 := n5; clear n0 n2_ n4 n5) | ((with_reducible refine gate_builtin (b := .append) (xs := #[.tmp 45, .tmp 46]) rfl ?_); at_builtin; refine Kd.R_append_rows (Kd.int .u8) (w0 := w) w.heap.size rfl (.tmp 45) (.tmp 46) 31 5 (.int .u8 0) 1 rfl Try.underlying31 u8_infoS rfl (by decide) (by omega) v42 [hd] (cont l i) Ap (cont l i).length cP (fun k => n8 ≤ k) (fun _ => False) rfl rfl H42.out HCP.out (fun _ _ h => h) (fun _ h => h.elim) (fun k hk => Nat.le_trans HN8.out hk) HB.out HB.out.size (by have := HCL.out; simp only [List.length_cons, List.length_nil]; omega) ?_; intro v44 w44 ho hb hg hat; have H44 := Aside0.mk ho; obtain ⟨A44, n44, c44, e44⟩ : ∃ A n c, v44 = Value.slice A n c := (by obtain ⟨A, c, e⟩ := Kd.R_slice ho; exact ⟨A, _, c, e⟩); subst e44; have n0 := Aside0.mk hb; have n2_ := Aside0.mk (Kd.R_grown HO.out hg (fun k ok e => by have := H42.out.1 k e.symm; omega)); have n5 := Aside0.mk (Nat.le_trans HN8.out hg.size); clear HB HO HCP HN8 H42 ho hb hg hat; have HB := n0; have HO := n2_; have HN8 := n5; clear n0 n2_ n5) | ((with_reducible refine gate_builtin (b := .append) (xs := #[.tmp 42, .tmp 48]) rfl ?_); at_builtin; refine Kd.R_append kRow (w0 := w) w.heap.size rfl (.tmp 42) (.tmp 48) 36 31 (.slice none 0 0) 24 rfl Try.underlying36 row_infoS rfl (by decide) (by omega) u3 (msgs l i) (msg l i) [.slice A44 n44 c44] (fun _ => True) (fun k => n8 ≤ k) rfl (by first | (go_simp; done) | (go_simp; rfl)) ⟨.slice A44 n44 c44, rfl, by rw [HMSG.out]; exact H44.out⟩ (fun k hk => ⟨trivial, fun e => by have := HO8.out k e.symm; omega⟩) (fun k hk => trivial) (Kd.R_mono HO.out (fun k hk => trivial)) HB.out HB.out.size (by have := HLM.out; simp only [msgs, List.length_map, List.length_range]; omega) ?_; intro v46 w46 ho hb hg hat; rw [← msgs_succ] at ho; have n0 := Aside0.mk hb; have n2_ := Aside0.mk ho; clear HB HO HN8 H44 ho hb hg hat; have HB := n0; have HO := n2_; clear n0 n2_) | fail)
          go_roundw
          exact ⟨i + 1, by simp, by omega, HO, HB⟩
          case measure => simp only [intOf]; omega
      | true =>
        clear hcon
        cases y with
        | false =>
          obtain ⟨hd, hhd⟩ : ∃ hd, hd = headOf mc i := ⟨_, rfl⟩
          have HHD := Aside0.mk hhd
          have hv : (i : Int) % 64 + 128 = hd := by rw [hhd]; unfold headOf; have h1 := of_decide_eq_true HZ.out.symm; have h2 := of_decide_eq_false HY.out.symm; rw [if_pos h1, if_neg h2]; omega
          clear hhd
          have HMSG := Aside0.mk (show msg l i = [hd] ++ cont l i by unfold msg; rw [← HMD.out, ← HHD.out]; rfl)
          go_wp2_with (first | ((with_reducible refine gate_dst (N := 45) rfl ?_); refine Kd.R_lit (Kd.int .u8) (w0 := w) w.heap.size 5 ?hg (N := 45) ?hd (xs := [hd]) (inner := [.int .u8 hd]) (ok := fun k => n8 ≤ k) (okp := fun _ => False) ?hr ?hp (fun _ hk => hk.elim) HN8.out HB.out HB.out.size (by simp) ?_; (case hd => rfl); (case hg => rfl); (case hr => first | (go_simp; done) | (go_simp; rfl)); (case hp => exact Reps.one rfl (Reps.none _ _)); intro v42 w42 ho hb hg hn; have H42 := Aside0.mk ho; have n0 := Aside0.mk hb; have n2_ := Aside0.mk (Kd.R_grown HO.out hg (fun k ok => by simp)); have n4 := Aside0.mk (Kd.C_below HCP.out (Below.of_grown hg)); have n5 := Aside0.mk (Nat.le_trans HN8.out hg.size); clear HB HO HCP HN8 ho hb hg hn; have HB := n0; have HO := n2_; have HCP := n4; have HN8 := n5; clear n0 n2_ n4 n5) | ((with_reducible refine gate_builtin (b := .append) (xs := #[.tmp 45, .tmp 46]) rfl ?_); at_builtin; refine Kd.R_append_rows (Kd.int .u8) (w0 := w) w.heap.size rfl (.tmp 45) (.tmp 46) 31 5 (.int .u8 0) 1 rfl Try.underlying31 u8_infoS rfl (by decide) (by omega) v42 [hd] (cont l i) Ap (cont l i).length cP (fun k => n8 ≤ k) (fun _ => False) rfl rfl H42.out HCP.out (fun _ _ h => h) (fun _ h => h.elim) (fun k hk => Nat.le_trans HN8.out hk) HB.out HB.out.size (by have := HCL.out; simp only [List.length_cons, List.length_nil]; omega) ?_; intro v44 w44 ho hb hg hat; have H44 := Aside0.mk ho; obtain ⟨A44, n44, c44, e44⟩ : ∃ A n c, v44 = Value.slice A n c := (by obtain ⟨A, c, e⟩ := Kd.R_slice ho; exact ⟨A, _, c, e⟩); subst e44; have n0 := Aside0.mk hb; have n2_ := Aside0.mk (Kd.R_grown HO.out hg (fun k ok e => by have := H42.out.1 k e.symm; omega)); have n5 := Aside0.mk (Nat.le_trans HN8.out hg.size); clear HB HO HCP HN8 H42 ho hb hg hat; have HB := n0; have HO := n2_; have HN8 := n5; clear n0 n2_ n5) | ((with_reducible refine gate_builtin (b := .append) (xs := #[.tmp 42, .tmp 48]) rfl ?_); at_builtin; refine Kd.R_append kRow (w0 := w) w.heap.size rfl (.tmp 42) (.tmp 48) 36 31 (.slice none 0 0) 24 rfl Try.underlying36 row_infoS rfl (by decide) (by omega) u3 (msgs l i) (msg l i) [.slice A44 n44 c44] (fun _ => True) (fun k => n8 ≤ k) rfl (by first | (go_simp; done) | (go_simp; rfl)) ⟨.slice A44 n44 c44, rfl, by rw [HMSG.out]; exact H44.out⟩ (fun k hk => ⟨trivial, fun e => by have := HO8.out k e.symm; omega⟩) (fun k hk => trivial) (Kd.R_mono HO.out (fun k hk => trivial)) HB.out HB.out.size (by have := HLM.out; simp only [msgs, List.length_map, List.length_range]; omega) ?_; intro v46 w46 ho hb hg hat; rw [← msgs_succ] at ho; have n0 := Aside0.mk hb; have n2_ := Aside0.mk ho; clear HB HO HN8 H44 ho hb hg hat; have HB := n0; have HO := n2_; clear n0 n2_) | fail)
          go_roundw
          exact ⟨i + 1, by simp, by omega, HO, HB⟩
          case measure => simp only [intOf]; omega
        | true =>
          obtain ⟨hd, hhd⟩ : ∃ hd, hd = headOf mc i := ⟨_, rfl⟩
          have HHD := Aside0.mk hhd
          have hv : (i : Int) % 64 + 128 + 64 = hd := by rw [hhd]; unfold headOf; have h1 := of_decide_eq_true HZ.out.symm; have h2 := of_decide_eq_true HY.out.symm; rw [if_pos h1, if_pos h2]; omega
          clear hhd
          have HMSG := Aside0.mk (show msg l i = [hd] ++ cont l i by unfold msg; rw [← HMD.out, ← HHD.out]; rfl)
          go_wp2_with (first | ((with_reducible refine gate_dst (N := 45) rfl ?_); refine Kd.R_lit (Kd.int .u8) (w0 := w) w.heap.size 5 ?hg (N := 45) ?hd (xs := [hd]) (inner := [.int .u8 hd]) (ok := fun k => n8 ≤ k) (okp := fun _ => False) ?hr ?hp (fun _ hk => hk.elim) HN8.out HB.out HB.out.size (by simp) ?_; (case hd => rfl); (case hg => rfl); (case hr => first | (go_simp; done) | (go_simp; rfl)); (case hp => exact Reps.one rfl (Reps.none _ _)); intro v42 w42 ho hb hg hn; have H42 := Aside0.mk ho; have n0 := Aside0.mk hb; have n2_ := Aside0.mk (Kd.R_grown HO.out hg (fun k ok => by simp)); have n4 := Aside0.mk (Kd.C_below HCP.out (Below.of_grown hg)); have n5 := Aside0.mk (Nat.le_trans HN8.out hg.size); clear HB HO HCP HN8 ho hb hg hn; have HB := n0; have HO := n2_; have HCP := n4; have HN8 := n5; clear n0 n2_ n4 n5) | ((with_reducible refine gate_builtin (b := .append) (xs := #[.tmp 45, .tmp 46]) rfl ?_); at_builtin; refine Kd.R_append_rows (Kd.int .u8) (w0 := w) w.heap.size rfl (.tmp 45) (.tmp 46) 31 5 (.int .u8 0) 1 rfl Try.underlying31 u8_infoS rfl (by decide) (by omega) v42 [hd] (cont l i) Ap (cont l i).length cP (fun k => n8 ≤ k) (fun _ => False) rfl rfl H42.out HCP.out (fun _ _ h => h) (fun _ h => h.elim) (fun k hk => Nat.le_trans HN8.out hk) HB.out HB.out.size (by have := HCL.out; simp only [List.length_cons, List.length_nil]; omega) ?_; intro v44 w44 ho hb hg hat; have H44 := Aside0.mk ho; obtain ⟨A44, n44, c44, e44⟩ : ∃ A n c, v44 = Value.slice A n c := (by obtain ⟨A, c, e⟩ := Kd.R_slice ho; exact ⟨A, _, c, e⟩); subst e44; have n0 := Aside0.mk hb; have n2_ := Aside0.mk (Kd.R_grown HO.out hg (fun k ok e => by have := H42.out.1 k e.symm; omega)); have n5 := Aside0.mk (Nat.le_trans HN8.out hg.size); clear HB HO HCP HN8 H42 ho hb hg hat; have HB := n0; have HO := n2_; have HN8 := n5; clear n0 n2_ n5) | ((with_reducible refine gate_builtin (b := .append) (xs := #[.tmp 42, .tmp 48]) rfl ?_); at_builtin; refine Kd.R_append kRow (w0 := w) w.heap.size rfl (.tmp 42) (.tmp 48) 36 31 (.slice none 0 0) 24 rfl Try.underlying36 row_infoS rfl (by decide) (by omega) u3 (msgs l i) (msg l i) [.slice A44 n44 c44] (fun _ => True) (fun k => n8 ≤ k) rfl (by first | (go_simp; done) | (go_simp; rfl)) ⟨.slice A44 n44 c44, rfl, by rw [HMSG.out]; exact H44.out⟩ (fun k hk => ⟨trivial, fun e => by have := HO8.out k e.symm; omega⟩) (fun k hk => trivial) (Kd.R_mono HO.out (fun k hk => trivial)) HB.out HB.out.size (by have := HLM.out; simp only [msgs, List.length_map, List.length_range]; omega) ?_; intro v46 w46 ho hb hg hat; rw [← msgs_succ] at ho; have n0 := Aside0.mk hb; have n2_ := Aside0.mk ho; clear HB HO HN8 H44 ho hb hg hat; have HB := n0; have HO := n2_; clear n0 n2_) | fail)
          go_roundw
          exact ⟨i + 1, by simp, by omega, HO, HB⟩
          case measure => simp only [intOf]; omega
    · obtain rfl : mc = i := by omega
      have hcn : decide (63 * (mc : Int) < (l.length : Int)) = false := by have := HMD.out; unfold mcount at this; exact decide_eq_false (by omega)
      have hcz : ((mc : Int) == 0) = false := by rw [beq_eq_false_iff_ne]; omega
      rw [HMD.out] at HO
      go_wp2
      go_ret
      exact ⟨_, by simp, HO.out, HB.out⟩
end Go.Proofs.Ytfplmoeahbjfmaa.P

-- YtfplmoeahbjfmaaPPLaw0
namespace Go.Proofs.Ytfplmoeahbjfmaa.P
open Go Go.Proofs Go.RowKit Go.Shelf Go.Proofs.YtfplmoeahbjfmaaW.PrintWords Go.Proofs.YtfplmoeahbjfmaaW.PrintLast Go.Proofs.YtfplmoeahbjfmaaW.PrintMore
set_option linter.unusedVariables false
set_option linter.unusedSimpArgs false

set_option maxRecDepth 100000 in
set_option maxHeartbeats 4000000 in
theorem new_calls (w : World) (n₀ : Nat) (hn : n₀ ≤ w.heap.size) : Calls Try.prog 18 #[] w fun e w' => ∃ g, e = .returned (.pointer (some ⟨g, 0, none⟩)) ∧ g = w.heap.size ∧ JS w' n₀ g false (.slice none 0 0) [] 0 0 ∧ Below w.heap.size w w' := by
  go_enter Try.func18, Try.ntmps18
  go_wp2
  go_ret
  exact ⟨w.heap.size, by simp, rfl, ⟨blk_new _ _, Kd.R_nil _ _ _ _ _, hn, fun _ => ⟨rfl, rfl⟩⟩, below_alloc (Below.refl _ _) _⟩
set_option maxRecDepth 100000 in
set_option maxHeartbeats 4000000 in
theorem half_calls (w : World) (n₀ g : Nat) (u : Bool) (v : Value) (xs : List Int) (nx bd : Int) (h : JS w n₀ g u v xs nx bd) : Calls Try.prog 23 #[.pointer (some ⟨g, 0, none⟩)] w fun e w' => e = .returned (.int .i64 (xs.length : Int)) ∧ w = w' := by
  obtain ⟨A, c, e⟩ := Kd.R_slice h.row
  subst e
  have hc : w.cell? ⟨g, 1, none⟩ = some (.slice A xs.length c) := blk_cell h.blk 1
  clear h
  go_enter Try.func23, Try.ntmps23
  go_wp2
  go_ret
  exact ⟨by simp, rfl⟩
set_option maxRecDepth 100000 in
set_option maxHeartbeats 4000000 in
theorem bad_calls (w : World) (n₀ g : Nat) (u : Bool) (v : Value) (xs : List Int) (nx bd : Int) (h : JS w n₀ g u v xs nx bd) : Calls Try.prog 22 #[.pointer (some ⟨g, 0, none⟩)] w fun e w' => e = .returned (.int .i64 bd) ∧ w = w' := by
  have hc : w.cell? ⟨g, 3, none⟩ = some (.int .i64 bd) := blk_cell h.blk 3
  clear h
  go_enter Try.func22, Try.ntmps22
  go_wp2
  go_ret
  exact ⟨by simp, rfl⟩
/-- A row's element. -/
theorem rows_get {w : World} {n₀ : Nat} {ok : Nat → Prop} {gr : Nat} {n c : Nat} {rows : List (List Int)} (h : Kd.R kRow 31 w n₀ ok (.slice (some ⟨gr, 0, none⟩) n c) rows) (i : Nat) (hi : i < n) :
    ∃ A cp, w.cell? ⟨gr, i, none⟩ = some (.slice A (rows.getD i []).length cp) ∧ Kd.V (Kd.int .u8) 5 w 0 ok (.slice A (rows.getD i []).length cp) (rows.getD i []) := by
  obtain ⟨cs, hl, hM, hc⟩ := Kd.R_get h [] (i : Int) (by omega) (by omega)
  rw [Int.toNat_natCast] at hM hc
  obtain ⟨v, rfl, hv⟩ := hM
  obtain ⟨A, cp, rfl⟩ := Kd.R_slice hv
  refine ⟨A, cp, ?_, Kd.R_V (Kd.R_mono hv (fun _ ok => ok.1))⟩
  have := hc 0 _ rfl
  rw [add_at, Nat.zero_add] at this
  simpa [kRow, Kd.slice] using this
theorem msgs_get (l : List Int) (n i : Nat) (hi : i < n) : (msgs l n).getD i [] = msg l i := by
  unfold msgs
  rw [List.getD_eq_getElem?_getD, List.getElem?_map, List.getElem?_range hi]; rfl
theorem msgs_length (l : List Int) (n : Nat) : (msgs l n).length = n := by simp [msgs]
set_option maxRecDepth 100000 in
set_option maxHeartbeats 4000000 in
theorem splits_calls (w : World) : Calls Try.prog 17 #[] w fun e w' => e = .returned (.bool true) ∧ Below w.heap.size w w' := by
  have HR := Aside0.mk (const_reads w 5 .u8 [97] #[.int .u8 97] (1, 2) rfl (by decide))
  have HB := Aside0.mk (below_alloc (Below.refl w.heap.size w) (.cells #[.int .u8 97] 5 (1, 2)))
  have hmc : mcount [(97 : Int)].length = 1 := by decide
  have hmsg : msg [97] 0 = [192, 97] := by decide +kernel
  have kc := fun (w : World) (C : Array Value) (n c : Nat) => Lib.run_convert_bytes_const (P := Try.prog) w 31 5 C n c Try.underlying31 Try.underlying5
  go_enter Try.func17, Try.ntmps17
  go_wp2_with fail
  have hs := split_calls (some ⟨w.heap.size, 0, none⟩) 1 [97] _ HR.out (by decide) (by decide)
  simp only [if_pos (show [(97 : Int)].length ≤ 65536 by decide), hmc] at hs
  refine hs.mono ?_
  rintro e w1 ⟨v1, ⟨rfl, hr1⟩, hb1⟩
  have HB1 := Aside0.mk (below_step HB.out hb1)
  have hr1 := Kd.R_lower hr1 HB.out.size
  clear hs hb1 HR HB
  obtain ⟨g1, c1, e1, _, _, _⟩ := Kd.R_form hr1 (by rw [msgs_length]; decide)
  subst e1
  rw [msgs_length] at hr1 ⊢
  have HR1 := Aside0.mk hr1
  clear hr1 hmc kc
  go_wp2_with fail
  refine (new_calls _ w.heap.size HB1.out.size).mono ?_
  rintro e w2 ⟨g, rfl, hg, hj, hb2⟩
  have hrow := Kd.R_below HR1.out hb2
  have hrow2 := Kd.R_mono (Kd.R_bound (Kd.R_mono (Kd.R_bound HR1.out) (ok' := fun k => k < w1.heap.size) (fun k ok => ok.2.2.1))) (ok' := fun k => k ≠ g ∧ some k ≠ (Value.slice none 0 0).ownBlock) (fun k ok => ⟨by have := ok.1; omega, by simp [Value.ownBlock]⟩)
  have hrow3 := Kd.R_below hrow2 hb2
  obtain ⟨A2, c2, hcell, hmv⟩ := rows_get hrow3 0 (by decide)
  rw [msgs_get _ _ _ (by decide)] at hcell hmv
  rw [hmsg] at hcell hmv
  have HB2 := Aside0.mk (below_step HB1.out hb2)
  have HMV := Aside0.mk hmv
  have HROW := Aside0.mk hrow3
  have HJ := Aside0.mk hj
  have HG := Aside0.mk hg
  have HRAW := Aside0.mk hrow
  clear hrow hrow2 hrow3 hmv hg hj hb2 HB1 HR1 hmsg
  have hmsg : msg [97] 0 = [192, 97] := by decide +kernel
  have hs1 : ((strOfNums [192, 97]).toList == [192, 97]) = true := by decide +kernel
  have hs2 : ((strOfNums [97]).toList == [97]) = true := by decide +kernel
  go_wp2_with fail
  refine (take_calls w2 w.heap.size g false (.slice none 0 0) [] 0 0 A2 2 c2 [97] 0 HJ.out (by decide) (by decide) (.inl rfl) (by rw [hmsg]; exact HMV.out) (by decide) (by decide) (by decide) (by decide)).mono ?_
  rintro e w3 ⟨t, v3, rfl, ht, hj3, hf3, hn3, hs3⟩
  have hB3 : Below w.heap.size w w3 := HB2.out.trans (hf3.below HB2.out.size HJ.out.low (fun b hb => by simp [Value.ownBlock] at hb))
  have hrow := Kd.R_fr HROW.out hf3 hn3
  obtain ⟨A4, c4, hcell4, hmv4⟩ := rows_get hrow 0 (by decide)
  rw [msgs_get _ _ _ (by decide), hmsg] at hcell4 hmv4
  have hcv1 : (convert 31 9 (.slice A4 2 c4)).run Try.prog w3 = .ok (.string (strOfNums [192, 97])) w3 := Kd.C_string (P := Try.prog) (src := 31) (dst := 9) (e := 5) (c := c4) Try.underlying31 Try.underlying5 Try.underlying9 (Kd.V_reads' hmv4).2.2
  rw [if_pos (show 0 + 1 = mcount [(97 : Int)].length by decide)] at ht
  have hcv2 := own_string (P := Try.prog) Try.underlying31 Try.underlying5 Try.underlying9 (Kd.own_of_R ht)
  have hd : decide (0 + 1 = mcount [(97 : Int)].length) = true := by decide
  rw [hd]
  have HB3 := Aside0.mk hB3
  clear hB3 hrow hmv4 ht hj3 hf3 hn3 hs3 hd hmsg hcell
  go_wp2
  go_ret
  exact ⟨by simp [hs1, hs2], HB3.out⟩
end Go.Proofs.Ytfplmoeahbjfmaa.P

-- YtfplmoeahbjfmaaPPSizes
namespace Go.Proofs.Ytfplmoeahbjfmaa.P
open Go Go.Proofs Go.RowKit Go.Shelf Go.Proofs.YtfplmoeahbjfmaaW.PrintWords Go.Proofs.YtfplmoeahbjfmaaW.PrintLast Go.Proofs.YtfplmoeahbjfmaaW.PrintMore
set_option linter.unusedVariables false
set_option linter.unusedSimpArgs false
attribute [local go_sem] max2_int min2_int max_two min_two

theorem modN (m : Int) (hm : 0 < m) (hm2 : m ≤ 100000) (a : Int) : ∃ N : Nat, IntKind.i64.wrap (Int.tmod (IntKind.u64.wrap a) m) = (N : Int) ∧ (N : Int) < m := by
  have h1 : 0 ≤ IntKind.u64.wrap a := by rw [IntKind.wrap_u64]; omega
  have h2 : 0 ≤ (IntKind.u64.wrap a).tmod m := Int.tmod_nonneg _ h1
  have h3 : (IntKind.u64.wrap a).tmod m < m := Int.tmod_lt_of_pos _ hm
  refine ⟨((IntKind.u64.wrap a).tmod m).toNat, ?_, by omega⟩
  rw [IntKind.wrap_i64]; omega
/-- Split of a row of our own. -/
theorem split_own (w : World) (n₀ : Nat) (ok : Nat → Prop) (v : Value) (l : List Int) (h : Kd.R (Kd.int .u8) 5 w n₀ ok v l) (hl : l.length ≤ 65536) :
    Calls Try.prog 16 #[v] w fun e w' => ∃ g c, e = .returned (.tuple #[.slice (some ⟨g, 0, none⟩) (mcount l.length) c, .int .i64 0]) ∧ Kd.R kRow 31 w' w.heap.size (fun _ => True) (.slice (some ⟨g, 0, none⟩) (mcount l.length) c) (msgs l (mcount l.length)) ∧ Below w.heap.size w w' := by
  obtain ⟨A, c, e⟩ := Kd.R_slice h
  subst e
  obtain ⟨_, hc, hC⟩ := Kd.R_reads' h
  refine (split_calls A c l w hC hc (by omega)).mono ?_
  rintro e w' ⟨v', h1, hb⟩
  rw [if_pos hl] at h1
  obtain ⟨rfl, hr⟩ := h1
  obtain ⟨g, c', e', _, _, _⟩ := Kd.R_form hr (by rw [msgs_length]; unfold mcount; omega)
  rw [msgs_length] at e'
  subst e'
  exact ⟨g, c', rfl, hr, hb⟩
set_option maxRecDepth 100000 in
set_option maxHeartbeats 4000000 in
theorem sizes_calls (a0 : Int) (w : World) : Calls Try.prog 6 #[.int .i64 a0] w fun e w' => e = .returned (.bool true) ∧ Below w.heap.size w w' := by
  have HB := Aside0.mk (Below.refl w.heap.size w)
  obtain ⟨N, hN, hN2⟩ := modN 2000 (by decide) (by decide) a0
  have hNd : decide (N ≤ 281474976710656) = true := decide_eq_true (by omega)
  go_enter Try.func6, Try.ntmps6
  go_wp2_with ((with_reducible refine gate_dst (N := 13) rfl ?_); refine Kd.R_make (Kd.int .u8) _ 5 rfl (N := 13) rfl 31 _ _ rfl (N : Int) rfl rfl Try.underlying31 (.int .u8 0) 1 u8_infoS rfl (by decide) (by omega) 0 (ok := fun _ => True) (okp := fun _ => True) rfl (fun _ hk => hk) trivial (by omega) (by omega) (Below.refl _ _) (Nat.le_refl _) ?_; intro v13 w6 ho hb hg_ hnew_; rw [Int.toNat_natCast] at ho; have HO := Aside0.mk ho; have HB1 := Aside0.mk hb; clear hg_ hnew_ ho hb)
  obtain ⟨l, hl⟩ : ∃ l, l = List.replicate N (0 : Int) := ⟨_, rfl⟩
  rw [← hl] at HO
  have hll : N = l.length := by rw [hl, List.length_replicate]
  refine (split_own _ _ _ v13 l HO.out (by omega)).mono ?_
  rintro e w7 ⟨g1, c1, rfl, hr, hb⟩
  obtain ⟨mc, hmc⟩ : ∃ mc, mc = mcount l.length := ⟨_, rfl⟩
  rw [← hmc] at hr ⊢
  have HB2 := Aside0.mk (below_step HB1.out hb)
  have HR := Aside0.mk hr
  have HMC := Aside0.mk hmc
  have HLL := Aside0.mk hll
  obtain ⟨J, hJ⟩ : ∃ J : Int, (if ((N : Int) + 62) / 63 < 1 then (1 : Int) else ((N : Int) + 62) / 63) = J := ⟨_, rfl⟩
  have hmx : ((mc : Int) != J) = false := by
    rw [bne_eq_false_iff_eq, hmc, ← hll, ← hJ]; unfold mcount; split <;> omega
  have hmc1 : 1 ≤ mc := by rw [hmc]; unfold mcount; omega
  have hmc2 : mc ≤ 40 := by rw [hmc]; unfold mcount; omega
  clear hr hb hmc hl hll HO HB1 HB
  go_wp2_with (go_at_call 17; refine (splits_calls _).mono ?_; rintro e w8 ⟨rfl, hb⟩; have HB3 := Aside0.mk (below_step HB2.out hb); have HR3 := Aside0.mk (Kd.R_below HR.out hb); clear HB2 HR hb)
  clear hmx hN hNd hJ
  go_loop [5] (fun v5 => ∃ i : Nat, v5 = .int .i64 (i : Int) ∧ i + 1 ≤ mc) (fun v5 => mc - (intOf v5).toNat)
  case atStart => exact ⟨0, by simp, by omega⟩
  case round =>
    obtain ⟨i, rfl, hi⟩ := hrel
    obtain ⟨A, c, hcell, hV⟩ := rows_get HR3.out i (by omega)
    rw [msgs_get _ _ _ (by omega)] at hcell hV
    obtain ⟨hd, hhd⟩ : ∃ hd, hd = headOf mc i := ⟨_, rfl⟩
    have hlen : (msg l i).length = (cont l i).length + 1 := rfl
    obtain ⟨ad, rfl, hc0⟩ := ReadsOf.at_ (Kd.reads_of_C (d := (0 : Int)) (Kd.V_reads' hV).2.2) 0 (by omega) (by omega)
    have hrd : rdOf 0 (msg l i) (0 : Int) = hd := by rw [hhd, HMC.out]; rfl
    rw [hrd] at hc0
    have hc1 : w8.cell? ad = some (.int .u8 hd) := hc0
    clear hc0
    have hb0 : 0 ≤ hd := by rw [hhd]; exact headOf_lt.1
    have hb1 : hd < 256 := by rw [hhd]; exact headOf_lt.2
    have hcl := cont_length l i
    by_cases hlt : i + 1 < mc
    · have hlb : decide ((i : Int) + 1 < (mc : Int)) = true := decide_eq_true (by omega)
      have hl64 : (msg l i).length = 64 := by rw [hlen, hcl]; have h1 := HMC.out; have h2 := HLL.out; unfold mcount at h1; omega
      rw [hl64] at hcell
      have h1 : (hd / 64 % 2 != 0) = false := by
        rw [bne_eq_false_iff_eq, hhd]; unfold headOf; rw [if_neg (show ¬ i + 1 = mc by omega)]; split <;> omega
      have h2 : (hd % 64 != (i : Int) % 64) = false := by
        rw [bne_eq_false_iff_eq, hhd]; unfold headOf; split <;> split <;> omega
      clear hhd hlen hrd hcl hV hl64
      go_wp2
      go_round
      case rel => exact ⟨i + 1, by simp, by omega⟩
      case measure => simp [intOf]; omega
    · have hlb : decide ((i : Int) + 1 < (mc : Int)) = false := decide_eq_false (by omega)
      obtain rfl : mc = i + 1 := by omega
      obtain ⟨n2, hn2⟩ : ∃ n2, n2 = (msg l i).length := ⟨_, rfl⟩
      rw [← hn2] at hcell
      have hl2 : ((n2 : Int) == 1 + (N : Int) - 63 * (i : Int)) = true := by rw [beq_iff_eq, hn2, hlen, hcl]; have h1 := HMC.out; have h2 := HLL.out; unfold mcount at h1; omega
      have hl3 : 0 < n2 := by rw [hn2, hlen]; omega
      have h1 : (hd / 64 % 2 == 1) = true := by
        rw [beq_iff_eq, hhd]; unfold headOf; rw [if_pos rfl]; split <;> omega
      clear hhd hlen hrd hcl hV hn2
      go_wp2_with fail
      go_ret
      exact ⟨by simp, HB3.out⟩
end Go.Proofs.Ytfplmoeahbjfmaa.P

-- YtfplmoeahbjfmaaPCLaw0
namespace Go.Proofs.Ytfplmoeahbjfmaa.P
open Go Go.Proofs Go.RowKit Go.Shelf Go.Proofs.YtfplmoeahbjfmaaW.PrintWords Go.Proofs.YtfplmoeahbjfmaaW.PrintLast Go.Proofs.YtfplmoeahbjfmaaW.PrintMore
set_option linter.unusedVariables false
set_option linter.unusedSimpArgs false

structure CLS (w0 w : World) (g : Nat) (age now : Int) (v : Value) (L : List Fl) : Prop where
  cs : CS w w0.heap.size g age now v L
  bel : Below w0.heap.size w0 w
variable {w0 w w' : World} {g : Nat} {age now now' : Int} {v v' : Value} {L L' : List Fl}
theorem CLS.below (h : CLS w0 w g age now v L) (hb : Below w.heap.size w w') : CLS w0 w' g age now v L := ⟨h.cs.below hb, below_step h.bel hb⟩
theorem CLS.fr (h : CLS w0 w g age now v L) (hc : CS w' w0.heap.size g age now' v' L') (hf : Fr g v w w') : CLS w0 w' g age now' v' L' := ⟨hc, h.bel.trans (hf.below h.bel.size h.cs.low (fun b hb => (h.cs.own b hb).1))⟩
/-- A text lies apart from the channel. -/
theorem CLS.apart {b : Nat} {ok : Nat → Prop} {u : Value} {xs : List Int} (h : CLS w0 w g age now v L) (hr : Kd.R (Kd.int .u8) 5 w b ok u xs) : Kd.R (Kd.int .u8) 5 w b (fun k => k ≠ g ∧ some k ≠ v.ownBlock) u xs :=
  Kd.R_mono (Kd.R_bound hr) (fun k ok => by
    obtain ⟨_, _, _, q, hq, cells, hc⟩ := ok
    have hq5 : q = 5 := by simpa [Kd.int, Kd.scalar] using hq
    subst hq5
    refine ⟨fun e => ?_, fun e => ?_⟩
    · have hb := h.cs.blk; rw [← e, hc] at hb; injection hb with hb; injection hb with _ hb; exact absurd hb (by decide)
    · obtain ⟨c2, h2⟩ := Kd.R_typed h.cs.row k e.symm; rw [hc] at h2; injection h2 with h2; injection h2 with _ h2; exact absurd h2 (by decide))
set_option maxRecDepth 100000 in
set_option maxHeartbeats 8000000 in
theorem flies_calls (w : World) : Calls Try.prog 11 #[] w fun e w' => e = .returned (.bool true) ∧ Below w.heap.size w w' := by
  have kc := fun (w : World) (C : Array Value) (n c : Nat) => Lib.run_convert_bytes_const (P := Try.prog) w 31 5 C n c Try.underlying31 Try.underlying5
  have hs2 : ((strOfNums [98]).toList == [98]) = true := by decide +kernel
  go_enter Try.func11, Try.ntmps11
  go_wp2_with (go_at_call 10; refine (cnew_calls _ w.heap.size 2 (Nat.le_refl _) (by decide) (by decide)).mono ?_; rintro e w1 ⟨g, rfl, hg, hc, hb⟩; have H1 := Aside0.mk (CLS.mk (w0 := w) hc hb); clear hg hc hb)
  have HR1 := Aside0.mk (const_reads w1 5 .u8 [97] #[.int .u8 97] (1, 2) rfl (by decide))
  have H2 := Aside0.mk (H1.out.below (below_alloc (Below.refl w1.heap.size w1) (.cells #[.int .u8 97] 5 (1, 2))))
  refine (put_calls H2.out.cs (some ⟨w1.heap.size, 0, none⟩) 1 [97] HR1.out (by decide) (by decide)).mono ?_
  rintro e w2 ⟨rfl, v2, hc2, hf2, hn2⟩
  have H3 := Aside0.mk (H2.out.fr hc2 hf2)
  clear hc2 hf2 hn2 H2 HR1 H1
  go_wp2_with fail
  have HR2 := Aside0.mk (const_reads w2 5 .u8 [98] #[.int .u8 98] (1, 2) rfl (by decide))
  have H4 := Aside0.mk (H3.out.below (below_alloc (Below.refl w2.heap.size w2) (.cells #[.int .u8 98] 5 (1, 2))))
  refine (put_calls H4.out.cs (some ⟨w2.heap.size, 0, none⟩) 1 [98] HR2.out (by decide) (by decide)).mono ?_
  rintro e w3 ⟨rfl, v3, hc3, hf3, hn3⟩
  have hL : putC 0 [98] (putC 0 [97] []) = [([97], [97], 0), ([98], [98], 0)] := by decide
  rw [hL] at hc3
  have H5 := Aside0.mk (H4.out.fr hc3 hf3)
  clear hc3 hf3 hn3 H4 HR2 H3 hL kc
  go_wp2_with fail
  refine (ctake_calls H5.out.cs 1 (by intro f hf; simp at hf; rcases hf with rfl | rfl <;> decide) (by decide)).mono ?_
  rintro e w4 ⟨v41, v42, v4, rfl, hr1, hr2, hc4, hf4, hn4⟩
  have eF : tkF 1 [([97], [97], 0), ([98], [98], 0)] = ([98], [98], 0) := by decide
  have eL : tkL 1 [([97], [97], 0), ([98], [98], 0)] = [([97], [97], 0)] := by decide
  have eE : hasE [(([97], [97], 0) : Fl), ([98], [98], 0)].length 1 = 0 := by decide
  rw [eF, eE]
  rw [eF] at hr1 hr2
  rw [eL] at hc4
  obtain ⟨B1, d1, q1⟩ := Kd.R_slice hr1
  obtain ⟨B2, d2, q2⟩ := Kd.R_slice hr2
  subst q1
  subst q2
  have H6 := Aside0.mk (H5.out.fr hc4 hf4)
  have HV := Aside0.mk hr1
  clear hr1 hr2 hc4 hf4 hn4 eF eL eE H5
  go_wp2_with fail
  have hba := below_alloc (Below.refl w4.heap.size w4) (.cells #[.slice B1 1 d1, .slice B2 1 d2, .int .i64 0] 50)
  have hb3 : (w4.alloc (.cells #[.slice B1 1 d1, .slice B2 1 d2, .int .i64 0] 50)).heap[w4.heap.size]? = some (.cells #[.slice B1 1 d1, .slice B2 1 d2, .int .i64 0] 50 (0, 0)) := blk_new _ _
  obtain ⟨w5, hw5⟩ : ∃ w5, w5 = w4.alloc (.cells #[.slice B1 1 d1, .slice B2 1 d2, .int .i64 0] 50) := ⟨_, rfl⟩
  have hsz : w4.heap.size < w5.heap.size := by rw [hw5, World.size_alloc]; omega
  have h7 := H6.out.below hba
  have hv5 := Kd.R_below HV.out hba
  obtain ⟨b3, hb3e⟩ : ∃ b3, b3 = w4.heap.size := ⟨_, rfl⟩
  have hbg : b3 ≠ g := by have := H6.out.cs.lt; omega
  have hbo : some b3 ≠ v4.ownBlock := fun e => by have := (H6.out.cs.own b3 e.symm).2; omega
  rw [← hw5] at hb3 h7 hv5
  rw [← hb3e] at hb3 hsz
  rw [← hw5, ← hb3e]
  have HV5 := Aside0.mk (h7.apart hv5)
  have H7 := Aside0.mk h7
  clear hw5 hb3e h7 hv5 hba HV H6
  have e1 : ([(([97], [97], 0) : Fl)].length : Int) - ((keepL 2 (0 + 1) [([97], [97], 0)]).length : Int) = 0 := by decide
  have e2 : keepL 2 (0 + 1) [([97], [97], 0)] = [([97], [97], 0)] := by decide
  have hst := step_calls H7.out.cs (by decide) (by decide) (by intro f hf; simp at hf; rw [hf]; decide)
  rw [e1, e2] at hst
  refine hst.mono ?_
  rintro e w6 ⟨rfl, v6, hc6, hf6, hn6⟩
  have hb6 := (hf6.block b3 hsz hbg hbo).trans hb3
  have hn6o : some b3 ≠ v6.ownBlock := (apart_newer hn6 hsz ⟨hbg, hbo⟩).2
  have HV6 := Aside0.mk (Kd.R_fr HV5.out hf6 hn6)
  have H8 := Aside0.mk (H7.out.fr hc6 hf6)
  clear hst hc6 hf6 hn6 HV5 H7 hb3 hbo hsz e1 e2
  go_wp2_with fail
  have e1 : ([(([97], [97], 0) : Fl)].length : Int) - ((keepL 2 (0 + 1 + 1) [([97], [97], 0)]).length : Int) = 1 := by decide
  have e2 : keepL 2 (0 + 1 + 1) [([97], [97], 0)] = [] := by decide
  have hst := step_calls H8.out.cs (by decide) (by decide) (by intro f hf; simp at hf; rw [hf]; decide)
  rw [e1, e2] at hst
  refine hst.mono ?_
  rintro e w7 ⟨rfl, v7, hc7, hf7, hn7⟩
  have hb7 := (hf7.block b3 (blk_lt hb6) hbg hn6o).trans hb6
  have HV7 := Aside0.mk (Kd.R_fr HV6.out hf7 hn7)
  have H9 := Aside0.mk (H8.out.fr hc7 hf7)
  have hd0 : w7.cell? ⟨b3, 0, none⟩ = some (.slice B1 1 d1) := blk_cell hb7 0
  have hcv : (convert 31 9 (.slice B1 1 d1)).run Try.prog w7 = .ok (.string (strOfNums [98])) w7 := Kd.C_string (P := Try.prog) (src := 31) (dst := 9) (e := 5) (c := d1) Try.underlying31 Try.underlying5 Try.underlying9 (Kd.R_reads' HV7.out).2.2
  clear hst hc7 hf7 hn7 HV6 H8 hb6 hn6o e1 e2
  go_wp2_with (go_at_call 14; refine (clen_calls H9.out.cs).mono ?_; rintro e w8 ⟨rfl, rfl⟩)
  go_ret
  exact ⟨by simp [hs2], H9.out.bel⟩
end Go.Proofs.Ytfplmoeahbjfmaa.P

-- YtfplmoeahbjfmaaPDChan0
namespace Go.Proofs.Ytfplmoeahbjfmaa.P
open Go Go.Proofs Go.RowKit Go.Shelf Go.Proofs.YtfplmoeahbjfmaaW.PrintWords Go.Proofs.YtfplmoeahbjfmaaW.PrintLast Go.Proofs.YtfplmoeahbjfmaaW.PrintMore
set_option linter.unusedVariables false
set_option linter.unusedSimpArgs false

def rf (f : Fl) : ByteArray × (ByteArray × Int) := (strOfNums f.1, strOfNums f.2.1, f.2.2)
abbrev kDf : Kd Fl := Kd.iso (Kd.pair Kd.string (Kd.pair Kd.string (Kd.int .i64))) rf
theorem df_info : (Try.prog.info? 61).map (fun i => (i.zero, i.size, i.bytes)) = some (some (.agg #[.string ⟨#[]⟩, .string ⟨#[]⟩, .int .i64 0]), 3, 40) := by kernel_rfl
theorem df_size : (Try.prog.info? 61).map (·.size) = some 3 := by kernel_rfl
theorem kDf_M {w : World} {b : Nat} {ok : Nat → Prop} (f : Fl) : kDf.M w b ok f [.string (strOfNums f.1), .string (strOfNums f.2.1), .int .i64 f.2.2] := ⟨[.string (strOfNums f.1)], [.string (strOfNums f.2.1), .int .i64 f.2.2], rfl, rfl, [.string (strOfNums f.2.1)], [.int .i64 f.2.2], rfl, rfl, rfl⟩
/-- The document's channel at block h. -/
structure DS (w : World) (n₀ h : Nat) (age now : Int) (v : Value) (L : List Fl) : Prop where
  blk : w.heap[h]? = some (.cells #[.int .i64 age, .int .i64 now, v] 57 (0, 0))
  row : Kd.R kDf 61 w n₀ (fun _ => True) v L
  low : n₀ ≤ h
variable {w w' w2 : World} {n₀ g h : Nat} {age now : Int} {v v' vd : Value} {L L' : List Fl}
theorem DS.lt (d : DS w n₀ h age now v L) : h < w.heap.size := blk_lt d.blk
theorem DS.ne (d : DS w n₀ h age now v L) : some h ≠ v.ownBlock := Kd.R_ne d.row d.blk (by decide)
theorem DS.own (d : DS w n₀ h age now v L) : ∀ b, v.ownBlock = some b → n₀ ≤ b ∧ b < w.heap.size := by
  intro b hb
  obtain ⟨inner, ho⟩ := Kd.R_own d.row
  exact ⟨own_base ho b hb, own_lt ho b hb⟩
theorem DS.below (d : DS w n₀ h age now v L) (hb : Below w.heap.size w w') : DS w' n₀ h age now v L := ⟨(hb.block h d.lt).trans d.blk, Kd.R_below d.row hb, d.low⟩
theorem DS.now_ (d : DS w n₀ h age now v L) (now' : Int) : DS (w.setCell ⟨h, 1, none⟩ (.int .i64 now')) n₀ h age now' v L := ⟨blk_put d.blk 1 _ rfl, Kd.R_set d.row d.blk (by decide) 1 _, d.low⟩
theorem DS.rowed (d : DS w n₀ h age now v L) (hr : Kd.R kDf 61 w2 n₀ (fun _ => True) v' L') (hg : w.grownBy w2 v.ownBlock) (hat : v'.ownBlock = v.ownBlock ∨ (∃ b, v'.ownBlock = some b ∧ w.heap.size ≤ b) ∨ v'.ownBlock = none) :
    DS (w2.setCell ⟨h, 2, none⟩ v') n₀ h age now v' L' ∧ Fr h v w (w2.setCell ⟨h, 2, none⟩ v') ∧ Newer w v v' := by
  have hb2 : w2.heap[h]? = some (.cells #[.int .i64 age, .int .i64 now, v] 57 (0, 0)) := (hg.block h d.lt d.ne).trans d.blk
  refine ⟨⟨blk_put hb2 2 _ rfl, Kd.R_set hr hb2 (by decide) 2 _, d.low⟩, ⟨hg.os, hg.tape, hg.output, by simpa using hg.size, fun k hk hkg hkv => ?_⟩, ?_⟩
  · rw [Below.heap_setCell w2 ⟨h, 2, none⟩ v' k hkg]; exact hg.block k hk hkv
  · rcases hat with e | ⟨b, e, hb⟩ | e
    · exact .inl e
    · exact .inr fun b' hb' => by rw [e] at hb'; injection hb' with hb'; omega
    · exact .inr fun b' hb' => by rw [e] at hb'; cases hb'
theorem DS.slice (d : DS w n₀ h age now v L) : ∃ A c, v = .slice A L.length c := Kd.R_slice d.row
/-- A block of another type. -/
theorem typed_ne {a b t t' : Nat} {c c' : Array Value} (h1 : w.heap[a]? = some (.cells c t (0, 0))) (h2 : w.heap[b]? = some (.cells c' t' (0, 0))) (ht : t ≠ t') : a ≠ b := by
  intro e
  rw [e, h2] at h1
  injection h1 with h1
  injection h1 with _ h1
  exact ht h1.symm
/-- Behind a call of the channel's. -/
theorem DS.far (d : DS w n₀ h age now vd L') (c : CS w n₀ g age now v L) (hf : Fr g v w w') : DS w' n₀ h age now vd L' := by
  have apart : ∀ k t cells, w.heap[k]? = some (.cells cells t (0, 0)) → t ≠ 67 → t ≠ 50 → k ≠ g ∧ some k ≠ v.ownBlock := by
    intro k t cells hk h67 h50
    refine ⟨typed_ne hk c.blk h67, fun e => ?_⟩
    obtain ⟨c2, h2⟩ := Kd.R_typed c.row k e.symm
    exact typed_ne hk h2 h50 rfl
  refine ⟨(hf.block h d.lt (apart h 57 _ d.blk (by decide) (by decide)).1 (apart h 57 _ d.blk (by decide) (by decide)).2).trans d.blk, ?_, d.low⟩
  refine Kd.R_mono (Kd.R_step (Kd.R_bound d.row) (fun k ok hk => ?_)) (fun _ _ => trivial)
  obtain ⟨_, _, _, q, hq, cells, hc⟩ := ok
  have hq6 : q = 61 := by simpa [Kd.int, Kd.scalar, Kd.string, Kd.iso, Kd.pair] using hq
  subst hq6
  exact hf.block k hk (apart k 61 _ hc (by decide) (by decide)).1 (apart k 61 _ hc (by decide) (by decide)).2
theorem CS.far (c : CS w n₀ g age now v L) (d : DS w n₀ h age now vd L') (hf : Fr h vd w w') : CS w' n₀ g age now v L := by
  have apart : ∀ k t cells, w.heap[k]? = some (.cells cells t (0, 0)) → t ≠ 57 → t ≠ 61 → k ≠ h ∧ some k ≠ vd.ownBlock := by
    intro k t cells hk h67 h50
    refine ⟨typed_ne hk d.blk h67, fun e => ?_⟩
    obtain ⟨c2, h2⟩ := Kd.R_typed d.row k e.symm
    exact typed_ne hk h2 h50 rfl
  refine ⟨(hf.block g c.lt (apart g 67 _ c.blk (by decide) (by decide)).1 (apart g 67 _ c.blk (by decide) (by decide)).2).trans c.blk, ?_, c.low⟩
  refine Kd.R_mono (Kd.R_step (Kd.R_bound c.row) (fun k ok hk => ?_)) (fun _ _ => trivial)
  obtain ⟨_, _, _, q, hq, cells, hc⟩ := ok
  have hq6 : q = 50 ∨ q = 5 := by simpa [Kd.int, Kd.scalar, Kd.slice, Kd.pair] using hq
  rcases hq6 with rfl | rfl
  · exact hf.block k hk (apart k 50 _ hc (by decide) (by decide)).1 (apart k 50 _ hc (by decide) (by decide)).2
  · exact hf.block k hk (apart k 5 _ hc (by decide) (by decide)).1 (apart k 5 _ hc (by decide) (by decide)).2
set_option maxRecDepth 100000 in
set_option maxHeartbeats 4000000 in
theorem dhas_calls (d : DS w n₀ h age now v L) (k : Int) : Calls Try.prog 48 #[.pointer (some ⟨h, 0, none⟩), .int .i64 k] w fun e w' => e = .returned (.bool (decide (hasE L.length k = 0))) ∧ w = w' := by
  obtain ⟨A, c, e⟩ := d.slice
  subst e
  have hc : w.cell? ⟨h, 2, none⟩ = some (.slice A L.length c) := blk_cell d.blk 2
  clear d
  by_cases h0 : 0 ≤ k
  · have d0 : decide (0 ≤ k) = true := decide_eq_true h0
    by_cases h1 : k < (L.length : Int)
    · have d1 : decide (k < (L.length : Int)) = true := decide_eq_true h1
      have e : decide (hasE L.length k = 0) = true := by unfold hasE; rw [if_pos (by omega)]; rfl
      rw [e]
      go_enter Try.func48, Try.ntmps48
      go_wp2
      go_ret
      exact ⟨by simp, rfl⟩
    · have d1 : decide (k < (L.length : Int)) = false := decide_eq_false h1
      have e : decide (hasE L.length k = 0) = false := by unfold hasE; rw [if_neg (by omega)]; rfl
      rw [e]
      go_enter Try.func48, Try.ntmps48
      go_wp2
      go_ret
      exact ⟨by simp, rfl⟩
  · have d0 : decide (0 ≤ k) = false := decide_eq_false h0
    have e : decide (hasE L.length k = 0) = false := by unfold hasE; rw [if_neg (by omega)]; rfl
    rw [e]
    go_enter Try.func48, Try.ntmps48
    go_wp2
    go_ret
    exact ⟨by simp, rfl⟩
def dput1.T : Bool × List (List Nat × List Nat) := (true, [([], []), ([], []), ([1], [1]), ([2], [2]), ([3], [3]), ([], []), ([5], [5]), ([], []), ([7], [7]), ([], []), ([9], [9]), ([10], [10]), ([11], [11]), ([6, 8, 12], [6, 8, 12]), ([13], [13]), ([4, 14], [4, 14]), ([0, 0, 1, 2, 3, 4, 5, 6, 7, 8, 9, 10, 11, 12, 13, 14, 15], [0]), ([16, 0, 1, 2, 3, 4, 5, 6, 7, 8, 9, 10, 11, 12, 13, 14, 15], [16]), ([17, 15, 15, 0, 1, 2, 3, 4, 5, 6, 7, 8, 9, 10, 11, 12, 13, 14, 15], [15, 17])])
def dput1.B : List Nat := [0, 0, 2, 6, 14, 0, 32, 0, 128, 0, 512, 1536, 3584, 8160, 16352, 32766, 65535, 131071, 262143]
theorem dput1.tab : rtab .any (opsOf Try.f29 1) = dput1.T := by kernel_rfl
theorem dput1.bits : waitsOk dput1.T.2 dput1.B = true := by kernel_rfl
set_option maxRecDepth 100000 in
set_option maxHeartbeats 8000000 in
theorem dput_calls (d : DS w n₀ h age now v L) (A : Option Addr) (c : Nat) (b : List Int) (hr : Kd.C (Kd.int .u8) w A b.length b) :
    Calls Try.prog 29 #[.pointer (some ⟨h, 0, none⟩), .slice A b.length c] w fun e w' => e = .returned (.tuple #[]) ∧ ∃ v', DS w' n₀ h age now v' (putC now b L) ∧ Fr h v w w' ∧ Newer w v v' := by
  obtain ⟨Af, cf, e⟩ := d.slice
  subst e
  have hc2 : w.cell? ⟨h, 2, none⟩ = some (.slice Af L.length cf) := blk_cell d.blk 2
  by_cases hlt : L.length < 4096
  · have e0 : putC now b L = L ++ [(b, b, now)] := by unfold putC; rw [if_pos hlt]
    rw [e0]
    have hlb : decide ((L.length : Int) < 4096) = true := decide_eq_true (by omega)
    have hbd : Below w.heap.size w w.drew := below_drew1 (Below.refl _ _)
    have HD := Aside0.mk (d.below hbd)
    have HCV := Aside0.mk (Kd.C_string (P := Try.prog) (src := 31) (dst := 9) (e := 5) (c := c) Try.underlying31 Try.underlying5 Try.underlying9 (Kd.C_below hr hbd))
    obtain ⟨nL, hnL⟩ : ∃ nL, nL = L.length := ⟨_, rfl⟩
    rw [← hnL] at hc2 hlb ⊢
    have HNL := Aside0.mk hnL
    have HS := Aside0.mk (show w.drew.cell? ⟨h, 2, none⟩ = some (.slice Af nL cf) ∧ w.drew.cell? ⟨h, 1, none⟩ = some (.int .i64 now) from ⟨hc2, blk_cell d.blk 1⟩)
    have HLT := Aside0.mk hlt
    obtain ⟨nb, hnb⟩ : ∃ nb, nb = b.length := ⟨_, rfl⟩
    have HNB := Aside0.mk hnb
    rw [← hnb] at HCV ⊢
    clear d hr hbd hnL hlt hnb
    go_enter Try.func29, Try.ntmps29
    go_wp2_with fail
    clear hc2
    refine start_ (n := 19) (S := (fun w' => w'.cell? ⟨h, 2, none⟩ = some (.slice Af nL cf) ∧ w'.cell? ⟨h, 1, none⟩ = some (.int .i64 now))) (ds := [15, 18]) #[false, false, false, false, false, false, false, false, false, false, false, false, false, false, false, false, false, false, false] (by kernel_rfl) rfl rfl HS.out (fun hHeld => ?_)
    refine with_tabW dput1.tab dput1.bits (fun HT_ HW_ => ?_)
    refine pure_ (i := 0) (N := some 10) (v := ?_) (a' := ?_) #[true, false, false, false, false, false, false, false, false, false, false, false, false, false, false, false, false, false, false] rfl rfl (any_of HT_.out (by kernel_rfl)) (fun _ _ _ h => h) (Or.inl ⟨by rfl, ?_⟩) ?_ ?_
    rotate_left
    · intro w'
      go_simp
      with_reducible rfl
    rotate_left
    · simp only [Act.put, List.setIfInBounds_toArray, List.set_cons_zero, List.set_cons_succ, i64_w, i32_w]
      rfl
    refine pure_ (i := 1) (N := some 11) (v := ?_) (a' := ?_) #[true, true, false, false, false, false, false, false, false, false, false, false, false, false, false, false, false, false, false] rfl rfl (any_of HT_.out (by kernel_rfl)) (fun _ _ _ h => h) (Or.inl ⟨by rfl, ?_⟩) ?_ ?_
    rotate_left
    · intro w'
      go_simp
      with_reducible rfl
    rotate_left
    · simp only [Act.put, List.setIfInBounds_toArray, List.set_cons_zero, List.set_cons_succ, i64_w, i32_w]
      rfl
    refine pure_ (i := 2) (N := some 12) (v := ?_) (a' := ?_) #[true, true, true, false, false, false, false, false, false, false, false, false, false, false, false, false, false, false, false] rfl rfl (any_of HT_.out (by kernel_rfl)) (fun _ _ _ h => h) (Or.inl ⟨by rfl, ?_⟩) ?_ ?_
    rotate_left
    · intro w'
      go_simp
      with_reducible rfl
    rotate_left
    · simp only [Act.put, List.setIfInBounds_toArray, List.set_cons_zero, List.set_cons_succ, i64_w, i32_w]
      rfl
    refine pure_ (i := 3) (N := some 13) (v := ?_) (a' := ?_) #[true, true, true, true, false, false, false, false, false, false, false, false, false, false, false, false, false, false, false] rfl rfl (any_of HT_.out (by kernel_rfl)) (fun _ _ _ h => h) (Or.inl ⟨by rfl, ?_⟩) ?_ ?_
    rotate_left
    · intro w'
      go_simp
      with_reducible rfl
    rotate_left
    · simp only [Act.put, List.setIfInBounds_toArray, List.set_cons_zero, List.set_cons_succ, i64_w, i32_w]
      rfl
    refine take_ (i := 4) (N := some 14) (v := ?_) (a' := ?_) #[true, true, true, true, true, false, false, false, false, false, false, false, false, false, false, false, false, false, false] rfl rfl (take_ofW HT_.out HW_.out (by kernel_rfl)) (fun _ _ _ h => h) (Or.inl ⟨by rfl, ?_⟩) hHeld ?_ ?_
    rotate_left
    · rintro w' ⟨s0, s1⟩
      go_simp
      with_reducible rfl
    rotate_left
    · simp only [Act.put, List.setIfInBounds_toArray, List.set_cons_zero, List.set_cons_succ, i64_w, i32_w]
      rfl
    refine pure_ (i := 5) (N := some 15) (v := ?_) (a' := ?_) #[true, true, true, true, true, true, false, false, false, false, false, false, false, false, false, false, false, false, false] rfl rfl (any_of HT_.out (by kernel_rfl)) (fun _ _ _ h => h) (Or.inl ⟨by rfl, ?_⟩) ?_ ?_
    rotate_left
    · intro w'
      go_simp
      with_reducible rfl
    rotate_left
    · simp only [Act.put, List.setIfInBounds_toArray, List.set_cons_zero, List.set_cons_succ, i64_w, i32_w]
      rfl
    refine pure_ (i := 7) (N := some 17) (v := ?_) (a' := ?_) #[true, true, true, true, true, true, false, true, false, false, false, false, false, false, false, false, false, false, false] rfl rfl (any_of HT_.out (by kernel_rfl)) (fun _ _ _ h => h) (Or.inl ⟨by rfl, ?_⟩) ?_ ?_
    rotate_left
    · intro w'
      go_simp
      with_reducible rfl
    rotate_left
    · simp only [Act.put, List.setIfInBounds_toArray, List.set_cons_zero, List.set_cons_succ, i64_w, i32_w]
      rfl
    refine pure_ (i := 9) (N := some 19) (v := ?_) (a' := ?_) #[true, true, true, true, true, true, false, true, false, true, false, false, false, false, false, false, false, false, false] rfl rfl (any_of HT_.out (by kernel_rfl)) (fun _ _ _ h => h) (Or.inl ⟨by rfl, ?_⟩) ?_ ?_
    rotate_left
    · intro w'
      go_simp
      with_reducible rfl
    rotate_left
    · simp only [Act.put, List.setIfInBounds_toArray, List.set_cons_zero, List.set_cons_succ, i64_w, i32_w]
      rfl
    refine pure_ (i := 10) (N := some 20) (v := ?_) (a' := ?_) #[true, true, true, true, true, true, false, true, false, true, true, false, false, false, false, false, false, false, false] rfl rfl (any_of HT_.out (by kernel_rfl)) (fun _ _ _ h => h) (Or.inl ⟨by rfl, ?_⟩) ?_ ?_
    rotate_left
    · intro w'
      go_simp
      with_reducible rfl
    rotate_left
    · simp only [Act.put, List.setIfInBounds_toArray, List.set_cons_zero, List.set_cons_succ, i64_w, i32_w]
      rfl
    refine pure_ (i := 11) (N := some 21) (v := ?_) (a' := ?_) #[true, true, true, true, true, true, false, true, false, true, true, true, false, false, false, false, false, false, false] rfl rfl (any_of HT_.out (by kernel_rfl)) (fun _ _ _ h => h) (Or.inl ⟨by rfl, ?_⟩) ?_ ?_
    rotate_left
    · intro w'
      go_simp
      with_reducible rfl
    rotate_left
    · simp only [Act.put, List.setIfInBounds_toArray, List.set_cons_zero, List.set_cons_succ, i64_w, i32_w]
      rfl
    refine take_ (i := 12) (N := some 22) (v := ?_) (a' := ?_) #[true, true, true, true, true, true, false, true, false, true, true, true, true, false, false, false, false, false, false] rfl rfl (take_ofW HT_.out HW_.out (by kernel_rfl)) (fun _ _ _ h => h) (Or.inl ⟨by rfl, ?_⟩) hHeld ?_ ?_
    rotate_left
    · rintro w' ⟨s0, s1⟩
      go_simp
      with_reducible rfl
    rotate_left
    · simp only [Act.put, List.setIfInBounds_toArray, List.set_cons_zero, List.set_cons_succ, i64_w, i32_w]
      rfl
    refine two_ (i := 6) (j := 8) (Ni := some 16) (Nj := some 18) #[true, true, true, true, true, true, true, true, false, true, true, true, true, false, false, false, false, false, false] #[true, true, true, true, true, true, false, true, true, true, true, true, true, false, false, false, false, false, false] rfl rfl rfl rfl (two_of HT_.out (by kernel_rfl)) (by decide) (by decide) (fun K hK => ?_) (fun K hK => ?_)
    · skip
      have hcv := HCV.out
      refine value_ (w1 := ?_) (v := ?_) (by rfl) rfl ?_ ?_
      rotate_left 2
      · go_simp
        constructor
        · rfl
        · rfl
      refine hK.out _ _ HS.out (fun hHeld => ?_)
      clear hK K
      refine norm_ (a' := ?_) ?_ ?_
      rotate_left
      · show Act.put _ (some 16) _ = _
        simp only [Act.put, List.setIfInBounds_toArray, List.set_cons_zero, List.set_cons_succ, i64_w, i32_w]
        rfl
      refine one_ (i := 8) (N := some 18) #[true, true, true, true, true, true, true, true, true, true, true, true, true, false, false, false, false, false, false] rfl rfl (one_of HT_.out (by kernel_rfl)) (by decide) (fun K hK => ?_)
      have hcv := HCV.out
      refine value_ (w1 := ?_) (v := ?_) (by rfl) rfl ?_ ?_
      rotate_left 2
      · go_simp
        constructor
        · rfl
        · rfl
      refine hK.out _ _ HS.out (fun hHeld => ?_)
      clear hK K
      refine norm_ (a' := ?_) ?_ ?_
      rotate_left
      · show Act.put _ (some 18) _ = _
        simp only [Act.put, List.setIfInBounds_toArray, List.set_cons_zero, List.set_cons_succ, i64_w, i32_w]
        rfl
      refine pure_ (i := 13) (N := some 23) (v := ?_) (a' := ?_) #[true, true, true, true, true, true, true, true, true, true, true, true, true, true, false, false, false, false, false] rfl rfl (any_of HT_.out (by kernel_rfl)) (fun _ _ _ h => h) (Or.inl ⟨by rfl, ?_⟩) ?_ ?_
      rotate_left
      · intro w'
        go_simp
        with_reducible rfl
      rotate_left
      · simp only [Act.put, List.setIfInBounds_toArray, List.set_cons_zero, List.set_cons_succ, i64_w, i32_w]
        rfl
      refine one_ (i := 14) (N := some 24) #[true, true, true, true, true, true, true, true, true, true, true, true, true, true, true, false, false, false, false] rfl rfl (one_of HT_.out (by kernel_rfl)) (by decide) (fun K hK => ?_)
      have HS2 := Aside0.mk (And.intro ((blk_cell (blk_alloc HD.out.blk (.cells #[.string (strOfNums b), .string (strOfNums b), .int .i64 now] 61)) 2).trans (by rw [HNL.out]; rfl) : _ = some (Value.slice Af nL cf)) (blk_cell (blk_alloc HD.out.blk (.cells #[.string (strOfNums b), .string (strOfNums b), .int .i64 now] 61)) 1 : _ = some (Value.int .i64 now)))
      refine value_ (w1 := ?_) (v := ?_) (by rfl) rfl ?_ ?_
      rotate_left 2
      · go_simp
        constructor
        · rfl
        · rfl
      refine hK.out _ _ HS2.out (fun hHeld => ?_)
      clear hK K
      refine norm_ (a' := ?_) ?_ ?_
      rotate_left
      · show Act.put _ (some 24) _ = _
        simp only [Act.put, List.setIfInBounds_toArray, List.set_cons_zero, List.set_cons_succ, i64_w, i32_w]
        rfl
      refine last_ (i := 15) (N := some 25) #[true, true, true, true, true, true, true, true, true, true, true, true, true, true, true, true, false, false, false] rfl rfl (one_of HT_.out (by kernel_rfl)) (by decide) (fun K hK => ?_)
      refine Kd.R_append_step kDf (w0 := w.drew) n₀ (by rfl) (.tmp 14) (.tmp 24) 55 61 (.agg #[.string ⟨#[]⟩, .string ⟨#[]⟩, .int .i64 0]) 40 rfl Try.underlying55 df_info rfl (by decide) (by omega) (.slice Af nL cf) L (b, b, now) [.string (strOfNums b), .string (strOfNums b), .int .i64 now] (fun _ => True) (fun _ => False) (by first | rfl | (go_simp; done)) (by first | rfl | (go_simp; done) | (go_simp; rfl)) (kDf_M (b, b, now)) (fun k hk => hk.elim) (fun _ _ => trivial) (by rw [HNL.out]; exact HD.out.row) (Below.refl _ _) (by have := HD.out.low; have := HD.out.lt; omega) (by have := HLT.out; omega) ?_
      intro v29 w3 ho hb3 hg3 hat3
      obtain ⟨A29, c29, e29⟩ := Kd.R_slice ho
      obtain ⟨n29, hn29⟩ : ∃ n29, n29 = (L ++ [(b, b, now)]).length := ⟨_, rfl⟩
      rw [← hn29] at e29
      subst e29
      have HA := Aside0.mk (HD.out.rowed (L' := L ++ [(b, b, now)]) ho (by rw [← HNL.out]; exact hg3) (by rcases hat3 with q | q; exact .inl (by rw [q, HNL.out]); exact .inr (.inl q)))
      have HBG := Aside0.mk ((hg3.block h HD.out.lt (by rw [HNL.out]; exact HD.out.ne)).trans HD.out.blk)
      clear ho hb3 hg3 hat3 hn29
      refine hK.out _ _ ?_
      clear hK K
      refine norm_ (a' := ?_) ?_ ?_
      rotate_left
      · show Act.put _ (some 25) _ = _
        simp only [Act.put, List.setIfInBounds_toArray, List.set_cons_zero, List.set_cons_succ, i64_w, i32_w]
        rfl
      refine pure_ (i := 16) (N := some 26) (v := ?_) (a' := ?_) #[true, true, true, true, true, true, true, true, true, true, true, true, true, true, true, true, true, false, false] rfl rfl (any_of HT_.out (by kernel_rfl)) (fun _ _ _ h => h) (Or.inl ⟨by rfl, ?_⟩) ?_ ?_
      rotate_left
      · intro w'
        go_simp
        with_reducible rfl
      rotate_left
      · simp only [Act.put, List.setIfInBounds_toArray, List.set_cons_zero, List.set_cons_succ, i64_w, i32_w]
        rfl
      refine pure_ (i := 17) (N := some 27) (v := ?_) (a' := ?_) #[true, true, true, true, true, true, true, true, true, true, true, true, true, true, true, true, true, true, false] rfl rfl (any_of HT_.out (by kernel_rfl)) (fun _ _ _ h => h) (Or.inl ⟨by rfl, ?_⟩) ?_ ?_
      rotate_left
      · intro w'
        go_simp
        with_reducible rfl
      rotate_left
      · simp only [Act.put, List.setIfInBounds_toArray, List.set_cons_zero, List.set_cons_succ, i64_w, i32_w]
        rfl
      refine last_ (i := 18) (N := none) #[true, true, true, true, true, true, true, true, true, true, true, true, true, true, true, true, true, true, true] rfl rfl (one_of HT_.out (by kernel_rfl)) (by decide) (fun K hK => ?_)
      have hcg : w3.cell? ⟨h, 2, none⟩ = some (.slice Af L.length cf) := blk_cell HBG.out 2
      have hfz := blk_frozen HBG.out 2
      refine skip_ (w1 := ?_) (by rfl) rfl ?_ ?_
      rotate_left 1
      · go_simp
        rfl
      refine hK.out _ _ ?_
      clear hK K
      refine done_ (done_of HT_.out (by kernel_rfl)) ?_
      clear hcg hfz
      obtain ⟨h1, h2, h3⟩ := HA.out
      generalize (w3.setCell ⟨h, 2, none⟩ (.slice A29 n29 c29)) = w4 at h1 h2 h3 ⊢
      have HE := Aside0.mk (And.intro h1 (And.intro h2 h3))
      clear h1 h2 h3
      go_wp2
      refine bodyPost_end (results_none rfl _ _ _) rfl ?_
      exact ⟨by simp, _, HE.out.1, by rw [HNL.out]; exact (Fr.of_below (below_drew1 (Below.refl _ _))).seq HE.out.2.1, by rw [HNL.out]; exact HE.out.2.2⟩
    · skip
      have hcv := HCV.out
      refine value_ (w1 := ?_) (v := ?_) (by rfl) rfl ?_ ?_
      rotate_left 2
      · go_simp
        constructor
        · rfl
        · rfl
      refine hK.out _ _ HS.out (fun hHeld => ?_)
      clear hK K
      refine norm_ (a' := ?_) ?_ ?_
      rotate_left
      · show Act.put _ (some 18) _ = _
        simp only [Act.put, List.setIfInBounds_toArray, List.set_cons_zero, List.set_cons_succ, i64_w, i32_w]
        rfl
      refine one_ (i := 6) (N := some 16) #[true, true, true, true, true, true, true, true, true, true, true, true, true, false, false, false, false, false, false] rfl rfl (one_of HT_.out (by kernel_rfl)) (by decide) (fun K hK => ?_)
      have hcv := HCV.out
      refine value_ (w1 := ?_) (v := ?_) (by rfl) rfl ?_ ?_
      rotate_left 2
      · go_simp
        constructor
        · rfl
        · rfl
      refine hK.out _ _ HS.out (fun hHeld => ?_)
      clear hK K
      refine norm_ (a' := ?_) ?_ ?_
      rotate_left
      · show Act.put _ (some 16) _ = _
        simp only [Act.put, List.setIfInBounds_toArray, List.set_cons_zero, List.set_cons_succ, i64_w, i32_w]
        rfl
      refine pure_ (i := 13) (N := some 23) (v := ?_) (a' := ?_) #[true, true, true, true, true, true, true, true, true, true, true, true, true, true, false, false, false, false, false] rfl rfl (any_of HT_.out (by kernel_rfl)) (fun _ _ _ h => h) (Or.inl ⟨by rfl, ?_⟩) ?_ ?_
      rotate_left
      · intro w'
        go_simp
        with_reducible rfl
      rotate_left
      · simp only [Act.put, List.setIfInBounds_toArray, List.set_cons_zero, List.set_cons_succ, i64_w, i32_w]
        rfl
      refine one_ (i := 14) (N := some 24) #[true, true, true, true, true, true, true, true, true, true, true, true, true, true, true, false, false, false, false] rfl rfl (one_of HT_.out (by kernel_rfl)) (by decide) (fun K hK => ?_)
      have HS2 := Aside0.mk (And.intro ((blk_cell (blk_alloc HD.out.blk (.cells #[.string (strOfNums b), .string (strOfNums b), .int .i64 now] 61)) 2).trans (by rw [HNL.out]; rfl) : _ = some (Value.slice Af nL cf)) (blk_cell (blk_alloc HD.out.blk (.cells #[.string (strOfNums b), .string (strOfNums b), .int .i64 now] 61)) 1 : _ = some (Value.int .i64 now)))
      refine value_ (w1 := ?_) (v := ?_) (by rfl) rfl ?_ ?_
      rotate_left 2
      · go_simp
        constructor
        · rfl
        · rfl
      refine hK.out _ _ HS2.out (fun hHeld => ?_)
      clear hK K
      refine norm_ (a' := ?_) ?_ ?_
      rotate_left
      · show Act.put _ (some 24) _ = _
        simp only [Act.put, List.setIfInBounds_toArray, List.set_cons_zero, List.set_cons_succ, i64_w, i32_w]
        rfl
      refine last_ (i := 15) (N := some 25) #[true, true, true, true, true, true, true, true, true, true, true, true, true, true, true, true, false, false, false] rfl rfl (one_of HT_.out (by kernel_rfl)) (by decide) (fun K hK => ?_)
      refine Kd.R_append_step kDf (w0 := w.drew) n₀ (by rfl) (.tmp 14) (.tmp 24) 55 61 (.agg #[.string ⟨#[]⟩, .string ⟨#[]⟩, .int .i64 0]) 40 rfl Try.underlying55 df_info rfl (by decide) (by omega) (.slice Af nL cf) L (b, b, now) [.string (strOfNums b), .string (strOfNums b), .int .i64 now] (fun _ => True) (fun _ => False) (by first | rfl | (go_simp; done)) (by first | rfl | (go_simp; done) | (go_simp; rfl)) (kDf_M (b, b, now)) (fun k hk => hk.elim) (fun _ _ => trivial) (by rw [HNL.out]; exact HD.out.row) (Below.refl _ _) (by have := HD.out.low; have := HD.out.lt; omega) (by have := HLT.out; omega) ?_
      intro v29 w3 ho hb3 hg3 hat3
      obtain ⟨A29, c29, e29⟩ := Kd.R_slice ho
      obtain ⟨n29, hn29⟩ : ∃ n29, n29 = (L ++ [(b, b, now)]).length := ⟨_, rfl⟩
      rw [← hn29] at e29
      subst e29
      have HA := Aside0.mk (HD.out.rowed (L' := L ++ [(b, b, now)]) ho (by rw [← HNL.out]; exact hg3) (by rcases hat3 with q | q; exact .inl (by rw [q, HNL.out]); exact .inr (.inl q)))
      have HBG := Aside0.mk ((hg3.block h HD.out.lt (by rw [HNL.out]; exact HD.out.ne)).trans HD.out.blk)
      clear ho hb3 hg3 hat3 hn29
      refine hK.out _ _ ?_
      clear hK K
      refine norm_ (a' := ?_) ?_ ?_
      rotate_left
      · show Act.put _ (some 25) _ = _
        simp only [Act.put, List.setIfInBounds_toArray, List.set_cons_zero, List.set_cons_succ, i64_w, i32_w]
        rfl
      refine pure_ (i := 16) (N := some 26) (v := ?_) (a' := ?_) #[true, true, true, true, true, true, true, true, true, true, true, true, true, true, true, true, true, false, false] rfl rfl (any_of HT_.out (by kernel_rfl)) (fun _ _ _ h => h) (Or.inl ⟨by rfl, ?_⟩) ?_ ?_
      rotate_left
      · intro w'
        go_simp
        with_reducible rfl
      rotate_left
      · simp only [Act.put, List.setIfInBounds_toArray, List.set_cons_zero, List.set_cons_succ, i64_w, i32_w]
        rfl
      refine pure_ (i := 17) (N := some 27) (v := ?_) (a' := ?_) #[true, true, true, true, true, true, true, true, true, true, true, true, true, true, true, true, true, true, false] rfl rfl (any_of HT_.out (by kernel_rfl)) (fun _ _ _ h => h) (Or.inl ⟨by rfl, ?_⟩) ?_ ?_
      rotate_left
      · intro w'
        go_simp
        with_reducible rfl
      rotate_left
      · simp only [Act.put, List.setIfInBounds_toArray, List.set_cons_zero, List.set_cons_succ, i64_w, i32_w]
        rfl
      refine last_ (i := 18) (N := none) #[true, true, true, true, true, true, true, true, true, true, true, true, true, true, true, true, true, true, true] rfl rfl (one_of HT_.out (by kernel_rfl)) (by decide) (fun K hK => ?_)
      have hcg : w3.cell? ⟨h, 2, none⟩ = some (.slice Af L.length cf) := blk_cell HBG.out 2
      have hfz := blk_frozen HBG.out 2
      refine skip_ (w1 := ?_) (by rfl) rfl ?_ ?_
      rotate_left 1
      · go_simp
        rfl
      refine hK.out _ _ ?_
      clear hK K
      refine done_ (done_of HT_.out (by kernel_rfl)) ?_
      clear hcg hfz
      obtain ⟨h1, h2, h3⟩ := HA.out
      generalize (w3.setCell ⟨h, 2, none⟩ (.slice A29 n29 c29)) = w4 at h1 h2 h3 ⊢
      have HE := Aside0.mk (And.intro h1 (And.intro h2 h3))
      clear h1 h2 h3
      go_wp2
      refine bodyPost_end (results_none rfl _ _ _) rfl ?_
      exact ⟨by simp, _, HE.out.1, by rw [HNL.out]; exact (Fr.of_below (below_drew1 (Below.refl _ _))).seq HE.out.2.1, by rw [HNL.out]; exact HE.out.2.2⟩
  · have e0 : putC now b L = L := by unfold putC; rw [if_neg hlt]
    rw [e0]
    have hlb : decide ((L.length : Int) < 4096) = false := decide_eq_false (by omega)
    have HD := Aside0.mk d
    clear d hr
    go_enter Try.func29, Try.ntmps29
    go_wp2
    refine bodyPost_end (results_none rfl _ _ _) rfl ?_
    exact ⟨by simp, _, HD.out, Fr.refl _ _ _, Newer.refl _ _⟩
end Go.Proofs.Ytfplmoeahbjfmaa.P

-- YtfplmoeahbjfmaaPDStep
namespace Go.Proofs.Ytfplmoeahbjfmaa.P
open Go Go.Proofs Go.RowKit Go.Shelf Go.Proofs.YtfplmoeahbjfmaaW.PrintWords Go.Proofs.YtfplmoeahbjfmaaW.PrintLast Go.Proofs.YtfplmoeahbjfmaaW.PrintMore
set_option linter.unusedVariables false
set_option linter.unusedSimpArgs false

variable {w w' w2 : World} {n₀ g h : Nat} {age now : Int} {v v' vd : Value} {L L' : List Fl}
theorem df_get {ok : Nat → Prop} {gr n c : Nat} (hr : Kd.R kDf 61 w n₀ ok (.slice (some ⟨gr, 0, none⟩) n c) L) (i : Nat) (hi : i < n) :
    ∃ f, L[i]? = some f ∧ w.cell? ⟨gr, i * 3, none⟩ = some (.string (strOfNums f.1)) ∧ w.cell? ⟨gr, i * 3 + 1, none⟩ = some (.string (strOfNums f.2.1)) ∧ w.cell? ⟨gr, i * 3 + 2, none⟩ = some (.int .i64 f.2.2) := by
  have hn := (Kd.R_reads' hr).1
  obtain ⟨c, hl, hM, hc, _⟩ := Kd.R_elem hr ([], [], 0) (i : Int) (by omega) (by omega)
  rw [Int.toNat_natCast] at hM hc
  have he : L[i]? = some (L.getD i ([], [], 0)) := by rw [List.getD_eq_getElem?_getD, List.getElem?_eq_getElem (by omega)]; rfl
  obtain ⟨c0, c1, rfl, h1, c2, c3, rfl, h2, h3⟩ := hM
  have h1' : c0 = [.string (strOfNums (L.getD i ([], [], 0)).1)] := h1
  have h2' : c2 = [.string (strOfNums (L.getD i ([], [], 0)).2.1)] := h2
  have h3' : c3 = [.int .i64 (L.getD i ([], [], 0)).2.2] := h3
  subst h1' h2' h3'
  exact ⟨_, he, hc 0 _ rfl, hc 1 _ rfl, hc 2 _ rfl⟩
theorem keepL_app (a now : Int) (x y : List Fl) : keepL a now (x ++ y) = keepL a now x ++ keepL a now y := by unfold keepL; rw [List.filter_append]
theorem keep_take (age now : Int) (L : List Fl) (i : Nat) (hi : i < L.length) {f : Fl} (hf : L[i]? = some f) : keepL age now (L.take (i + 1)) = keepL age now (L.take i) ++ (if oldB age now f.2.2 then [] else [f]) := by
  rw [List.take_succ_eq_append_getElem hi, keepL_app]
  rw [List.getElem?_eq_getElem hi] at hf
  injection hf with hf
  rw [hf]
  unfold keepL
  cases hz : oldB age now f.2.2 <;> simp [hz]
set_option maxRecDepth 100000 in
set_option maxHeartbeats 8000000 in
theorem dstep_calls (d : DS w n₀ h age now v L) (hl : L.length ≤ 5000) (hn : 0 ≤ now ∧ now ≤ 10000) (hs : Since now L) :
    Calls Try.prog 30 #[.pointer (some ⟨h, 0, none⟩)] w fun e w' => e = .returned (.int .i64 ((L.length : Int) - ((keepL age (now + 1) L).length : Int))) ∧ ∃ v', DS w' n₀ h age (now + 1) v' (keepL age (now + 1) L) ∧ Fr h v w w' ∧ Newer w v v' := by
  obtain ⟨hn0, hn1⟩ := hn
  have hc1 : w.cell? ⟨h, 1, none⟩ = some (.int .i64 now) := blk_cell d.blk 1
  have hfz := fun q => blk_frozen d.blk q
  obtain ⟨w1, hw1⟩ : ∃ w1, w1 = w.setCell ⟨h, 1, none⟩ (.int .i64 (now + 1)) := ⟨_, rfl⟩
  have HD := Aside0.mk (show DS w1 n₀ h age (now + 1) v L by rw [hw1]; exact d.now_ (now + 1))
  have HF := Aside0.mk (show Fr h v w w1 by rw [hw1]; exact Fr.set 1 _)
  have HW := Aside0.mk hw1
  have HSI := Aside0.mk hs
  have HL := Aside0.mk hl
  obtain ⟨Af, cf, e⟩ := d.slice
  obtain ⟨nL, hnL⟩ : ∃ nL, nL = L.length := ⟨_, rfl⟩
  rw [← hnL] at e
  have HE := Aside0.mk e
  have HNL := Aside0.mk hnL
  have hn5 : nL ≤ 5000 := by omega
  clear d hw1 hs hl e hnL
  go_enter Try.func30, Try.ntmps30
  go_wp2_with fail
  rw [← HW.out]
  clear hc1 hfz
  go_loopw [3, 4] (fun v3 v4 wr => ∃ (i : Nat), v4 = .int .i64 (i : Int) ∧ i ≤ nL ∧ Aside0 (Below w1.heap.size w1 wr) ∧ Aside0 (Kd.R kDf 61 wr w1.heap.size (fun _ => True) v3 (keepL age (now + 1) (L.take i)))) (fun _ v4 _ => nL - (intOf v4).toNat)
  case atStart => exact ⟨0, by simp, by omega, ⟨Below.refl _ _⟩, ⟨Kd.R_nil _ _ _ _ _⟩⟩
  case round =>
    obtain ⟨i, rfl, hi, HB, HO⟩ := hrel
    have hdr := HD.out.below HB.out
    have hc2 : wr.cell? ⟨h, 2, none⟩ = some (.slice Af nL cf) := by rw [← HE.out]; exact blk_cell hdr.blk 2
    by_cases hlt : i < nL
    · have hlb : decide ((i : Int) < (nL : Int)) = true := decide_eq_true (by omega)
      have hca : wr.cell? ⟨h, 0, none⟩ = some (.int .i64 age) := blk_cell hdr.blk 0
      have hcn : wr.cell? ⟨h, 1, none⟩ = some (.int .i64 (now + 1)) := blk_cell hdr.blk 1
      have hrow := hdr.row
      rw [HE.out] at hrow
      obtain ⟨gr, cap, eg, _, _, _⟩ := Kd.R_form hrow (by rw [← HNL.out]; omega)
      injection eg with eA _ _
      subst eA
      obtain ⟨f, hLi, hf0, hf1, hf2⟩ := df_get hrow i hlt
      have hsb := HSI.out f (List.mem_of_getElem? hLi)
      obtain ⟨s, hs⟩ : ∃ s, s = f.2.2 := ⟨_, rfl⟩
      rw [← hs] at hf2 hsb
      obtain ⟨hs0, hs1⟩ := hsb
      have hwr : wrap64 (now + 1 - s) = now + 1 - s := by unfold wrap64; omega
      have hwi : IntKind.i64.wrap (now + 1 - s) = now + 1 - s := (i64_w _).trans hwr
      have hKT := keep_take age (now + 1) L i (by rw [← HNL.out]; exact hlt) hLi
      rw [← hs] at hKT
      obtain ⟨z, hz⟩ : ∃ z, z = oldB age (now + 1) s := ⟨_, rfl⟩
      rw [← hz] at hKT
      have hzb : decide (now + 1 - s < age) = !z := by
        rw [hz]; unfold oldB
        by_cases q : age ≤ now + 1 - s
        · rw [decide_eq_true q]; exact decide_eq_false (by omega)
        · rw [decide_eq_false q]; exact decide_eq_true (by omega)
      obtain ⟨s1, hs1e⟩ : ∃ s1, s1 = strOfNums f.1 := ⟨_, rfl⟩
      obtain ⟨s2, hs2e⟩ : ∃ s2, s2 = strOfNums f.2.1 := ⟨_, rfl⟩
      rw [← hs1e] at hf0
      rw [← hs2e] at hf1
      have HKT := Aside0.mk hKT
      have HSS := Aside0.mk (And.intro hs1e (And.intro hs2e hs))
      clear hs hz hLi hdr hrow hKT hs1e hs2e
      cases z with
      | true =>
        go_wp2_with fail
        go_quiet (fail)
        go_wp2
        go_roundw
        case rel => exact ⟨i + 1, by simp, by omega, ⟨below_step HB.out (pw_below_drewN (Below.refl _ _) _)⟩, ⟨by rw [HKT.out]; simp only [if_true, List.append_nil]; exact Kd.R_drewN HO.out _⟩⟩
        case measure => simp [intOf]; omega
      | false =>
        go_wp2_with fail
        go_quiet (fail)
        have HB2 := Aside0.mk (below_step HB.out (pw_below_drewN (Below.refl wr.heap.size wr) nq))
        have HO2 := Aside0.mk (Kd.R_drewN HO.out nq)
        have HLM := Aside0.mk (show (keepL age (now + 1) (L.take i)).length ≤ 5000 from Nat.le_trans (List.length_filter_le _ _) (by rw [List.length_take]; omega))
        clear HB HO
        go_wp2_with ((with_reducible refine gate_builtin (b := .append) (xs := #[.tmp 40, .tmp 48]) rfl ?_); at_builtin; refine Kd.R_append kDf (w0 := w1) w1.heap.size rfl (.tmp 40) (.tmp 48) 55 61 (.agg #[.string ⟨#[]⟩, .string ⟨#[]⟩, .int .i64 0]) 40 rfl Try.underlying55 df_info rfl (by decide) (by omega) u3 (keepL age (now + 1) (L.take i)) f [.string s1, .string s2, .int .i64 s] (fun _ => True) (fun _ => False) rfl (by first | (go_simp; done) | (go_simp; rfl)) (by rw [HSS.out.1, HSS.out.2.1, HSS.out.2.2]; exact kDf_M f) (fun k hk => hk.elim) (fun k hk => trivial) HO2.out HB2.out HB2.out.size (by have := HLM.out; omega) ?_; intro v49 w49 ho hb hg hat; have HB3 := Aside0.mk hb; have HO3 := Aside0.mk ho; clear ho hb hg hat)
        go_roundw
        case rel => exact ⟨i + 1, by simp, by omega, HB3, ⟨by rw [HKT.out]; exact HO3.out⟩⟩
        case measure => simp [intOf]; omega
    · have hlb : decide ((i : Int) < (nL : Int)) = false := decide_eq_false (by omega)
      have hTL : L.take i = L := List.take_of_length_le (by rw [← HNL.out]; omega)
      rw [hTL] at HO
      obtain ⟨A3, c3, e3⟩ := Kd.R_slice HO.out
      obtain ⟨n3, hn3⟩ : ∃ n3, n3 = (keepL age (now + 1) L).length := ⟨_, rfl⟩
      rw [← hn3] at e3
      subst e3
      have hn3b : n3 ≤ nL := by rw [hn3, HNL.out]; exact List.length_filter_le _ _
      have HN3 := Aside0.mk hn3
      have hfz := blk_frozen hdr.blk 2
      have HA := Aside0.mk (HD.out.rowed (L' := keepL age (now + 1) L) (v' := .slice A3 n3 c3) (w2 := wr) (Kd.R_lower HO.out (by have := HD.out.low; have := HD.out.lt; omega)) (grownBy_below HB.out) (by
        cases A3 with
        | none => exact .inr (.inr rfl)
        | some a => exact .inr (.inl ⟨a.block, rfl, Kd.R_base HO.out a.block rfl⟩)))
      clear hTL hn3 hdr
      go_wp2
      go_ret
      refine ⟨by rw [← HNL.out, ← HN3.out]; rfl, .slice A3 n3 c3, HA.out.1, ?_, ?_⟩
      · exact HF.out.seq HA.out.2.1
      · exact (Newer.refl w v).trans HF.out.size HA.out.2.2
end Go.Proofs.Ytfplmoeahbjfmaa.P

-- YtfplmoeahbjfmaaPDTake
namespace Go.Proofs.Ytfplmoeahbjfmaa.P
open Go Go.Proofs Go.RowKit Go.Shelf Go.Proofs.YtfplmoeahbjfmaaW.PrintWords Go.Proofs.YtfplmoeahbjfmaaW.PrintLast Go.Proofs.YtfplmoeahbjfmaaW.PrintMore
set_option linter.unusedVariables false
set_option linter.unusedSimpArgs false

variable {w w' w2 : World} {n₀ g h : Nat} {age now : Int} {v v' vd : Value} {L L' : List Fl}
theorem kDf_KM {w : World} {b : Nat} {ok : Nat → Prop} (f : Fl) (cs : List Value) (h : kDf.K w f cs) : kDf.M w b ok f cs := h
theorem take_C {ok : Nat → Prop} {base n c i : Nat} {A : Option Addr} (h : Kd.R kDf 61 w base ok (.slice A n c) L) (hi : (L.take i).length = i) : ReadsRow (kDf.K w) kDf.sz w A i (L.take i) := by
  have h2 := Kd.C_take (m := i) (Kd.R_reads' h).2.2 (by rw [List.length_take] at hi; omega)
  rw [hi] at h2
  exact h2
theorem drop_C {ok : Nat → Prop} {base n c i m : Nat} {A As : Option Addr} (h : Kd.R kDf 61 w base ok (.slice A n c) L) (hd : (L.drop (i + 1)).length = m) (hi : i + 1 ≤ n) (hc : L.length ≤ c) (hA : As = (if c = i + 1 then A else A.map (·.add ((i + 1) * 3)))) : ReadsRow (kDf.K w) kDf.sz w As m (L.drop (i + 1)) := by
  have hn := (Kd.R_reads' h).1
  have h2 := Kd.C_drop (m := i + 1) (c := c) (Kd.R_reads' h).2.2 (by omega) hc
  rw [hd] at h2
  rw [hA]
  exact h2
/-- A literal of one datagram. -/
structure Lt29 (W : World) (b : Nat) (f : Fl) : Prop where
  c : Kd.C kDf W (some ⟨b, 0, none⟩) 1 [f]
  lt : b < W.heap.size
theorem Lt29.new (W : World) (f : Fl) : Lt29 (W.alloc (.cells #[.string (strOfNums f.1), .string (strOfNums f.2.1), .int .i64 f.2.2] 61)) W.heap.size f := by
  have hb := blk_new W (.cells #[.string (strOfNums f.1), .string (strOfNums f.2.1), .int .i64 f.2.2] 61)
  refine ⟨⟨rfl, by decide, fun _ => ⟨_, rfl, fun j p hj => ?_⟩⟩, by rw [World.size_alloc]; omega⟩
  cases j with
  | zero =>
    injection hj with hj
    subst hj
    refine ⟨_, rfl, kDf_M (w := W) (b := 0) (ok := fun _ => True) f, fun i u hi => ?_⟩
    rw [add_at]
    rw [show 0 + (0 * kDf.sz + i) = i by omega, blk_cell hb i]
    simpa using hi
  | succ j => cases hj
theorem Lt29.grown {W W' : World} {b : Nat} {f : Fl} {row : Option Nat} (h : Lt29 W b f) (hg : W.grownBy W' row) (hne : some b ≠ row) : Lt29 W' b f := by
  have hk := hg.block b h.lt hne
  refine ⟨⟨h.c.1, h.c.2.1, fun hp => ?_⟩, Nat.lt_of_lt_of_le h.lt hg.size⟩
  obtain ⟨ad, e, hc⟩ := h.c.2.2 hp
  injection e with e
  subst e
  refine ⟨_, rfl, fun j p hj => ?_⟩
  obtain ⟨c, h1, h2, h3⟩ := hc j p hj
  exact ⟨c, h1, h2, fun i u hi => by rw [World.cell?_of_block (w := W) (by rw [add_block]; exact hk)]; exact h3 i u hi⟩
theorem Lt29.ne {W : World} {b : Nat} {f : Fl} {u : Value} (h : Lt29 W b f) (hn : ∃ k, u.ownBlock = some k ∧ W.heap.size ≤ k) : some b ≠ u.ownBlock := by
  obtain ⟨k, e, hk⟩ := hn
  rw [e]
  intro q
  injection q with q
  have := h.lt; omega
theorem lit29 {W W0 : World} {base : Nat} (_ : Below base W0 W) (f : Fl) (s1 s2 : ByteArray) (sn : Int) (h1 : s1 = strOfNums f.1) (h2 : s2 = strOfNums f.2.1) (h3 : sn = f.2.2) : Lt29 (W.alloc (.cells #[.string s1, .string s2, .int .i64 sn] 61)) W.heap.size f := by
  subst h1; subst h2; subst h3; exact Lt29.new W f
theorem new_ne {W : World} {base : Nat} {u : Value} {xs : List Fl} (h : Kd.R kDf 61 W base (fun _ => True) u xs) : some W.heap.size ≠ u.ownBlock := fun q => by have := Kd.R_lt h _ q.symm; omega
def dtwice5.T : Bool × List (List Nat × List Nat) := (true, [([], []), ([], []), ([], []), ([2], [2]), ([3], [3]), ([4], [4]), ([1, 5], [1, 5]), ([], []), ([7], [7]), ([8], [8]), ([9], [9]), ([], []), ([10, 11], [10, 11]), ([12], [12]), ([13], [13]), ([6, 14, 6], [6, 14]), ([0, 0, 1, 2, 3, 4, 5, 6, 7, 8, 9, 10, 11, 12, 13, 14, 15], [0]), ([16, 0, 1, 2, 3, 4, 5, 6, 7, 8, 9, 10, 11, 12, 13, 14, 15], [16]), ([17, 15, 15, 0, 1, 2, 3, 4, 5, 6, 7, 8, 9, 10, 11, 12, 13, 14, 15], [15, 17])])
def dtwice5.B : List Nat := [0, 0, 0, 4, 12, 28, 62, 0, 128, 384, 896, 0, 3968, 8064, 16256, 32766, 65535, 131071, 262143]
theorem dtwice5.tab : rtab .any (opsOf Try.f32 5) = dtwice5.T := by kernel_rfl
theorem dtwice5.bits : waitsOk dtwice5.T.2 dtwice5.B = true := by kernel_rfl
set_option maxRecDepth 100000 in
set_option maxHeartbeats 8000000 in
theorem dtwice_calls (d : DS w n₀ h age now v L) (k : Int) :
    Calls Try.prog 32 #[.pointer (some ⟨h, 0, none⟩), .int .i64 k] w fun e w' => e = .returned (.int .i64 (twE L.length k)) ∧ ∃ v', DS w' n₀ h age now v' (twL k L) ∧ Fr h v w w' ∧ Newer w v v' := by
  by_cases hh : hasE L.length k = 0
  · have hk : 0 ≤ k ∧ k < L.length := by unfold hasE at hh; split at hh; assumption; omega
    have hE : decide (hasE L.length k = 0) = true := decide_eq_true hh
    by_cases hlt : L.length < 4096
    · obtain ⟨i, rfl⟩ := Int.eq_ofNat_of_zero_le hk.1
      have e1 : twE L.length (i : Int) = 0 := by unfold twE; rw [if_pos hh, if_pos hlt]
      have e2 : twL (i : Int) L = L ++ [L.getD i ([], [], 0)] := by unfold twL; rw [if_pos e1, Int.toNat_natCast]
      rw [e1, e2]
      have hil : i < L.length := by omega
      obtain ⟨Af, cf, e⟩ := d.slice
      subst e
      obtain ⟨gr, cap, eg, _, _, _⟩ := Kd.R_form d.row (by omega)
      injection eg with eA _ eC
      subst eA
      subst eC
      obtain ⟨f, hLi, hf0, hf1, hf2⟩ := df_get d.row i hil
      have hfe : L.getD i ([], [], 0) = f := by rw [List.getD_eq_getElem?_getD, hLi]; rfl
      rw [hfe]
      have hc2 : w.cell? ⟨h, 2, none⟩ = some (.slice (some ⟨gr, 0, none⟩) L.length cf) := blk_cell d.blk 2
      have hlb : decide (4096 ≤ (L.length : Int)) = false := decide_eq_false (by omega)
      have hbd : Below w.heap.size w w.drew := below_drew1 (Below.refl _ _)
      have HHAS := Aside0.mk (dhas_calls d (i : Int))
      rw [hE] at HHAS
      have HD := Aside0.mk (d.below hbd)
      have HLT := Aside0.mk hlt
      obtain ⟨nL, hnL⟩ : ∃ nL, nL = L.length := ⟨_, rfl⟩
      rw [← hnL] at hc2 hlb hil
      have HNL := Aside0.mk hnL
      obtain ⟨s1, hs1⟩ : ∃ s1, s1 = strOfNums f.1 := ⟨_, rfl⟩
      obtain ⟨s2, hs2⟩ : ∃ s2, s2 = strOfNums f.2.1 := ⟨_, rfl⟩
      obtain ⟨sn, hsn⟩ : ∃ sn, sn = f.2.2 := ⟨_, rfl⟩
      rw [← hs1] at hf0
      rw [← hs2] at hf1
      rw [← hsn] at hf2
      have HSS := Aside0.mk (And.intro hs1 (And.intro hs2 hsn))
      have HS := Aside0.mk (show w.drew.cell? ⟨h, 2, none⟩ = some (.slice (some ⟨gr, 0, none⟩) nL cf) ∧ w.drew.cell? ⟨gr, i * 3, none⟩ = some (.string s1) ∧ w.drew.cell? ⟨gr, i * 3 + 1, none⟩ = some (.string s2) ∧ w.drew.cell? ⟨gr, i * 3 + 2, none⟩ = some (.int .i64 sn) from ⟨hc2, hf0, hf1, hf2⟩)
      have hgr : gr < w.drew.heap.size := (d.own gr (by simp [Value.ownBlock])).2
      have hhl : h < w.drew.heap.size := d.lt
      have HSB := Aside0.mk (show ∀ w', Below w.drew.heap.size w.drew w' → w'.cell? ⟨h, 2, none⟩ = some (.slice (some ⟨gr, 0, none⟩) nL cf) ∧ w'.cell? ⟨gr, i * 3, none⟩ = some (.string s1) ∧ w'.cell? ⟨gr, i * 3 + 1, none⟩ = some (.string s2) ∧ w'.cell? ⟨gr, i * 3 + 2, none⟩ = some (.int .i64 sn) from fun w' hb =>
        ⟨(hb.cell (p := ⟨h, 2, none⟩) hhl).trans HS.out.1, (hb.cell (p := ⟨gr, i * 3, none⟩) hgr).trans HS.out.2.1, (hb.cell (p := ⟨gr, i * 3 + 1, none⟩) hgr).trans HS.out.2.2.1, (hb.cell (p := ⟨gr, i * 3 + 2, none⟩) hgr).trans HS.out.2.2.2⟩)
      have HB := Aside0.mk (Below.refl w.drew.heap.size w.drew)
      clear hgr hhl
      clear d hbd hlt hnL hs1 hs2 hsn hf0 hf1 hf2 hLi hfe hk e1 e2 hE hh
      go_enter Try.func32, Try.ntmps32
      go_wp2_with (go_at_call 48; refine HHAS.out.mono ?_; rintro e w1 ⟨rfl, rfl⟩)
      clear hc2
      refine start_ (n := 19) (S := (fun w' => w'.cell? ⟨h, 2, none⟩ = some (.slice (some ⟨gr, 0, none⟩) nL cf) ∧ w'.cell? ⟨gr, i * 3, none⟩ = some (.string s1) ∧ w'.cell? ⟨gr, i * 3 + 1, none⟩ = some (.string s2) ∧ w'.cell? ⟨gr, i * 3 + 2, none⟩ = some (.int .i64 sn))) (ds := [18]) #[false, false, false, false, false, false, false, false, false, false, false, false, false, false, false, false, false, false, false] (by kernel_rfl) rfl rfl HS.out (fun hHeld => ?_)
      refine with_tabW dtwice5.tab dtwice5.bits (fun HT_ HW_ => ?_)
      refine pure_ (i := 0) (N := some 15) (v := ?_) (a' := ?_) #[true, false, false, false, false, false, false, false, false, false, false, false, false, false, false, false, false, false, false] rfl rfl (any_of HT_.out (by kernel_rfl)) (fun _ _ _ h => h) (Or.inl ⟨by rfl, ?_⟩) ?_ ?_
      rotate_left
      · intro w'
        go_simp
        with_reducible rfl
      rotate_left
      · simp only [Act.put, List.setIfInBounds_toArray, List.set_cons_zero, List.set_cons_succ, i64_w, i32_w]
        rfl
      refine pure_ (i := 2) (N := some 17) (v := ?_) (a' := ?_) #[true, false, true, false, false, false, false, false, false, false, false, false, false, false, false, false, false, false, false] rfl rfl (any_of HT_.out (by kernel_rfl)) (fun _ _ _ h => h) (Or.inl ⟨by rfl, ?_⟩) ?_ ?_
      rotate_left
      · intro w'
        go_simp
        with_reducible rfl
      rotate_left
      · simp only [Act.put, List.setIfInBounds_toArray, List.set_cons_zero, List.set_cons_succ, i64_w, i32_w]
        rfl
      refine pure_ (i := 3) (N := some 18) (v := ?_) (a' := ?_) #[true, false, true, true, false, false, false, false, false, false, false, false, false, false, false, false, false, false, false] rfl rfl (any_of HT_.out (by kernel_rfl)) (fun _ _ _ h => h) (Or.inl ⟨by rfl, ?_⟩) ?_ ?_
      rotate_left
      · intro w'
        go_simp
        with_reducible rfl
      rotate_left
      · simp only [Act.put, List.setIfInBounds_toArray, List.set_cons_zero, List.set_cons_succ, i64_w, i32_w]
        rfl
      refine pure_ (i := 4) (N := some 19) (v := ?_) (a' := ?_) #[true, false, true, true, true, false, false, false, false, false, false, false, false, false, false, false, false, false, false] rfl rfl (any_of HT_.out (by kernel_rfl)) (fun _ _ _ h => h) (Or.inl ⟨by rfl, ?_⟩) ?_ ?_
      rotate_left
      · intro w'
        go_simp
        with_reducible rfl
      rotate_left
      · simp only [Act.put, List.setIfInBounds_toArray, List.set_cons_zero, List.set_cons_succ, i64_w, i32_w]
        rfl
      refine take_ (i := 5) (N := some 20) (v := ?_) (a' := ?_) #[true, false, true, true, true, true, false, false, false, false, false, false, false, false, false, false, false, false, false] rfl rfl (take_ofW HT_.out HW_.out (by kernel_rfl)) (fun _ _ _ h => h) (Or.inl ⟨by rfl, ?_⟩) hHeld ?_ ?_
      rotate_left
      · rintro w' ⟨s0, s1, s2, s3⟩
        go_simp
        with_reducible rfl
      rotate_left
      · simp only [Act.put, List.setIfInBounds_toArray, List.set_cons_zero, List.set_cons_succ, i64_w, i32_w]
        rfl
      refine pure_ (i := 7) (N := some 22) (v := ?_) (a' := ?_) #[true, false, true, true, true, true, false, true, false, false, false, false, false, false, false, false, false, false, false] rfl rfl (any_of HT_.out (by kernel_rfl)) (fun _ _ _ h => h) (Or.inl ⟨by rfl, ?_⟩) ?_ ?_
      rotate_left
      · intro w'
        go_simp
        with_reducible rfl
      rotate_left
      · simp only [Act.put, List.setIfInBounds_toArray, List.set_cons_zero, List.set_cons_succ, i64_w, i32_w]
        rfl
      refine pure_ (i := 8) (N := some 23) (v := ?_) (a' := ?_) #[true, false, true, true, true, true, false, true, true, false, false, false, false, false, false, false, false, false, false] rfl rfl (any_of HT_.out (by kernel_rfl)) (fun _ _ _ h => h) (Or.inl ⟨by rfl, ?_⟩) ?_ ?_
      rotate_left
      · intro w'
        go_simp
        with_reducible rfl
      rotate_left
      · simp only [Act.put, List.setIfInBounds_toArray, List.set_cons_zero, List.set_cons_succ, i64_w, i32_w]
        rfl
      refine pure_ (i := 9) (N := some 24) (v := ?_) (a' := ?_) #[true, false, true, true, true, true, false, true, true, true, false, false, false, false, false, false, false, false, false] rfl rfl (any_of HT_.out (by kernel_rfl)) (fun _ _ _ h => h) (Or.inl ⟨by rfl, ?_⟩) ?_ ?_
      rotate_left
      · intro w'
        go_simp
        with_reducible rfl
      rotate_left
      · simp only [Act.put, List.setIfInBounds_toArray, List.set_cons_zero, List.set_cons_succ, i64_w, i32_w]
        rfl
      refine take_ (i := 10) (N := some 25) (v := ?_) (a' := ?_) #[true, false, true, true, true, true, false, true, true, true, true, false, false, false, false, false, false, false, false] rfl rfl (take_ofW HT_.out HW_.out (by kernel_rfl)) (fun _ _ _ h => h) (Or.inl ⟨by rfl, ?_⟩) hHeld ?_ ?_
      rotate_left
      · rintro w' ⟨s0, s1, s2, s3⟩
        go_simp
        with_reducible rfl
      rotate_left
      · simp only [Act.put, List.setIfInBounds_toArray, List.set_cons_zero, List.set_cons_succ, i64_w, i32_w]
        rfl
      refine pure_ (i := 11) (N := some 26) (v := ?_) (a' := ?_) #[true, false, true, true, true, true, false, true, true, true, true, true, false, false, false, false, false, false, false] rfl rfl (any_of HT_.out (by kernel_rfl)) (fun _ _ _ h => h) (Or.inl ⟨by rfl, ?_⟩) ?_ ?_
      rotate_left
      · intro w'
        go_simp
        with_reducible rfl
      rotate_left
      · simp only [Act.put, List.setIfInBounds_toArray, List.set_cons_zero, List.set_cons_succ, i64_w, i32_w]
        rfl
      refine pure_ (i := 12) (N := some 27) (v := ?_) (a' := ?_) #[true, false, true, true, true, true, false, true, true, true, true, true, true, false, false, false, false, false, false] rfl rfl (any_of HT_.out (by kernel_rfl)) (fun _ _ _ h => h) (Or.inl ⟨by rfl, ?_⟩) ?_ ?_
      rotate_left
      · intro w'
        go_simp
        with_reducible rfl
      rotate_left
      · simp only [Act.put, List.setIfInBounds_toArray, List.set_cons_zero, List.set_cons_succ, i64_w, i32_w]
        rfl
      refine take_ (i := 13) (N := some 28) (v := ?_) (a' := ?_) #[true, false, true, true, true, true, false, true, true, true, true, true, true, true, false, false, false, false, false] rfl rfl (take_ofW HT_.out HW_.out (by kernel_rfl)) (fun _ _ _ h => h) (Or.inl ⟨by rfl, ?_⟩) hHeld ?_ ?_
      rotate_left
      · rintro w' ⟨s0, s1, s2, s3⟩
        go_simp
        with_reducible rfl
      rotate_left
      · simp only [Act.put, List.setIfInBounds_toArray, List.set_cons_zero, List.set_cons_succ, i64_w, i32_w]
        rfl
      refine two_ (i := 1) (j := 14) (Ni := some 16) (Nj := some 29) #[true, true, true, true, true, true, false, true, true, true, true, true, true, true, false, false, false, false, false] #[true, false, true, true, true, true, false, true, true, true, true, true, true, true, true, false, false, false, false] rfl rfl rfl rfl (two_of HT_.out (by kernel_rfl)) (by decide) (by decide) (fun K hK => ?_) (fun K hK => ?_)
      · skip
        refine Kd.R_lit_step kDf (w0 := w.drew) w.drew.heap.size 61 (by rfl) (N := 16) rfl (xs := ([] : List Fl)) (inner := []) (ok := fun _ => True) (okp := fun _ => True) (by first | (go_simp; done) | (go_simp; rfl)) (Reps.none _ _) (fun _ hk => hk) trivial HB.out HB.out.size (by simp) ?_
        intro v16 w3 ho hb hg hn
        have H16 := Aside0.mk ho
        (try (have HNE := Aside0.mk (HC29.out.ne hn); have n1 := Aside0.mk (HC29.out.grown hg (by simp)); clear HC29; have HC29 := n1; clear n1))
        have n0 := Aside0.mk hb
        clear HB ho hb hg hn
        have HB := n0
        clear n0
        obtain ⟨A16, c16, e16⟩ := Kd.R_slice H16.out
        subst e16
        refine hK.out _ _ (HSB.out _ HB.out) (fun hHeld => ?_)
        clear hK K
        refine norm_ (a' := ?_) ?_ ?_
        rotate_left
        · show Act.put _ (some 16) _ = _
          simp only [Act.put, List.setIfInBounds_toArray, List.set_cons_zero, List.set_cons_succ, i64_w, i32_w]
          rfl
        refine two_ (i := 6) (j := 14) (Ni := some 21) (Nj := some 29) #[true, true, true, true, true, true, true, true, true, true, true, true, true, true, false, false, false, false, false] #[true, true, true, true, true, true, false, true, true, true, true, true, true, true, true, false, false, false, false] rfl rfl rfl rfl (two_of HT_.out (by kernel_rfl)) (by decide) (by decide) (fun K hK => ?_) (fun K hK => ?_)
        · skip
          refine Kd.R_append_rows_step kDf (w0 := w.drew) w.drew.heap.size (by rfl) (.tmp 16) (.tmp 20) 55 61 (.agg #[.string ⟨#[]⟩, .string ⟨#[]⟩, .int .i64 0]) 40 rfl Try.underlying55 df_info rfl (by decide) (by omega) (.slice A16 ([] : List Fl).length c16) [] L (some ⟨gr, 0, none⟩) nL cf (fun _ => True) (fun _ => False) (by first | rfl | (go_simp; done)) (by first | rfl | (go_simp; done)) H16.out (by rw [HNL.out]; exact (Kd.R_reads' (Kd.R_below HD.out.row HB.out)).2.2) (fun f cs hk => kDf_KM f cs hk) (fun _ hk => hk.elim) (fun _ _ => trivial) HB.out HB.out.size (by have := HLT.out; have := HNL.out; simp only [List.length_nil]; omega) ?_
          intro v21 w4 ho hb hg hat
          have H21 := Aside0.mk ho
          (try (have n1 := Aside0.mk (HC29.out.grown hg HNE.out); clear HC29; have HC29 := n1; clear n1))
          have n0 := Aside0.mk hb
          clear HB ho hb hg hat H16
          have HB := n0
          clear n0
          obtain ⟨A21, c21, e21⟩ := Kd.R_slice H21.out
          obtain ⟨n21, hn21⟩ : ∃ n21, n21 = ([] ++ L).length := ⟨_, rfl⟩
          rw [← hn21] at e21
          subst e21
          clear hn21
          refine hK.out _ _ (HSB.out _ HB.out) (fun hHeld => ?_)
          clear hK K
          refine norm_ (a' := ?_) ?_ ?_
          rotate_left
          · show Act.put _ (some 21) _ = _
            simp only [Act.put, List.setIfInBounds_toArray, List.set_cons_zero, List.set_cons_succ, i64_w, i32_w]
            rfl
          refine one_ (i := 14) (N := some 29) #[true, true, true, true, true, true, true, true, true, true, true, true, true, true, true, false, false, false, false] rfl rfl (one_of HT_.out (by kernel_rfl)) (by decide) (fun K hK => ?_)
          have HC29 := Aside0.mk (lit29 HB.out f s1 s2 sn HSS.out.1 HSS.out.2.1 HSS.out.2.2)
          (try (have HNE := Aside0.mk (new_ne H16.out); have n1 := Aside0.mk (Kd.R_alloc H16.out (.cells #[.string s1, .string s2, .int .i64 sn] 61)); clear H16; have H16 := n1; clear n1))
          (try (have n1 := Aside0.mk (Kd.R_alloc H21.out (.cells #[.string s1, .string s2, .int .i64 sn] 61)); clear H21; have H21 := n1; clear n1))
          have n0 := Aside0.mk (HB.out.alloc HB.out.size (.cells #[.string s1, .string s2, .int .i64 sn] 61))
          clear HB
          have HB := n0
          clear n0
          refine value_ (w1 := ?_) (v := ?_) (by rfl) rfl ?_ ?_
          rotate_left 2
          · go_simp
            constructor
            · rfl
            · rfl
          refine hK.out _ _ (HSB.out _ HB.out) (fun hHeld => ?_)
          clear hK K
          refine norm_ (a' := ?_) ?_ ?_
          rotate_left
          · show Act.put _ (some 29) _ = _
            simp only [Act.put, List.setIfInBounds_toArray, List.set_cons_zero, List.set_cons_succ, i64_w, i32_w]
            rfl
          refine one_ (i := 15) (N := some 30) #[true, true, true, true, true, true, true, true, true, true, true, true, true, true, true, true, false, false, false] rfl rfl (one_of HT_.out (by kernel_rfl)) (by decide) (fun K hK => ?_)
          refine Kd.R_append_rows_step kDf (w0 := w.drew) w.drew.heap.size (by rfl) (.tmp 21) (.tmp 29) 55 61 (.agg #[.string ⟨#[]⟩, .string ⟨#[]⟩, .int .i64 0]) 40 rfl Try.underlying55 df_info rfl (by decide) (by omega) (.slice A21 n21 c21) ([] ++ L) [f] _ 1 1 (fun _ => True) (fun _ => False) (by first | rfl | (go_simp; done)) (by first | rfl | (go_simp; done)) H21.out HC29.out.c (fun f cs hk => kDf_KM f cs hk) (fun _ hk => hk.elim) (fun _ _ => trivial) HB.out HB.out.size (by have := HLT.out; simp only [List.length_append, List.length_nil]; omega) ?_
          intro v30 w5 ho hb hg hat
          have HO := Aside0.mk ho
          have n0 := Aside0.mk hb
          clear HB ho hb hg hat H21 HC29
          (try clear HNE)
          have HB := n0
          clear n0
          obtain ⟨A30, c30, e30⟩ := Kd.R_slice HO.out
          obtain ⟨n30, hn30⟩ : ∃ n30, n30 = (([] ++ L) ++ [f]).length := ⟨_, rfl⟩
          rw [← hn30] at e30
          subst e30
          clear hn30
          refine hK.out _ _ (HSB.out _ HB.out) (fun hHeld => ?_)
          clear hK K
          refine norm_ (a' := ?_) ?_ ?_
          rotate_left
          · show Act.put _ (some 30) _ = _
            simp only [Act.put, List.setIfInBounds_toArray, List.set_cons_zero, List.set_cons_succ, i64_w, i32_w]
            rfl
          refine pure_ (i := 16) (N := some 31) (v := ?_) (a' := ?_) #[true, true, true, true, true, true, true, true, true, true, true, true, true, true, true, true, true, false, false] rfl rfl (any_of HT_.out (by kernel_rfl)) (fun _ _ _ h => h) (Or.inl ⟨by rfl, ?_⟩) ?_ ?_
          rotate_left
          · intro w'
            go_simp
            with_reducible rfl
          rotate_left
          · simp only [Act.put, List.setIfInBounds_toArray, List.set_cons_zero, List.set_cons_succ, i64_w, i32_w]
            rfl
          refine pure_ (i := 17) (N := some 32) (v := ?_) (a' := ?_) #[true, true, true, true, true, true, true, true, true, true, true, true, true, true, true, true, true, true, false] rfl rfl (any_of HT_.out (by kernel_rfl)) (fun _ _ _ h => h) (Or.inl ⟨by rfl, ?_⟩) ?_ ?_
          rotate_left
          · intro w'
            go_simp
            with_reducible rfl
          rotate_left
          · simp only [Act.put, List.setIfInBounds_toArray, List.set_cons_zero, List.set_cons_succ, i64_w, i32_w]
            rfl
          refine last_ (i := 18) (N := none) #[true, true, true, true, true, true, true, true, true, true, true, true, true, true, true, true, true, true, true] rfl rfl (one_of HT_.out (by kernel_rfl)) (by decide) (fun K hK => ?_)
          have hcg := (HSB.out _ HB.out).1
          have hfz := blk_frozen ((HB.out.block h HD.out.lt).trans HD.out.blk) 2
          refine skip_ (w1 := ?_) (by rfl) rfl ?_ ?_
          rotate_left 1
          · go_simp
            rfl
          refine hK.out _ _ ?_
          clear hK K
          refine done_ (done_of HT_.out (by kernel_rfl)) ?_
          clear hcg hfz
          have HA := Aside0.mk (HD.out.rowed (L' := L ++ [f]) (w2 := w5) (Kd.R_lower HO.out (by have := HD.out.low; have := HD.out.lt; omega)) (grownBy_below HB.out) (by
            cases A30 with
            | none => exact .inr (.inr rfl)
            | some a => exact .inr (.inl ⟨a.block, rfl, Kd.R_base HO.out a.block rfl⟩)))
          go_wp2
          go_ret
          exact ⟨by simp, _, HA.out.1, (Fr.of_below (below_drew1 (Below.refl _ _))).seq HA.out.2.1, HA.out.2.2⟩
        · skip
          have HC29 := Aside0.mk (lit29 HB.out f s1 s2 sn HSS.out.1 HSS.out.2.1 HSS.out.2.2)
          (try (have HNE := Aside0.mk (new_ne H16.out); have n1 := Aside0.mk (Kd.R_alloc H16.out (.cells #[.string s1, .string s2, .int .i64 sn] 61)); clear H16; have H16 := n1; clear n1))
          (try (have n1 := Aside0.mk (Kd.R_alloc H21.out (.cells #[.string s1, .string s2, .int .i64 sn] 61)); clear H21; have H21 := n1; clear n1))
          have n0 := Aside0.mk (HB.out.alloc HB.out.size (.cells #[.string s1, .string s2, .int .i64 sn] 61))
          clear HB
          have HB := n0
          clear n0
          refine value_ (w1 := ?_) (v := ?_) (by rfl) rfl ?_ ?_
          rotate_left 2
          · go_simp
            constructor
            · rfl
            · rfl
          refine hK.out _ _ (HSB.out _ HB.out) (fun hHeld => ?_)
          clear hK K
          refine norm_ (a' := ?_) ?_ ?_
          rotate_left
          · show Act.put _ (some 29) _ = _
            simp only [Act.put, List.setIfInBounds_toArray, List.set_cons_zero, List.set_cons_succ, i64_w, i32_w]
            rfl
          refine one_ (i := 6) (N := some 21) #[true, true, true, true, true, true, true, true, true, true, true, true, true, true, true, false, false, false, false] rfl rfl (one_of HT_.out (by kernel_rfl)) (by decide) (fun K hK => ?_)
          refine Kd.R_append_rows_step kDf (w0 := w.drew) w.drew.heap.size (by rfl) (.tmp 16) (.tmp 20) 55 61 (.agg #[.string ⟨#[]⟩, .string ⟨#[]⟩, .int .i64 0]) 40 rfl Try.underlying55 df_info rfl (by decide) (by omega) (.slice A16 ([] : List Fl).length c16) [] L (some ⟨gr, 0, none⟩) nL cf (fun _ => True) (fun _ => False) (by first | rfl | (go_simp; done)) (by first | rfl | (go_simp; done)) H16.out (by rw [HNL.out]; exact (Kd.R_reads' (Kd.R_below HD.out.row HB.out)).2.2) (fun f cs hk => kDf_KM f cs hk) (fun _ hk => hk.elim) (fun _ _ => trivial) HB.out HB.out.size (by have := HLT.out; have := HNL.out; simp only [List.length_nil]; omega) ?_
          intro v21 w4 ho hb hg hat
          have H21 := Aside0.mk ho
          (try (have n1 := Aside0.mk (HC29.out.grown hg HNE.out); clear HC29; have HC29 := n1; clear n1))
          have n0 := Aside0.mk hb
          clear HB ho hb hg hat H16
          have HB := n0
          clear n0
          obtain ⟨A21, c21, e21⟩ := Kd.R_slice H21.out
          obtain ⟨n21, hn21⟩ : ∃ n21, n21 = ([] ++ L).length := ⟨_, rfl⟩
          rw [← hn21] at e21
          subst e21
          clear hn21
          refine hK.out _ _ (HSB.out _ HB.out) (fun hHeld => ?_)
          clear hK K
          refine norm_ (a' := ?_) ?_ ?_
          rotate_left
          · show Act.put _ (some 21) _ = _
            simp only [Act.put, List.setIfInBounds_toArray, List.set_cons_zero, List.set_cons_succ, i64_w, i32_w]
            rfl
          refine one_ (i := 15) (N := some 30) #[true, true, true, true, true, true, true, true, true, true, true, true, true, true, true, true, false, false, false] rfl rfl (one_of HT_.out (by kernel_rfl)) (by decide) (fun K hK => ?_)
          refine Kd.R_append_rows_step kDf (w0 := w.drew) w.drew.heap.size (by rfl) (.tmp 21) (.tmp 29) 55 61 (.agg #[.string ⟨#[]⟩, .string ⟨#[]⟩, .int .i64 0]) 40 rfl Try.underlying55 df_info rfl (by decide) (by omega) (.slice A21 n21 c21) ([] ++ L) [f] _ 1 1 (fun _ => True) (fun _ => False) (by first | rfl | (go_simp; done)) (by first | rfl | (go_simp; done)) H21.out HC29.out.c (fun f cs hk => kDf_KM f cs hk) (fun _ hk => hk.elim) (fun _ _ => trivial) HB.out HB.out.size (by have := HLT.out; simp only [List.length_append, List.length_nil]; omega) ?_
          intro v30 w5 ho hb hg hat
          have HO := Aside0.mk ho
          have n0 := Aside0.mk hb
          clear HB ho hb hg hat H21 HC29
          (try clear HNE)
          have HB := n0
          clear n0
          obtain ⟨A30, c30, e30⟩ := Kd.R_slice HO.out
          obtain ⟨n30, hn30⟩ : ∃ n30, n30 = (([] ++ L) ++ [f]).length := ⟨_, rfl⟩
          rw [← hn30] at e30
          subst e30
          clear hn30
          refine hK.out _ _ (HSB.out _ HB.out) (fun hHeld => ?_)
          clear hK K
          refine norm_ (a' := ?_) ?_ ?_
          rotate_left
          · show Act.put _ (some 30) _ = _
            simp only [Act.put, List.setIfInBounds_toArray, List.set_cons_zero, List.set_cons_succ, i64_w, i32_w]
            rfl
          refine pure_ (i := 16) (N := some 31) (v := ?_) (a' := ?_) #[true, true, true, true, true, true, true, true, true, true, true, true, true, true, true, true, true, false, false] rfl rfl (any_of HT_.out (by kernel_rfl)) (fun _ _ _ h => h) (Or.inl ⟨by rfl, ?_⟩) ?_ ?_
          rotate_left
          · intro w'
            go_simp
            with_reducible rfl
          rotate_left
          · simp only [Act.put, List.setIfInBounds_toArray, List.set_cons_zero, List.set_cons_succ, i64_w, i32_w]
            rfl
          refine pure_ (i := 17) (N := some 32) (v := ?_) (a' := ?_) #[true, true, true, true, true, true, true, true, true, true, true, true, true, true, true, true, true, true, false] rfl rfl (any_of HT_.out (by kernel_rfl)) (fun _ _ _ h => h) (Or.inl ⟨by rfl, ?_⟩) ?_ ?_
          rotate_left
          · intro w'
            go_simp
            with_reducible rfl
          rotate_left
          · simp only [Act.put, List.setIfInBounds_toArray, List.set_cons_zero, List.set_cons_succ, i64_w, i32_w]
            rfl
          refine last_ (i := 18) (N := none) #[true, true, true, true, true, true, true, true, true, true, true, true, true, true, true, true, true, true, true] rfl rfl (one_of HT_.out (by kernel_rfl)) (by decide) (fun K hK => ?_)
          have hcg := (HSB.out _ HB.out).1
          have hfz := blk_frozen ((HB.out.block h HD.out.lt).trans HD.out.blk) 2
          refine skip_ (w1 := ?_) (by rfl) rfl ?_ ?_
          rotate_left 1
          · go_simp
            rfl
          refine hK.out _ _ ?_
          clear hK K
          refine done_ (done_of HT_.out (by kernel_rfl)) ?_
          clear hcg hfz
          have HA := Aside0.mk (HD.out.rowed (L' := L ++ [f]) (w2 := w5) (Kd.R_lower HO.out (by have := HD.out.low; have := HD.out.lt; omega)) (grownBy_below HB.out) (by
            cases A30 with
            | none => exact .inr (.inr rfl)
            | some a => exact .inr (.inl ⟨a.block, rfl, Kd.R_base HO.out a.block rfl⟩)))
          go_wp2
          go_ret
          exact ⟨by simp, _, HA.out.1, (Fr.of_below (below_drew1 (Below.refl _ _))).seq HA.out.2.1, HA.out.2.2⟩
      · skip
        have HC29 := Aside0.mk (lit29 HB.out f s1 s2 sn HSS.out.1 HSS.out.2.1 HSS.out.2.2)
        (try (have HNE := Aside0.mk (new_ne H16.out); have n1 := Aside0.mk (Kd.R_alloc H16.out (.cells #[.string s1, .string s2, .int .i64 sn] 61)); clear H16; have H16 := n1; clear n1))
        (try (have n1 := Aside0.mk (Kd.R_alloc H21.out (.cells #[.string s1, .string s2, .int .i64 sn] 61)); clear H21; have H21 := n1; clear n1))
        have n0 := Aside0.mk (HB.out.alloc HB.out.size (.cells #[.string s1, .string s2, .int .i64 sn] 61))
        clear HB
        have HB := n0
        clear n0
        refine value_ (w1 := ?_) (v := ?_) (by rfl) rfl ?_ ?_
        rotate_left 2
        · go_simp
          constructor
          · rfl
          · rfl
        refine hK.out _ _ (HSB.out _ HB.out) (fun hHeld => ?_)
        clear hK K
        refine norm_ (a' := ?_) ?_ ?_
        rotate_left
        · show Act.put _ (some 29) _ = _
          simp only [Act.put, List.setIfInBounds_toArray, List.set_cons_zero, List.set_cons_succ, i64_w, i32_w]
          rfl
        refine one_ (i := 1) (N := some 16) #[true, true, true, true, true, true, false, true, true, true, true, true, true, true, true, false, false, false, false] rfl rfl (one_of HT_.out (by kernel_rfl)) (by decide) (fun K hK => ?_)
        refine Kd.R_lit_step kDf (w0 := w.drew) w.drew.heap.size 61 (by rfl) (N := 16) rfl (xs := ([] : List Fl)) (inner := []) (ok := fun _ => True) (okp := fun _ => True) (by first | (go_simp; done) | (go_simp; rfl)) (Reps.none _ _) (fun _ hk => hk) trivial HB.out HB.out.size (by simp) ?_
        intro v16 w3 ho hb hg hn
        have H16 := Aside0.mk ho
        (try (have HNE := Aside0.mk (HC29.out.ne hn); have n1 := Aside0.mk (HC29.out.grown hg (by simp)); clear HC29; have HC29 := n1; clear n1))
        have n0 := Aside0.mk hb
        clear HB ho hb hg hn
        have HB := n0
        clear n0
        obtain ⟨A16, c16, e16⟩ := Kd.R_slice H16.out
        subst e16
        refine hK.out _ _ (HSB.out _ HB.out) (fun hHeld => ?_)
        clear hK K
        refine norm_ (a' := ?_) ?_ ?_
        rotate_left
        · show Act.put _ (some 16) _ = _
          simp only [Act.put, List.setIfInBounds_toArray, List.set_cons_zero, List.set_cons_succ, i64_w, i32_w]
          rfl
        refine one_ (i := 6) (N := some 21) #[true, true, true, true, true, true, true, true, true, true, true, true, true, true, true, false, false, false, false] rfl rfl (one_of HT_.out (by kernel_rfl)) (by decide) (fun K hK => ?_)
        refine Kd.R_append_rows_step kDf (w0 := w.drew) w.drew.heap.size (by rfl) (.tmp 16) (.tmp 20) 55 61 (.agg #[.string ⟨#[]⟩, .string ⟨#[]⟩, .int .i64 0]) 40 rfl Try.underlying55 df_info rfl (by decide) (by omega) (.slice A16 ([] : List Fl).length c16) [] L (some ⟨gr, 0, none⟩) nL cf (fun _ => True) (fun _ => False) (by first | rfl | (go_simp; done)) (by first | rfl | (go_simp; done)) H16.out (by rw [HNL.out]; exact (Kd.R_reads' (Kd.R_below HD.out.row HB.out)).2.2) (fun f cs hk => kDf_KM f cs hk) (fun _ hk => hk.elim) (fun _ _ => trivial) HB.out HB.out.size (by have := HLT.out; have := HNL.out; simp only [List.length_nil]; omega) ?_
        intro v21 w4 ho hb hg hat
        have H21 := Aside0.mk ho
        (try (have n1 := Aside0.mk (HC29.out.grown hg HNE.out); clear HC29; have HC29 := n1; clear n1))
        have n0 := Aside0.mk hb
        clear HB ho hb hg hat H16
        have HB := n0
        clear n0
        obtain ⟨A21, c21, e21⟩ := Kd.R_slice H21.out
        obtain ⟨n21, hn21⟩ : ∃ n21, n21 = ([] ++ L).length := ⟨_, rfl⟩
        rw [← hn21] at e21
        subst e21
        clear hn21
        refine hK.out _ _ (HSB.out _ HB.out) (fun hHeld => ?_)
        clear hK K
        refine norm_ (a' := ?_) ?_ ?_
        rotate_left
        · show Act.put _ (some 21) _ = _
          simp only [Act.put, List.setIfInBounds_toArray, List.set_cons_zero, List.set_cons_succ, i64_w, i32_w]
          rfl
        refine one_ (i := 15) (N := some 30) #[true, true, true, true, true, true, true, true, true, true, true, true, true, true, true, true, false, false, false] rfl rfl (one_of HT_.out (by kernel_rfl)) (by decide) (fun K hK => ?_)
        refine Kd.R_append_rows_step kDf (w0 := w.drew) w.drew.heap.size (by rfl) (.tmp 21) (.tmp 29) 55 61 (.agg #[.string ⟨#[]⟩, .string ⟨#[]⟩, .int .i64 0]) 40 rfl Try.underlying55 df_info rfl (by decide) (by omega) (.slice A21 n21 c21) ([] ++ L) [f] _ 1 1 (fun _ => True) (fun _ => False) (by first | rfl | (go_simp; done)) (by first | rfl | (go_simp; done)) H21.out HC29.out.c (fun f cs hk => kDf_KM f cs hk) (fun _ hk => hk.elim) (fun _ _ => trivial) HB.out HB.out.size (by have := HLT.out; simp only [List.length_append, List.length_nil]; omega) ?_
        intro v30 w5 ho hb hg hat
        have HO := Aside0.mk ho
        have n0 := Aside0.mk hb
        clear HB ho hb hg hat H21 HC29
        (try clear HNE)
        have HB := n0
        clear n0
        obtain ⟨A30, c30, e30⟩ := Kd.R_slice HO.out
        obtain ⟨n30, hn30⟩ : ∃ n30, n30 = (([] ++ L) ++ [f]).length := ⟨_, rfl⟩
        rw [← hn30] at e30
        subst e30
        clear hn30
        refine hK.out _ _ (HSB.out _ HB.out) (fun hHeld => ?_)
        clear hK K
        refine norm_ (a' := ?_) ?_ ?_
        rotate_left
        · show Act.put _ (some 30) _ = _
          simp only [Act.put, List.setIfInBounds_toArray, List.set_cons_zero, List.set_cons_succ, i64_w, i32_w]
          rfl
        refine pure_ (i := 16) (N := some 31) (v := ?_) (a' := ?_) #[true, true, true, true, true, true, true, true, true, true, true, true, true, true, true, true, true, false, false] rfl rfl (any_of HT_.out (by kernel_rfl)) (fun _ _ _ h => h) (Or.inl ⟨by rfl, ?_⟩) ?_ ?_
        rotate_left
        · intro w'
          go_simp
          with_reducible rfl
        rotate_left
        · simp only [Act.put, List.setIfInBounds_toArray, List.set_cons_zero, List.set_cons_succ, i64_w, i32_w]
          rfl
        refine pure_ (i := 17) (N := some 32) (v := ?_) (a' := ?_) #[true, true, true, true, true, true, true, true, true, true, true, true, true, true, true, true, true, true, false] rfl rfl (any_of HT_.out (by kernel_rfl)) (fun _ _ _ h => h) (Or.inl ⟨by rfl, ?_⟩) ?_ ?_
        rotate_left
        · intro w'
          go_simp
          with_reducible rfl
        rotate_left
        · simp only [Act.put, List.setIfInBounds_toArray, List.set_cons_zero, List.set_cons_succ, i64_w, i32_w]
          rfl
        refine last_ (i := 18) (N := none) #[true, true, true, true, true, true, true, true, true, true, true, true, true, true, true, true, true, true, true] rfl rfl (one_of HT_.out (by kernel_rfl)) (by decide) (fun K hK => ?_)
        have hcg := (HSB.out _ HB.out).1
        have hfz := blk_frozen ((HB.out.block h HD.out.lt).trans HD.out.blk) 2
        refine skip_ (w1 := ?_) (by rfl) rfl ?_ ?_
        rotate_left 1
        · go_simp
          rfl
        refine hK.out _ _ ?_
        clear hK K
        refine done_ (done_of HT_.out (by kernel_rfl)) ?_
        clear hcg hfz
        have HA := Aside0.mk (HD.out.rowed (L' := L ++ [f]) (w2 := w5) (Kd.R_lower HO.out (by have := HD.out.low; have := HD.out.lt; omega)) (grownBy_below HB.out) (by
          cases A30 with
          | none => exact .inr (.inr rfl)
          | some a => exact .inr (.inl ⟨a.block, rfl, Kd.R_base HO.out a.block rfl⟩)))
        go_wp2
        go_ret
        exact ⟨by simp, _, HA.out.1, (Fr.of_below (below_drew1 (Below.refl _ _))).seq HA.out.2.1, HA.out.2.2⟩
    · have e1 : twE L.length k = 8 := by unfold twE; rw [if_pos hh, if_neg hlt]
      have e2 : twL k L = L := by unfold twL; rw [if_neg (by rw [e1]; decide)]
      rw [e1, e2]
      have hlb : decide (4096 ≤ (L.length : Int)) = true := decide_eq_true (by omega)
      obtain ⟨Af, cf, e⟩ := d.slice
      subst e
      have hc2 : w.cell? ⟨h, 2, none⟩ = some (.slice Af L.length cf) := blk_cell d.blk 2
      have HHAS := Aside0.mk (dhas_calls d k)
      rw [hE] at HHAS
      have HD := Aside0.mk d
      clear d e1 e2 hh hE
      go_enter Try.func32, Try.ntmps32
      go_wp2_with (go_at_call 48; refine HHAS.out.mono ?_; rintro e w1 ⟨rfl, rfl⟩)
      go_ret
      exact ⟨by simp, _, HD.out, Fr.refl _ _ _, Newer.refl _ _⟩
  · have e1 : twE L.length k = 9 := by unfold twE; rw [if_neg hh]
    have e2 : twL k L = L := by unfold twL; rw [if_neg (by rw [e1]; decide)]
    have hE : decide (hasE L.length k = 0) = false := decide_eq_false hh
    rw [e1, e2]
    have HHAS := Aside0.mk (dhas_calls d k)
    rw [hE] at HHAS
    have HD := Aside0.mk d
    clear d e1 e2 hh hE
    go_enter Try.func32, Try.ntmps32
    go_wp2_with (go_at_call 48; refine HHAS.out.mono ?_; rintro e w1 ⟨rfl, rfl⟩)
    go_ret
    exact ⟨by simp, _, HD.out, Fr.refl _ _ _, Newer.refl _ _⟩
end Go.Proofs.Ytfplmoeahbjfmaa.P

-- YtfplmoeahbjfmaaPDTake2
namespace Go.Proofs.Ytfplmoeahbjfmaa.P
open Go Go.Proofs Go.RowKit Go.Shelf Go.Proofs.YtfplmoeahbjfmaaW.PrintWords Go.Proofs.YtfplmoeahbjfmaaW.PrintLast Go.Proofs.YtfplmoeahbjfmaaW.PrintMore
set_option linter.unusedVariables false
set_option linter.unusedSimpArgs false

variable {w w' w2 : World} {n₀ g h : Nat} {age now : Int} {v v' vd : Value} {L L' : List Fl}
def DTakePost (w : World) (n₀ h : Nat) (age now : Int) (v : Value) (L : List Fl) (k : Int) (e : Ending) (w' : World) : Prop :=
  e = .returned (.tuple #[.agg #[.string (strOfNums (tkF k L).1), .string (strOfNums (tkF k L).2.1), .int .i64 (tkF k L).2.2], .int .i64 (hasE L.length k)]) ∧ ∃ v', DS w' n₀ h age now v' (tkL k L) ∧ Fr h v w w' ∧ Newer w v v'
def dtake4.T : Bool × List (List Nat × List Nat) := (true, [([], []), ([], []), ([], []), ([2], [2]), ([3], [3]), ([4], [4]), ([], []), ([5, 6], [5, 6]), ([1, 7], [1, 7]), ([], []), ([9], [9]), ([10], [10]), ([11], [11]), ([], []), ([13], [13]), ([12, 14], [12, 14]), ([8, 15, 8], [8, 15]), ([0, 0, 1, 2, 3, 4, 5, 6, 7, 8, 9, 10, 11, 12, 13, 14, 15, 16], [0]), ([17, 0, 1, 2, 3, 4, 5, 6, 7, 8, 9, 10, 11, 12, 13, 14, 15, 16], [17]), ([18, 16, 16, 0, 1, 2, 3, 4, 5, 6, 7, 8, 9, 10, 11, 12, 13, 14, 15, 16], [16, 18])])
def dtake4.B : List Nat := [0, 0, 0, 4, 12, 28, 0, 124, 254, 0, 512, 1536, 3584, 0, 8192, 32256, 65534, 131071, 262143, 524287]
theorem dtake4.tab : rtab .any (opsOf Try.f31 4) = dtake4.T := by kernel_rfl
theorem dtake4.bits : waitsOk dtake4.T.2 dtake4.B = true := by kernel_rfl
set_option maxRecDepth 100000 in
set_option maxHeartbeats 8000000 in
theorem dtake_calls (d : DS w n₀ h age now v L) (k : Int) (h5 : L.length ≤ 5000) :
    Calls Try.prog 31 #[.pointer (some ⟨h, 0, none⟩), .int .i64 k] w (DTakePost w n₀ h age now v L k) := by
  have hba := below_alloc (Below.refl w.heap.size w) (.cells #[.string ⟨#[]⟩, .string ⟨#[]⟩, .int .i64 0] 61)
  have d4 := d.below hba
  have b4 : (w.alloc (.cells #[.string ⟨#[]⟩, .string ⟨#[]⟩, .int .i64 0] 61)).heap[w.heap.size]? = some (.cells #[.string ⟨#[]⟩, .string ⟨#[]⟩, .int .i64 0] 61 (0, 0)) := blk_new _ _
  have HHAS := Aside0.mk (dhas_calls d4 k)
  by_cases hh : hasE L.length k = 0
  · have hk : 0 ≤ k ∧ k < L.length := by unfold hasE at hh; split at hh; assumption; omega
    obtain ⟨i, rfl⟩ := Int.eq_ofNat_of_zero_le hk.1
    have hil : i < L.length := by omega
    rw [decide_eq_true hh] at HHAS
    obtain ⟨Af, cf, e⟩ := d.slice
    subst e
    obtain ⟨gr, cap, eg, _, _, _⟩ := Kd.R_form d.row (by omega)
    injection eg with eA _ eC
    subst eA
    subst eC
    obtain ⟨f, hLi, hf0, hf1, hf2⟩ := df_get d4.row i hil
    have hfe : L.getD i ([], [], 0) = f := by rw [List.getD_eq_getElem?_getD, hLi]; rfl
    have e1 : tkF (i : Int) L = f := by unfold tkF; rw [if_pos hh, Int.toNat_natCast, hfe]
    have e2 : tkL (i : Int) L = L.eraseIdx i := by unfold tkL; rw [if_pos hh, Int.toNat_natCast]
    have hc2 : (w.alloc (.cells #[.string ⟨#[]⟩, .string ⟨#[]⟩, .int .i64 0] 61)).cell? ⟨h, 2, none⟩ = some (.slice (some ⟨gr, 0, none⟩) L.length cf) := blk_cell d4.blk 2
    have hcap : L.length ≤ cf := (Kd.R_reads' d.row).2.1
    obtain ⟨i0, hi, hz0, hsz, hz2⟩ := info_parts df_info
    have hct := cut_to (P := Try.prog) 55 61 .i64 Try.underlying55 hi (some ⟨gr, 0, none⟩) L.length cf (i : Int) (by omega) (by omega) hcap
    have hcf := cut_from (P := Try.prog) 55 61 .i64 Try.underlying55 hi 3 hsz (some ⟨gr, 0, none⟩) L.length cf ((i : Int) + 1) (by omega) (by omega)
    have ek : ((i : Int) + 1).toNat = i + 1 := by omega
    rw [Int.toNat_natCast] at hct
    rw [ek] at hcf
    obtain ⟨As, hAs⟩ : ∃ As, As = (if cf = i + 1 then some (⟨gr, 0, none⟩ : Addr) else (some (⟨gr, 0, none⟩ : Addr)).map (·.add ((i + 1) * 3))) := ⟨_, rfl⟩
    rw [← hAs] at hcf
    have HAs := Aside0.mk hAs
    obtain ⟨s1, hs1⟩ : ∃ s1, s1 = strOfNums f.1 := ⟨_, rfl⟩
    obtain ⟨s2, hs2⟩ : ∃ s2, s2 = strOfNums f.2.1 := ⟨_, rfl⟩
    obtain ⟨sn, hsn⟩ : ∃ sn, sn = f.2.2 := ⟨_, rfl⟩
    rw [← hs1] at hf0
    rw [← hs2] at hf1
    rw [← hsn] at hf2
    have HSS := Aside0.mk (And.intro hs1 (And.intro hs2 hsn))
    have HH := Aside0.mk (And.intro hh (And.intro e1 e2))
    have H5 := Aside0.mk h5
    have HD0 := Aside0.mk d
    obtain ⟨w2, hw2⟩ : ∃ w2, w2 = ((w.alloc (.cells #[.string ⟨#[]⟩, .string ⟨#[]⟩, .int .i64 0] 61)).alloc (.cells #[.string s1, .string s2, .int .i64 sn] 61)) := ⟨_, rfl⟩
    have hb12 := below_alloc (Below.refl (w.alloc (.cells #[.string ⟨#[]⟩, .string ⟨#[]⟩, .int .i64 0] 61)).heap.size (w.alloc (.cells #[.string ⟨#[]⟩, .string ⟨#[]⟩, .int .i64 0] 61))) (.cells #[.string s1, .string s2, .int .i64 sn] 61)
    rw [← hw2] at hb12
    have hD2 := d4.below hb12
    have hb02 := below_step hba hb12
    have h42 := (hb12.block w.heap.size (by rw [World.size_alloc]; omega)).trans b4
    have h72 : w2.heap[w.heap.size + 1]? = some (.cells #[.string s1, .string s2, .int .i64 sn] 61 (0, 0)) := by
      rw [hw2]
      have := blk_new (w.alloc (.cells #[.string ⟨#[]⟩, .string ⟨#[]⟩, .int .i64 0] 61)) (.cells #[.string s1, .string s2, .int .i64 sn] 61)
      rw [World.size_alloc] at this
      exact this
    have hz2' : w2.heap.size = w.heap.size + 2 := by rw [hw2, World.size_alloc, World.size_alloc]
    have hbd : Below w2.heap.size w2 w2.drew := below_drew1 (Below.refl _ _)
    obtain ⟨nL, hnL⟩ : ∃ nL, nL = L.length := ⟨_, rfl⟩
    have hS0 : w2.drew.cell? ⟨h, 2, none⟩ = some (.slice (some ⟨gr, 0, none⟩) L.length cf) := blk_cell hD2.blk 2
    rw [← hnL] at hc2 hil hcap hct hcf hS0
    have hn5 : nL ≤ 5000 := by rw [hnL]; exact h5
    have HNL := Aside0.mk hnL
    have HD := Aside0.mk (hD2.below hbd)
    have hhl : h < w2.drew.heap.size := hD2.lt
    have HSB := Aside0.mk (show ∀ w', Below w2.drew.heap.size w2.drew w' → w'.cell? ⟨h, 2, none⟩ = some (.slice (some ⟨gr, 0, none⟩) nL cf) from fun w' hb => (hb.cell (p := ⟨h, 2, none⟩) hhl).trans hS0)
    have HB := Aside0.mk (Below.refl w2.drew.heap.size w2.drew)
    have HW2 := Aside0.mk hw2
    have HBK := Aside0.mk (And.intro h42 (And.intro h72 hz2'))
    have HB02 := Aside0.mk hb02
    have hLT : L.length ≤ 5000 := h5
    have hTK : (L.take i).length = i := by rw [List.length_take]; omega
    have hDR : (L.drop (i + 1)).length = nL - (i + 1) := by rw [List.length_drop, hnL]
    have HTD := Aside0.mk (And.intro hTK (And.intro hDR (And.intro hcap hil)))
    have hwr : wrap64 ((i : Int) + 1) = (i : Int) + 1 := by unfold wrap64; omega
    have hwi : IntKind.i64.wrap ((i : Int) + 1) = (i : Int) + 1 := (i64_w _).trans hwr
    clear d d4 hba b4 hLi hfe e1 e2 hh hk hs1 hs2 hsn hAs ek hi hz0 hz2 hsz h5 hw2 hb12 hD2 hb02 h42 h72 hz2' hbd hnL hS0 hhl hLT hTK hDR
    go_enter Try.func31, Try.ntmps31
    go_wp2_with (go_at_call 48; refine HHAS.out.mono ?_; rintro e w1 ⟨rfl, rfl⟩)
    rw [← HW2.out]
    clear hc2 hf0 hf1 hf2
    refine start_ (n := 20) (S := (fun w' => w'.cell? ⟨h, 2, none⟩ = some (.slice (some ⟨gr, 0, none⟩) nL cf))) (ds := [19]) #[false, false, false, false, false, false, false, false, false, false, false, false, false, false, false, false, false, false, false, false] (by kernel_rfl) rfl rfl (HSB.out _ HB.out) (fun hHeld => ?_)
    refine with_tabW dtake4.tab dtake4.bits (fun HT_ HW_ => ?_)
    refine pure_ (i := 0) (N := some 19) (v := ?_) (a' := ?_) #[true, false, false, false, false, false, false, false, false, false, false, false, false, false, false, false, false, false, false, false] rfl rfl (any_of HT_.out (by kernel_rfl)) (fun _ _ _ h => h) (Or.inl ⟨by rfl, ?_⟩) ?_ ?_
    rotate_left
    · intro w'
      go_simp
      with_reducible rfl
    rotate_left
    · simp only [Act.put, List.setIfInBounds_toArray, List.set_cons_zero, List.set_cons_succ, i64_w, i32_w]
      rfl
    refine pure_ (i := 2) (N := some 21) (v := ?_) (a' := ?_) #[true, false, true, false, false, false, false, false, false, false, false, false, false, false, false, false, false, false, false, false] rfl rfl (any_of HT_.out (by kernel_rfl)) (fun _ _ _ h => h) (Or.inl ⟨by rfl, ?_⟩) ?_ ?_
    rotate_left
    · intro w'
      go_simp
      with_reducible rfl
    rotate_left
    · simp only [Act.put, List.setIfInBounds_toArray, List.set_cons_zero, List.set_cons_succ, i64_w, i32_w]
      rfl
    refine pure_ (i := 3) (N := some 22) (v := ?_) (a' := ?_) #[true, false, true, true, false, false, false, false, false, false, false, false, false, false, false, false, false, false, false, false] rfl rfl (any_of HT_.out (by kernel_rfl)) (fun _ _ _ h => h) (Or.inl ⟨by rfl, ?_⟩) ?_ ?_
    rotate_left
    · intro w'
      go_simp
      with_reducible rfl
    rotate_left
    · simp only [Act.put, List.setIfInBounds_toArray, List.set_cons_zero, List.set_cons_succ, i64_w, i32_w]
      rfl
    refine pure_ (i := 4) (N := some 23) (v := ?_) (a' := ?_) #[true, false, true, true, true, false, false, false, false, false, false, false, false, false, false, false, false, false, false, false] rfl rfl (any_of HT_.out (by kernel_rfl)) (fun _ _ _ h => h) (Or.inl ⟨by rfl, ?_⟩) ?_ ?_
    rotate_left
    · intro w'
      go_simp
      with_reducible rfl
    rotate_left
    · simp only [Act.put, List.setIfInBounds_toArray, List.set_cons_zero, List.set_cons_succ, i64_w, i32_w]
      rfl
    refine take_ (i := 5) (N := some 24) (v := ?_) (a' := ?_) #[true, false, true, true, true, true, false, false, false, false, false, false, false, false, false, false, false, false, false, false] rfl rfl (take_ofW HT_.out HW_.out (by kernel_rfl)) (fun _ _ _ h => h) (Or.inl ⟨by rfl, ?_⟩) hHeld ?_ ?_
    rotate_left
    · rintro w' s0
      go_simp
      with_reducible rfl
    rotate_left
    · simp only [Act.put, List.setIfInBounds_toArray, List.set_cons_zero, List.set_cons_succ, i64_w, i32_w]
      rfl
    refine pure_ (i := 6) (N := some 25) (v := ?_) (a' := ?_) #[true, false, true, true, true, true, true, false, false, false, false, false, false, false, false, false, false, false, false, false] rfl rfl (any_of HT_.out (by kernel_rfl)) (fun _ _ _ h => h) (Or.inl ⟨by rfl, ?_⟩) ?_ ?_
    rotate_left
    · intro w'
      go_simp
      with_reducible rfl
    rotate_left
    · simp only [Act.put, List.setIfInBounds_toArray, List.set_cons_zero, List.set_cons_succ, i64_w, i32_w]
      rfl
    refine pure_ (i := 7) (N := some 26) (v := ?_) (a' := ?_) #[true, false, true, true, true, true, true, true, false, false, false, false, false, false, false, false, false, false, false, false] rfl rfl (any_of HT_.out (by kernel_rfl)) (fun _ _ _ h => h) (Or.inl ⟨by rfl, ?_⟩) ?_ ?_
    rotate_left
    · intro w'
      go_simp
      with_reducible rfl
    rotate_left
    · simp only [Act.put, List.setIfInBounds_toArray, List.set_cons_zero, List.set_cons_succ, i64_w, i32_w]
      rfl
    refine pure_ (i := 9) (N := some 28) (v := ?_) (a' := ?_) #[true, false, true, true, true, true, true, true, false, true, false, false, false, false, false, false, false, false, false, false] rfl rfl (any_of HT_.out (by kernel_rfl)) (fun _ _ _ h => h) (Or.inl ⟨by rfl, ?_⟩) ?_ ?_
    rotate_left
    · intro w'
      go_simp
      with_reducible rfl
    rotate_left
    · simp only [Act.put, List.setIfInBounds_toArray, List.set_cons_zero, List.set_cons_succ, i64_w, i32_w]
      rfl
    refine pure_ (i := 10) (N := some 29) (v := ?_) (a' := ?_) #[true, false, true, true, true, true, true, true, false, true, true, false, false, false, false, false, false, false, false, false] rfl rfl (any_of HT_.out (by kernel_rfl)) (fun _ _ _ h => h) (Or.inl ⟨by rfl, ?_⟩) ?_ ?_
    rotate_left
    · intro w'
      go_simp
      with_reducible rfl
    rotate_left
    · simp only [Act.put, List.setIfInBounds_toArray, List.set_cons_zero, List.set_cons_succ, i64_w, i32_w]
      rfl
    refine pure_ (i := 11) (N := some 30) (v := ?_) (a' := ?_) #[true, false, true, true, true, true, true, true, false, true, true, true, false, false, false, false, false, false, false, false] rfl rfl (any_of HT_.out (by kernel_rfl)) (fun _ _ _ h => h) (Or.inl ⟨by rfl, ?_⟩) ?_ ?_
    rotate_left
    · intro w'
      go_simp
      with_reducible rfl
    rotate_left
    · simp only [Act.put, List.setIfInBounds_toArray, List.set_cons_zero, List.set_cons_succ, i64_w, i32_w]
      rfl
    refine take_ (i := 12) (N := some 31) (v := ?_) (a' := ?_) #[true, false, true, true, true, true, true, true, false, true, true, true, true, false, false, false, false, false, false, false] rfl rfl (take_ofW HT_.out HW_.out (by kernel_rfl)) (fun _ _ _ h => h) (Or.inl ⟨by rfl, ?_⟩) hHeld ?_ ?_
    rotate_left
    · rintro w' s0
      go_simp
      with_reducible rfl
    rotate_left
    · simp only [Act.put, List.setIfInBounds_toArray, List.set_cons_zero, List.set_cons_succ, i64_w, i32_w]
      rfl
    refine pure_ (i := 13) (N := some 32) (v := ?_) (a' := ?_) #[true, false, true, true, true, true, true, true, false, true, true, true, true, true, false, false, false, false, false, false] rfl rfl (any_of HT_.out (by kernel_rfl)) (fun _ _ _ h => h) (Or.inl ⟨by rfl, ?_⟩) ?_ ?_
    rotate_left
    · intro w'
      go_simp
      with_reducible rfl
    rotate_left
    · simp only [Act.put, List.setIfInBounds_toArray, List.set_cons_zero, List.set_cons_succ, i64_w, i32_w]
      rfl
    refine pure_ (i := 14) (N := some 33) (v := ?_) (a' := ?_) #[true, false, true, true, true, true, true, true, false, true, true, true, true, true, true, false, false, false, false, false] rfl rfl (any_of HT_.out (by kernel_rfl)) (fun _ _ _ h => h) (Or.inl ⟨by rfl, ?_⟩) ?_ ?_
    rotate_left
    · intro w'
      go_simp
      with_reducible rfl
    rotate_left
    · simp only [Act.put, List.setIfInBounds_toArray, List.set_cons_zero, List.set_cons_succ, i64_w, i32_w]
      rfl
    refine pure_ (i := 15) (N := some 34) (v := ?_) (a' := ?_) #[true, false, true, true, true, true, true, true, false, true, true, true, true, true, true, true, false, false, false, false] rfl rfl (any_of HT_.out (by kernel_rfl)) (fun _ _ _ h => h) (Or.inl ⟨by rfl, ?_⟩) ?_ ?_
    rotate_left
    · intro w'
      go_simp
      with_reducible rfl
    rotate_left
    · simp only [Act.put, List.setIfInBounds_toArray, List.set_cons_zero, List.set_cons_succ, i64_w, i32_w]
      rfl
    refine one_ (i := 1) (N := some 20) #[true, true, true, true, true, true, true, true, false, true, true, true, true, true, true, true, false, false, false, false] rfl rfl (one_of HT_.out (by kernel_rfl)) (by decide) (fun K hK => ?_)
    refine Kd.R_lit_step kDf (w0 := w2.drew) w2.drew.heap.size 61 (by rfl) (N := 20) rfl (xs := ([] : List Fl)) (inner := []) (ok := fun _ => True) (okp := fun _ => True) (by first | (go_simp; done) | (go_simp; rfl)) (Reps.none _ _) (fun _ hk => hk) trivial HB.out HB.out.size (by simp) ?_
    intro v16 w3 ho hb hg hn
    have H16 := Aside0.mk ho
    have n0 := Aside0.mk hb
    clear HB ho hb hg hn
    have HB := n0
    clear n0
    obtain ⟨A16, c16, e16⟩ := Kd.R_slice H16.out
    subst e16
    refine hK.out _ _ (HSB.out _ HB.out) (fun hHeld => ?_)
    clear hK K
    refine norm_ (a' := ?_) ?_ ?_
    rotate_left
    · show Act.put _ (some 20) _ = _
      simp only [Act.put, List.setIfInBounds_toArray, List.set_cons_zero, List.set_cons_succ, i64_w, i32_w]
      rfl
    refine one_ (i := 8) (N := some 27) #[true, true, true, true, true, true, true, true, true, true, true, true, true, true, true, true, false, false, false, false] rfl rfl (one_of HT_.out (by kernel_rfl)) (by decide) (fun K hK => ?_)
    refine Kd.R_append_rows_step kDf (w0 := w2.drew) w2.drew.heap.size (by rfl) (.tmp 20) (.tmp 26) 55 61 (.agg #[.string ⟨#[]⟩, .string ⟨#[]⟩, .int .i64 0]) 40 rfl Try.underlying55 df_info rfl (by decide) (by omega) (.slice A16 ([] : List Fl).length c16) [] (L.take i) (some ⟨gr, 0, none⟩) i cf (fun _ => True) (fun _ => False) (by first | rfl | (go_simp; done)) (by first | rfl | (go_simp; done)) H16.out (take_C (Kd.R_below HD.out.row HB.out) HTD.out.1) (fun f cs hk => kDf_KM f cs hk) (fun _ hk => hk.elim) (fun _ _ => trivial) HB.out HB.out.size (by simp only [List.length_nil]; omega) ?_
    intro v21 w4 ho hb hg hat
    have H21 := Aside0.mk ho
    have n0 := Aside0.mk hb
    clear HB ho hb hg hat H16
    have HB := n0
    clear n0
    obtain ⟨A21, c21, e21⟩ := Kd.R_slice H21.out
    obtain ⟨n21, hn21⟩ : ∃ n21, n21 = ([] ++ L.take i).length := ⟨_, rfl⟩
    rw [← hn21] at e21
    subst e21
    clear hn21
    refine hK.out _ _ (HSB.out _ HB.out) (fun hHeld => ?_)
    clear hK K
    refine norm_ (a' := ?_) ?_ ?_
    rotate_left
    · show Act.put _ (some 27) _ = _
      simp only [Act.put, List.setIfInBounds_toArray, List.set_cons_zero, List.set_cons_succ, i64_w, i32_w]
      rfl
    refine one_ (i := 16) (N := some 35) #[true, true, true, true, true, true, true, true, true, true, true, true, true, true, true, true, true, false, false, false] rfl rfl (one_of HT_.out (by kernel_rfl)) (by decide) (fun K hK => ?_)
    refine Kd.R_append_rows_step kDf (w0 := w2.drew) w2.drew.heap.size (by rfl) (.tmp 27) (.tmp 34) 55 61 (.agg #[.string ⟨#[]⟩, .string ⟨#[]⟩, .int .i64 0]) 40 rfl Try.underlying55 df_info rfl (by decide) (by omega) (.slice A21 n21 c21) ([] ++ L.take i) (L.drop (i + 1)) As (nL - (i + 1)) (cf - (i + 1)) (fun _ => True) (fun _ => False) (by first | rfl | (go_simp; done)) (by first | rfl | (go_simp; done)) H21.out (drop_C (Kd.R_below HD.out.row HB.out) HTD.out.2.1 (by rw [← HNL.out]; exact HTD.out.2.2.2) (by rw [← HNL.out]; exact HTD.out.2.2.1) HAs.out) (fun f cs hk => kDf_KM f cs hk) (fun _ hk => hk.elim) (fun _ _ => trivial) HB.out HB.out.size (by have := HTD.out.1; simp only [List.length_append, List.length_nil, this]; omega) ?_
    intro v30 w5 ho hb hg hat
    have HO := Aside0.mk ho
    have n0 := Aside0.mk hb
    clear HB ho hb hg hat H21
    have HB := n0
    clear n0
    obtain ⟨A30, c30, e30⟩ := Kd.R_slice HO.out
    obtain ⟨n30, hn30⟩ : ∃ n30, n30 = (([] ++ L.take i) ++ L.drop (i + 1)).length := ⟨_, rfl⟩
    rw [← hn30] at e30
    subst e30
    clear hn30
    refine hK.out _ _ (HSB.out _ HB.out) (fun hHeld => ?_)
    clear hK K
    refine norm_ (a' := ?_) ?_ ?_
    rotate_left
    · show Act.put _ (some 35) _ = _
      simp only [Act.put, List.setIfInBounds_toArray, List.set_cons_zero, List.set_cons_succ, i64_w, i32_w]
      rfl
    refine pure_ (i := 17) (N := some 36) (v := ?_) (a' := ?_) #[true, true, true, true, true, true, true, true, true, true, true, true, true, true, true, true, true, true, false, false] rfl rfl (any_of HT_.out (by kernel_rfl)) (fun _ _ _ h => h) (Or.inl ⟨by rfl, ?_⟩) ?_ ?_
    rotate_left
    · intro w'
      go_simp
      with_reducible rfl
    rotate_left
    · simp only [Act.put, List.setIfInBounds_toArray, List.set_cons_zero, List.set_cons_succ, i64_w, i32_w]
      rfl
    refine pure_ (i := 18) (N := some 37) (v := ?_) (a' := ?_) #[true, true, true, true, true, true, true, true, true, true, true, true, true, true, true, true, true, true, true, false] rfl rfl (any_of HT_.out (by kernel_rfl)) (fun _ _ _ h => h) (Or.inl ⟨by rfl, ?_⟩) ?_ ?_
    rotate_left
    · intro w'
      go_simp
      with_reducible rfl
    rotate_left
    · simp only [Act.put, List.setIfInBounds_toArray, List.set_cons_zero, List.set_cons_succ, i64_w, i32_w]
      rfl
    refine last_ (i := 19) (N := none) #[true, true, true, true, true, true, true, true, true, true, true, true, true, true, true, true, true, true, true, true] rfl rfl (one_of HT_.out (by kernel_rfl)) (by decide) (fun K hK => ?_)
    have hcg := HSB.out _ HB.out
    have hfz := blk_frozen ((HB.out.block h HD.out.lt).trans HD.out.blk) 2
    refine skip_ (w1 := ?_) (by rfl) rfl ?_ ?_
    rotate_left 1
    · go_simp
      rfl
    refine hK.out _ _ ?_
    clear hK K
    refine done_ (done_of HT_.out (by kernel_rfl)) ?_
    clear hcg hfz
    have hA := HD.out.rowed (L' := [] ++ L.take i ++ L.drop (i + 1)) (w2 := w5) (Kd.R_lower HO.out (by have := HD.out.low; have := HD.out.lt; omega)) (grownBy_below HB.out) (by
      cases A30 with
      | none => exact .inr (.inr rfl)
      | some a => exact .inr (.inl ⟨a.block, rfl, Kd.R_base HO.out a.block rfl⟩))
    have hne4 : w.heap.size ≠ h := by have := HD0.out.lt; omega
    have hne7 : w.heap.size + 1 ≠ h := by have := HD0.out.lt; omega
    have h4 := (Below.heap_setCell w5 ⟨h, 2, none⟩ (.slice A30 n30 c30) w.heap.size hne4).trans ((HB.out.block w.heap.size (by have := HBK.out.2.2; show w.heap.size < w2.heap.size; omega)).trans HBK.out.1)
    have h7 := (Below.heap_setCell w5 ⟨h, 2, none⟩ (.slice A30 n30 c30) (w.heap.size + 1) hne7).trans ((HB.out.block (w.heap.size + 1) (by have := HBK.out.2.2; show w.heap.size + 1 < w2.heap.size; omega)).trans HBK.out.2.1)
    have hER : [] ++ L.take i ++ L.drop (i + 1) = L.eraseIdx i := by rw [List.nil_append, List.eraseIdx_eq_take_drop_succ]
    rw [hER] at hA
    generalize (w5.setCell ⟨h, 2, none⟩ (.slice A30 n30 c30)) = w6 at hA h4 h7 ⊢
    obtain ⟨b4, hb4⟩ : ∃ b4, b4 = w.heap.size := ⟨_, rfl⟩
    have hb7e : w.heap.size + 1 = b4 + 1 := by rw [hb4]
    rw [hb7e] at h7 hne7 ⊢
    rw [← hb4] at h4 hne4 ⊢
    have hne74 : b4 + 1 ≠ b4 := by omega
    have hd0 : w6.cell? ⟨b4 + 1, 0, none⟩ = some (.string s1) := blk_cell h7 0
    have hd1 : w6.cell? ⟨b4 + 1, 1, none⟩ = some (.string s2) := blk_cell h7 1
    have hd2 : w6.cell? ⟨b4 + 1, 2, none⟩ = some (.int .i64 sn) := blk_cell h7 2
    have he0 : w6.cell? ⟨b4, 0, none⟩ = some (.string ⟨#[]⟩) := blk_cell h4 0
    have he1 : w6.cell? ⟨b4, 1, none⟩ = some (.string ⟨#[]⟩) := blk_cell h4 1
    have he2 : w6.cell? ⟨b4, 2, none⟩ = some (.int .i64 0) := blk_cell h4 2
    have hfz := fun q => blk_frozen h4 q
    have HA := Aside0.mk hA
    have H4 := Aside0.mk h4
    have HB4 := Aside0.mk hb4
    have HNE := Aside0.mk hne4
    have HOB := Aside0.mk (Kd.R_base HO.out)
    clear hA h4 h7 hER hb4 hb7e hne7 hne4 HO HB
    go_wp2_with fail
    have bF : (((w6.setCell ⟨b4, 0, none⟩ (.string s1)).setCell ⟨b4, 1, none⟩ (.string s2)).setCell ⟨b4, 2, none⟩ (.int .i64 sn)).heap[b4]? = some (.cells #[.string s1, .string s2, .int .i64 sn] 61 (0, 0)) :=
      blk_put (cs := #[.string s1, .string s2, .int .i64 0]) (blk_put (cs := #[.string s1, .string ⟨#[]⟩, .int .i64 0]) (blk_put H4.out 0 _ rfl) 1 _ rfl) 2 _ rfl
    have hFF : ∀ k, k ≠ b4 → (((w6.setCell ⟨b4, 0, none⟩ (.string s1)).setCell ⟨b4, 1, none⟩ (.string s2)).setCell ⟨b4, 2, none⟩ (.int .i64 sn)).heap[k]? = w6.heap[k]? := fun k hk =>
      (Below.heap_setCell _ ⟨b4, 2, none⟩ _ k hk).trans ((Below.heap_setCell _ ⟨b4, 1, none⟩ _ k hk).trans (Below.heap_setCell _ ⟨b4, 0, none⟩ _ k hk))
    have hSZ : (((w6.setCell ⟨b4, 0, none⟩ (.string s1)).setCell ⟨b4, 1, none⟩ (.string s2)).setCell ⟨b4, 2, none⟩ (.int .i64 sn)).heap.size = w6.heap.size := by simp
    have hOS : Below w.heap.size w6 (((w6.setCell ⟨b4, 0, none⟩ (.string s1)).setCell ⟨b4, 1, none⟩ (.string s2)).setCell ⟨b4, 2, none⟩ (.int .i64 sn)) := ⟨rfl, rfl, rfl, by simp, fun k hk => hFF k (by have := HB4.out; omega)⟩
    generalize (((w6.setCell ⟨b4, 0, none⟩ (.string s1)).setCell ⟨b4, 1, none⟩ (.string s2)).setCell ⟨b4, 2, none⟩ (.int .i64 sn)) = wF at bF hFF hSZ hOS ⊢
    refine bodyPost_ret (v := .tuple #[.agg #[.string s1, .string s2, .int .i64 sn], .int .i64 0]) ?_ rfl ?_
    · have e0 : wF.cell? ⟨b4, 0, none⟩ = some (.string s1) := blk_cell bF 0
      have e1 : wF.cell? ⟨b4, 1, none⟩ = some (.string s2) := blk_cell bF 1
      have e2 : wF.cell? ⟨b4, 2, none⟩ = some (.int .i64 sn) := blk_cell bF 2
      clear bF hFF hSZ hOS
      simp [results, Try.results31, go_sem, e0, e1, e2]
    · refine ⟨?_, .slice A30 n30 c30, ?_, ?_, ?_⟩
      · rw [HH.out.2.1, HH.out.1, HSS.out.1, HSS.out.2.1, HSS.out.2.2]
      · rw [HH.out.2.2]
        refine ⟨(hFF h (fun e => HNE.out e.symm)).trans HA.out.1.blk, ?_, HA.out.1.low⟩
        refine Kd.R_mono (Kd.R_step (w1 := wF) (ok := fun k => k ≠ b4) ⟨fun k hk => ?_, HA.out.1.row.2.imp_ (fun x c hm => hm)⟩ (fun k ok _ => hFF k ok)) (fun _ _ => trivial)
        have h1 := HOB.out k hk
        have h2 := HBK.out.2.2
        have h3 := HB4.out
        have h4 : w2.heap.size ≤ k := h1
        omega
      · have h1 : Fr h (.slice (some ⟨gr, 0, none⟩) L.length cf) w w6 := ((Fr.of_below HB02.out).seq (Fr.of_below (below_drew1 (Below.refl _ _)))).seq HA.out.2.1
        exact ⟨hOS.os.trans h1.os, hOS.tape.trans h1.tape, hOS.output.trans h1.output, Nat.le_trans h1.size (Nat.le_of_eq hSZ.symm), fun k hk hkg hkv => (hOS.block k hk).trans (h1.block k hk hkg hkv)⟩
      · exact (Newer.refl w _).trans HB02.out.size HA.out.2.2
  · have e0 : hasE L.length k = 9 := by unfold hasE at hh ⊢; split; simp_all; rfl
    have e1 : tkF k L = ([], [], 0) := by unfold tkF; rw [if_neg hh]
    have e2 : tkL k L = L := by unfold tkL; rw [if_neg hh]
    rw [decide_eq_false hh] at HHAS
    have H4 := Aside0.mk d4
    have HBA := Aside0.mk hba
    have HH := Aside0.mk (And.intro e0 (And.intro e1 e2))
    have hd0 : (w.alloc (.cells #[.string ⟨#[]⟩, .string ⟨#[]⟩, .int .i64 0] 61)).cell? ⟨w.heap.size, 0, none⟩ = some (.string ⟨#[]⟩) := blk_cell b4 0
    have hd1 : (w.alloc (.cells #[.string ⟨#[]⟩, .string ⟨#[]⟩, .int .i64 0] 61)).cell? ⟨w.heap.size, 1, none⟩ = some (.string ⟨#[]⟩) := blk_cell b4 1
    have hd2 : (w.alloc (.cells #[.string ⟨#[]⟩, .string ⟨#[]⟩, .int .i64 0] 61)).cell? ⟨w.heap.size, 2, none⟩ = some (.int .i64 0) := blk_cell b4 2
    have hfz := fun q => blk_frozen b4 q
    clear d d4 hh e0 e1 e2 hba b4
    go_enter Try.func31, Try.ntmps31
    go_wp2_with (go_at_call 48; refine HHAS.out.mono ?_; rintro e w1 ⟨rfl, rfl⟩)
    refine bodyPost_ret (v := .tuple #[.agg #[.string ⟨#[]⟩, .string ⟨#[]⟩, .int .i64 0], .int .i64 9]) ?_ rfl ?_
    · simp [results, Try.results31, go_sem, hd0, hd1, hd2]
    · refine ⟨?_, v, ?_, Fr.of_below HBA.out, Newer.refl _ _⟩
      · rw [HH.out.2.1, HH.out.1]
        have es : strOfNums [] = ⟨#[]⟩ := rfl
        rw [es]
      · rw [HH.out.2.2]; exact H4.out
end Go.Proofs.Ytfplmoeahbjfmaa.P

-- YtfplmoeahbjfmaaPPlain
namespace Go.Proofs.Ytfplmoeahbjfmaa.P
open Go.RowKit Go.Proofs.YtfplmoeahbjfmaaW.PrintWords Go.Proofs.YtfplmoeahbjfmaaW.PrintLast Go.Proofs.YtfplmoeahbjfmaaW.PrintMore
set_option linter.unusedVariables false

theorem rd_get (l : List Int) (i : Nat) (h : i < l.length) : rd l (i : Int) = l[i] := by
  unfold rd
  simp [List.getD_eq_getElem?_getD, h]
theorem rd_getD (l : List Int) (i : Nat) : rd l (i : Int) = l.getD i 0 := by
  unfold rd; simp
theorem wrap_in {n : Int} (h0 : -9223372036854775808 ≤ n) (h1 : n ≤ 9223372036854775807) : wrap64 n = n := by
  unfold wrap64; omega
theorem wrap_succ (i : Nat) (h : (i : Int) < 9223372036854775807) : wrap64 ((i : Int) + 1) = ((i + 1 : Nat) : Int) := by
  rw [wrap_in (by omega) (by omega)]; omega
theorem u8_of_wf {l : List Int} (h : ∀ x ∈ l, (Lit.int .u8 x).wf = true) : ∀ x ∈ l, 0 ≤ x ∧ x ≤ 255 := fun x hx => Go.bounds_u8 (h x hx)
theorem i64_of_wf {l : List Int} (h : ∀ x ∈ l, (Lit.int .i64 x).wf = true) : ∀ x ∈ l, -9223372036854775808 ≤ x ∧ x ≤ 9223372036854775807 := fun x hx => Go.bounds_i64 (h x hx)
theorem pred {k d : Nat} (h : d < k) : ∃ m, k = m + 1 := ⟨k - 1, by omega⟩
theorem drop_cons {α : Type} (l : List α) (i : Nat) (h : i < l.length) : l.drop i = l[i] :: l.drop (i + 1) := List.drop_eq_getElem_cons h
theorem take_snoc {α : Type} (l : List α) (i : Nat) (h : i < l.length) : l.take (i + 1) = l.take i ++ [l[i]] := by
  rw [List.take_succ_eq_append_getElem h]
/-- f, so many times. -/
def it {α : Type} (f : α → α) : Nat → α → α
  | 0, x => x
  | n + 1, x => it f n (f x)
theorem it_succ {α : Type} (f : α → α) (n : Nat) (x : α) : it f (n + 1) x = it f n (f x) := rfl
theorem it_add {α : Type} (f : α → α) (m n : Nat) : ∀ x : α, it f (m + n) x = it f n (it f m x) := by
  induction m with
  | zero => intro x; simp [it]
  | succ m ih => intro x; rw [show m + 1 + n = (m + n) + 1 from by omega, it_succ, ih, it_succ]
theorem it_last {α : Type} (f : α → α) (n : Nat) (x : α) : it f (n + 1) x = f (it f n x) := by
  rw [it_add f n 1]; rfl

end Go.Proofs.Ytfplmoeahbjfmaa.P

-- YtfplmoeahbjfmaaP36
namespace Go.Proofs.Ytfplmoeahbjfmaa.P
open Go.RowKit Go.Proofs.YtfplmoeahbjfmaaW.PrintWords Go.Proofs.YtfplmoeahbjfmaaW.PrintLast Go.Proofs.YtfplmoeahbjfmaaW.PrintMore
attribute [local go_sem] max2_int min2_int max_two min_two max_three min_three max_four min_four   -- for this text's walks alone
set_option linter.unusedVariables false
set_option linter.unusedSimpArgs false

/-! ### bits_Right_1: function 58 -/
def bits_Right_1.f (a0 : Int) : Option (Bool) := some (decide (a0 > 1))
set_option maxHeartbeats 8000000 in
set_option maxRecDepth 100000 in
theorem bits_Right_1.calls (a0 : Int) (r : Bool) (w : World) (h : bits_Right_1.f a0 = some r) :
    Calls Try.prog 58 #[.int .u8 a0] w fun e w' => e = .returned (.bool r) ∧ Drawn0 w w' := by
  have H : (some (decide (a0 > 1))) = some r := h
  clear h
  obtain rfl := Option.some.inj H
  go_enter Try.func58, Try.ntmps58
  go_wp2
  go_ret
  exact ⟨by first | rfl | (simp; done) | (simp [*]; done), by repeat (first | exact Drawn0.refl _ | apply Drawn0.step)⟩

end Go.Proofs.Ytfplmoeahbjfmaa.P

-- YtfplmoeahbjfmaaP37
namespace Go.Proofs.Ytfplmoeahbjfmaa.P
open Go.RowKit Go.Proofs.YtfplmoeahbjfmaaW.PrintWords Go.Proofs.YtfplmoeahbjfmaaW.PrintLast Go.Proofs.YtfplmoeahbjfmaaW.PrintMore
attribute [local go_sem] max2_int min2_int max_two min_two max_three min_three max_four min_four   -- for this text's walks alone
set_option linter.unusedVariables false
set_option linter.unusedSimpArgs false

/-! ### slices_IndexFunc_byte_byte: function 59 -/
def slices_IndexFunc_byte_byte.l0 : Nat → List Int → Int → Int → Option (Int)
  | 0, _, _, _ => none
  | k + 1, x0, x7, x8 => if x8 < x7 then (if 0 ≤ x8 then (if x8 < (x0.length : Int) then ((bits_Right_1.f (rd x0 x8)).bind fun t212 => (if t212 = true then (some x8) else (slices_IndexFunc_byte_byte.l0 k x0 x7 (wrap64 (x8 + 1))))) else (none)) else (none)) else (some (-1))
def slices_IndexFunc_byte_byte.f (k : Nat) (l0 : List Int)  : Option (Int) := slices_IndexFunc_byte_byte.l0 k l0 (l0.length : Int) 0
theorem slices_IndexFunc_byte_byte.mono_l : ∀ k, (∀ y0 y1 y2, LeO (slices_IndexFunc_byte_byte.l0 k y0 y1 y2) (slices_IndexFunc_byte_byte.l0 (k + 1) y0 y1 y2))
  | 0 => fun _ _ _ r h => by simp [slices_IndexFunc_byte_byte.l0] at h
  | k + 1 => by
    have ih0 := slices_IndexFunc_byte_byte.mono_l k
    · intro y0 y1 y2
      unfold slices_IndexFunc_byte_byte.l0
      repeat' first
      | (with_reducible exact ih0 _ _ _)
      | (with_reducible exact LeO.refl _)
      | (with_reducible exact LeO.none _)
      | (with_reducible refine LeO.ite ?_ ?_)
      | (with_reducible refine LeO.bind ?_ (fun _ => ?_))
      | exact ih0 _ _ _
      | exact LeO.none _
      | refine LeO.ite ?_ ?_
      | refine LeO.bind ?_ (fun _ => ?_)
theorem slices_IndexFunc_byte_byte.mono : ∀ a0 k, LeO (slices_IndexFunc_byte_byte.f k a0) (slices_IndexFunc_byte_byte.f (k + 1) a0) := by
  intro a0 k
  have ih0 := slices_IndexFunc_byte_byte.mono_l k
  unfold slices_IndexFunc_byte_byte.f
  repeat' first
      | (with_reducible exact ih0 _ _ _)
      | (with_reducible exact LeO.refl _)
      | (with_reducible exact LeO.none _)
      | (with_reducible refine LeO.ite ?_ ?_)
      | (with_reducible refine LeO.bind ?_ (fun _ => ?_))
      | exact ih0 _ _ _
      | exact LeO.none _
      | refine LeO.ite ?_ ?_
      | refine LeO.bind ?_ (fun _ => ?_)
set_option maxHeartbeats 8000000 in
set_option maxRecDepth 100000 in
theorem slices_IndexFunc_byte_byte.calls (k : Nat) (A0 : Option Addr) (c0 : Nat) (l0 : List Int)  (r : Int) (w : World) (hr0 : Kd.C (Kd.int .u8) w A0 l0.length l0) (hc0 : l0.length ≤ c0) (h : slices_IndexFunc_byte_byte.f k l0 = some r) :
    Calls Try.prog 59 #[.slice A0 l0.length c0, .func (.func 58) #[] #[]] w fun e w' => e = .returned (.int .i64 r) ∧ Drawn0 w w' := by
  have HR0 := Aside0.mk hr0
  have HC0 := Aside0.mk hc0
  clear hr0 hc0
  have H : (slices_IndexFunc_byte_byte.l0 k l0 (l0.length : Int) 0) = some r := h
  clear h
  have H' := Aside0.mk H
  clear H
  go_enter Try.func59, Try.ntmps59
  go_wp2
  go_loopg [8] k (fun kq v8 w' => ∃ (x8_1 : Int), v8 = .int .i64 x8_1 ∧ Aside0 (slices_IndexFunc_byte_byte.l0 kq l0 (l0.length : Int) x8_1 = some r) ∧ Aside0 (kq ≤ k) ∧ Drawn0 w w')
  case atStart => exact ⟨(0), (by first | rfl | (simp; done) | (simp [*]; done)), H', ⟨Nat.le_refl _⟩, by repeat (first | exact Drawn0.refl _ | apply Drawn0.step)⟩
  case round =>
    clear H'
    try clear p2
    obtain ⟨x8_1, rfl, HA, HK1, ⟨m1, rfl⟩⟩ := hrel
    cases gk with
    | zero => exact absurd HA.out (by simp [slices_IndexFunc_byte_byte.l0])
    | succ k1 =>
      have H := HA.out
      clear HA
      simp only [slices_IndexFunc_byte_byte.l0] at H
      by_cases c3 : x8_1 < (l0.length : Int)
      · rw [if_pos c3] at H
        have c3b0 : decide (x8_1 < (l0.length : Int)) = true := decide_eq_true c3
        clear c3
        by_cases c4 : 0 ≤ x8_1
        · rw [if_pos c4] at H
          have c4b0 : decide (0 ≤ x8_1) = true := decide_eq_true c4
          clear c4
          by_cases c5 : x8_1 < (l0.length : Int)
          · rw [if_pos c5] at H
            have c5b0 : decide (x8_1 < (l0.length : Int)) = true := decide_eq_true c5
            clear c5
            replace H := Option.bind_eq_some_iff.mp H
            obtain ⟨t212, A60, H⟩ := H
            replace H : (if t212 = true then (some x8_1) else (slices_IndexFunc_byte_byte.l0 k1 l0 (l0.length : Int) (wrap64 (x8_1 + 1)))) = some r := H
            have A6 := Aside0.mk A60
            clear A60
            by_cases c7 : t212 = true
            · subst c7
              have H1 : (some x8_1) = some r := by rw [if_pos rfl] at H; exact H
              clear H
              have H := H1
              clear H1
              obtain rfl := Option.some.inj H
              have p211 : 0 ≤ (x8_1 : Int) := of_decide_eq_true (by first | (with_reducible assumption) | assumption)
              have q211 : x8_1 < (l0.length : Int) := of_decide_eq_true (by first | (with_reducible assumption) | assumption)
              obtain ⟨ad211, e211, hx211_0⟩ := Kd.at_int HR0.out x8_1 p211 q211
              cases e211
              replace p211 := eq_true p211
              replace q211 := eq_true q211
              go_wp2_with (first | (go_at_call 58; (with_reducible refine (bits_Right_1.calls (rd l0 x8_1) true _ A6.out).mono ?_); rintro e w' ⟨rfl, ⟨nd, rfl⟩⟩))
              go_ret
              exact ⟨by first | rfl | (simp; done) | (simp [*]; done), by repeat (first | exact Drawn0.refl _ | apply Drawn0.step)⟩
            · replace c7 := Bool.eq_false_iff.mpr c7
              subst c7
              have H1 : (slices_IndexFunc_byte_byte.l0 k1 l0 (l0.length : Int) (wrap64 (x8_1 + 1))) = some r := by rw [if_neg (show ¬ (false = true) by decide)] at H; exact H
              clear H
              have H := H1
              clear H1
              have H' := Aside0.mk H
              clear H
              have p211 : 0 ≤ (x8_1 : Int) := of_decide_eq_true (by first | (with_reducible assumption) | assumption)
              have q211 : x8_1 < (l0.length : Int) := of_decide_eq_true (by first | (with_reducible assumption) | assumption)
              obtain ⟨ad211, e211, hx211_0⟩ := Kd.at_int HR0.out x8_1 p211 q211
              cases e211
              replace p211 := eq_true p211
              replace q211 := eq_true q211
              go_wp2_with (first | (go_at_call 58; (with_reducible refine (bits_Right_1.calls (rd l0 x8_1) false _ A6.out).mono ?_); rintro e w' ⟨rfl, ⟨nd, rfl⟩⟩))
              go_roundg k1
              case measure => have := HK1.out; omega
              case rel => exact ⟨(wrap64 (x8_1 + 1)), (by first | rfl | (simp; done) | (simp [*]; done)), H', ⟨by have := HK1.out; omega⟩, by repeat (first | exact Drawn0.refl _ | apply Drawn0.step)⟩
          · rw [if_neg c5] at H
            exact absurd H (by simp)
        · rw [if_neg c4] at H
          exact absurd H (by simp)
      · rw [if_neg c3] at H
        have c3b0 : decide (x8_1 < (l0.length : Int)) = false := decide_eq_false c3
        clear c3
        obtain rfl := Option.some.inj H
        go_wp2
        go_ret
        exact ⟨by first | rfl | (simp; done) | (simp [*]; done), by repeat (first | exact Drawn0.refl _ | apply Drawn0.step)⟩

end Go.Proofs.Ytfplmoeahbjfmaa.P

-- YtfplmoeahbjfmaaP38
namespace Go.Proofs.Ytfplmoeahbjfmaa.P
open Go.RowKit Go.Proofs.YtfplmoeahbjfmaaW.PrintWords Go.Proofs.YtfplmoeahbjfmaaW.PrintLast Go.Proofs.YtfplmoeahbjfmaaW.PrintMore
attribute [local go_sem] max2_int min2_int max_two min_two max_three min_three max_four min_four   -- for this text's walks alone
set_option linter.unusedVariables false
set_option linter.unusedSimpArgs false

/-! ### slices_ContainsFunc_byte_byte: function 57 -/
def slices_ContainsFunc_byte_byte.f (k : Nat) (l0 : List Int)  : Option (Bool) := (slices_IndexFunc_byte_byte.f k l0).bind fun t213 => (some (decide (t213 ≥ 0)))
theorem slices_ContainsFunc_byte_byte.mono : ∀ a0 k, LeO (slices_ContainsFunc_byte_byte.f k a0) (slices_ContainsFunc_byte_byte.f (k + 1) a0) := by
  intro a0 k
  unfold slices_ContainsFunc_byte_byte.f
  repeat' first
      | (with_reducible exact slices_IndexFunc_byte_byte.mono _ _)
      | (with_reducible exact LeO.refl _)
      | (with_reducible exact LeO.none _)
      | (with_reducible refine LeO.ite ?_ ?_)
      | (with_reducible refine LeO.bind ?_ (fun _ => ?_))
      | exact slices_IndexFunc_byte_byte.mono _ _
      | exact LeO.none _
      | refine LeO.ite ?_ ?_
      | refine LeO.bind ?_ (fun _ => ?_)
set_option maxHeartbeats 8000000 in
set_option maxRecDepth 100000 in
theorem slices_ContainsFunc_byte_byte.calls (k : Nat) (A0 : Option Addr) (c0 : Nat) (l0 : List Int)  (r : Bool) (w : World) (hr0 : Kd.C (Kd.int .u8) w A0 l0.length l0) (hc0 : l0.length ≤ c0) (h : slices_ContainsFunc_byte_byte.f k l0 = some r) :
    Calls Try.prog 57 #[.slice A0 l0.length c0, .func (.func 58) #[] #[]] w fun e w' => e = .returned (.bool r) ∧ Drawn0 w w' := by
  have HR0 := Aside0.mk hr0
  have HC0 := Aside0.mk hc0
  clear hr0 hc0
  have H : ((slices_IndexFunc_byte_byte.f k l0).bind fun t213 => (some (decide (t213 ≥ 0)))) = some r := h
  clear h
  replace H := Option.bind_eq_some_iff.mp H
  obtain ⟨t213, A30, H⟩ := H
  replace H : (some (decide (t213 ≥ 0))) = some r := H
  have A3 := Aside0.mk A30
  clear A30
  obtain rfl := Option.some.inj H
  go_enter Try.func57, Try.ntmps57
  go_wp2_with (first | ((with_reducible refine gate_callee (f := 59) rfl ?_); refine goesL_ (some 7) rfl rfl Try.func59 (by kernel_rfl) rfl #[.slice A0 l0.length c0, .func (.func 58) #[] #[]] rfl (by (try simp only [List.map_toArray, List.map_cons, List.map_nil]); first | done | rfl | (simp only [List.length_drop, List.length_take]; rfl)) ?_; (with_reducible refine (slices_IndexFunc_byte_byte.calls k _ _ l0  t213 _ ?side1 ?side2 A3.out).mono ?_); (case side1 => repeat (first | exact HR0.out | (with_reducible refine Kd.C_alloc ?_ _) | (with_reducible refine Kd.C_drewN ?_ _) | (with_reducible refine Kd.C_drew ?_))); (case side2 => exact HC0.out); rintro e w' ⟨rfl, ⟨nd, rfl⟩⟩; refine ⟨_, rfl, ?_⟩))
  go_ret
  exact ⟨by first | rfl | (simp; done) | (simp [*]; done), by repeat (first | exact Drawn0.refl _ | apply Drawn0.step)⟩

end Go.Proofs.Ytfplmoeahbjfmaa.P

-- YtfplmoeahbjfmaaP39
namespace Go.Proofs.Ytfplmoeahbjfmaa.P
open Go.RowKit Go.Proofs.YtfplmoeahbjfmaaW.PrintWords Go.Proofs.YtfplmoeahbjfmaaW.PrintLast Go.Proofs.YtfplmoeahbjfmaaW.PrintMore
attribute [local go_sem] max2_int min2_int max_two min_two max_three min_three max_four min_four   -- for this text's walks alone
set_option linter.unusedVariables false
set_option linter.unusedSimpArgs false

/-! ### bits_Right: function 55 -/
def bits_Right.f (k : Nat) (l0 : List Int) : Option (Bool) := (slices_ContainsFunc_byte_byte.f k l0).bind fun t214 => (some (!t214))
theorem bits_Right.mono : ∀ a0 k, LeO (bits_Right.f k a0) (bits_Right.f (k + 1) a0) := by
  intro a0 k
  unfold bits_Right.f
  repeat' first
      | (with_reducible exact slices_ContainsFunc_byte_byte.mono _ _)
      | (with_reducible exact LeO.refl _)
      | (with_reducible exact LeO.none _)
      | (with_reducible refine LeO.ite ?_ ?_)
      | (with_reducible refine LeO.bind ?_ (fun _ => ?_))
      | exact slices_ContainsFunc_byte_byte.mono _ _
      | exact LeO.none _
      | refine LeO.ite ?_ ?_
      | refine LeO.bind ?_ (fun _ => ?_)
set_option maxHeartbeats 8000000 in
set_option maxRecDepth 100000 in
theorem bits_Right.calls (k : Nat) (A0 : Option Addr) (c0 : Nat) (l0 : List Int) (r : Bool) (w : World) (hr0 : Kd.C (Kd.int .u8) w A0 l0.length l0) (hc0 : l0.length ≤ c0) (h : bits_Right.f k l0 = some r) :
    Calls Try.prog 55 #[.slice A0 l0.length c0] w fun e w' => e = .returned (.bool r) ∧ Drawn0 w w' := by
  have HR0 := Aside0.mk hr0
  have HC0 := Aside0.mk hc0
  clear hr0 hc0
  have H : ((slices_ContainsFunc_byte_byte.f k l0).bind fun t214 => (some (!t214))) = some r := h
  clear h
  replace H := Option.bind_eq_some_iff.mp H
  obtain ⟨t214, A20, H⟩ := H
  replace H : (some (!t214)) = some r := H
  have A2 := Aside0.mk A20
  clear A20
  obtain rfl := Option.some.inj H
  go_enter Try.func55, Try.ntmps55
  go_wp2_with (first | ((with_reducible refine gate_callee (f := 57) rfl ?_); refine goesL_ (some 4) rfl rfl Try.func57 (by kernel_rfl) rfl #[.slice A0 l0.length c0, .func (.func 58) #[] #[]] rfl (by (try simp only [List.map_toArray, List.map_cons, List.map_nil]); first | done | rfl | (simp only [List.length_drop, List.length_take]; rfl)) ?_; (with_reducible refine (slices_ContainsFunc_byte_byte.calls k _ _ l0  t214 _ ?side1 ?side2 A2.out).mono ?_); (case side1 => repeat (first | exact HR0.out | (with_reducible refine Kd.C_alloc ?_ _) | (with_reducible refine Kd.C_drewN ?_ _) | (with_reducible refine Kd.C_drew ?_))); (case side2 => exact HC0.out); rintro e w' ⟨rfl, ⟨nd, rfl⟩⟩; refine ⟨_, rfl, ?_⟩))
  go_ret
  exact ⟨by first | rfl | (simp; done) | (simp [*]; done), by repeat (first | exact Drawn0.refl _ | apply Drawn0.step)⟩

end Go.Proofs.Ytfplmoeahbjfmaa.P

-- YtfplmoeahbjfmaaPBRight
namespace Go.Proofs.Ytfplmoeahbjfmaa.P
open Go.RowKit Go.Proofs.YtfplmoeahbjfmaaW.PrintWords Go.Proofs.YtfplmoeahbjfmaaW.PrintLast Go.Proofs.YtfplmoeahbjfmaaW.PrintMore
set_option linter.unusedVariables false

def big (x : Int) : Bool := decide (x > 1)
theorem index_l0 (l : List Int) (hl : l.length ≤ 140737488355328) (d : Nat) : ∀ k i : Nat, i + d = l.length → d < k →
    ∃ r, slices_IndexFunc_byte_byte.l0 k l (l.length : Int) (i : Int) = some r ∧ decide (r ≥ 0) = (l.drop i).any big := by
  induction d with
  | zero =>
    intro k i hi hk
    obtain ⟨k, rfl⟩ := pred hk
    refine ⟨-1, ?_, ?_⟩
    · simp only [slices_IndexFunc_byte_byte.l0]; rw [if_neg (by omega)]
    · rw [List.drop_eq_nil_of_le (by omega)]; rfl
  | succ d ih =>
    intro k i hi hk
    obtain ⟨k, rfl⟩ := pred hk
    have hlt : i < l.length := by omega
    simp only [slices_IndexFunc_byte_byte.l0]
    rw [if_pos (by omega), if_pos (by omega), if_pos (by omega), rd_get l i hlt, drop_cons l i hlt, List.any_cons]
    unfold bits_Right_1.f
    simp only [Option.bind_some]
    cases hb : big l[i] with
    | true =>
      unfold big at hb
      rw [if_pos hb]
      exact ⟨_, rfl, by rw [Bool.true_or]; exact decide_eq_true (by omega)⟩
    | false =>
      unfold big at hb
      rw [if_neg (by rw [hb]; decide), wrap_succ i (by omega), Bool.false_or]
      exact ih k (i + 1) (by omega) (by omega)
theorem right_f (l : List Int) (hl : l.length ≤ 140737488355328) (k : Nat) (hk : l.length < k) : bits_Right.f k l = some (!l.any big) := by
  obtain ⟨r, h1, h2⟩ := index_l0 l hl l.length k 0 (by omega) hk
  unfold bits_Right.f slices_ContainsFunc_byte_byte.f slices_IndexFunc_byte_byte.f
  rw [show slices_IndexFunc_byte_byte.l0 k l (l.length : Int) 0 = some r from h1]
  simp only [Option.bind_some]
  rw [h2]; rfl
end Go.Proofs.Ytfplmoeahbjfmaa.P

-- YtfplmoeahbjfmaaPChunk
namespace Go.Proofs.Ytfplmoeahbjfmaa.P
open Go Go.Proofs Go.RowKit Go.Shelf Go.Proofs.YtfplmoeahbjfmaaW.PrintWords Go.Proofs.YtfplmoeahbjfmaaW.PrintLast Go.Proofs.YtfplmoeahbjfmaaW.PrintMore
set_option linter.unusedVariables false
attribute [local go_sem] Oper.semAt_some

/-- The parts, by their numbers. -/
abbrev Part (len : Nat) := { x : Nat // 8 * x < len }
def partV (ad : Addr) (len : Nat) (x : Part len) : Value := .slice (some (ad.add (8 * x.1))) (min 8 (len - 8 * x.1)) (min 8 (len - 8 * x.1))

set_option maxRecDepth 100000 in
set_option maxHeartbeats 2000000 in
theorem chunk1_in (F : Fence) (n : Nat) (h7 : F.fn 54) (hro : F.round = none) (hn : 1 ≤ n) (l Bs Bn : Nat) (ad : Addr) (len cap : Nat) (hlen : len < 140737488355328) (hcap : len ≤ cap)
    (Kp : World → World → Prop) (hKs : ∀ A B, Kp A B → A.cell? ⟨Bs, 0, none⟩ = some (.slice (some ad) len cap) → B.cell? ⟨Bs, 0, none⟩ = some (.slice (some ad) len cap)) (hKn : ∀ A B, Kp A B → A.cell? ⟨Bn, 0, none⟩ = some (.int .i64 8) → B.cell? ⟨Bn, 0, none⟩ = some (.int .i64 8)) (J Jx : List (Part len) → World → Prop)
    (hY : ∀ pre (x : Part len) W, J pre W → pre.length < len → YieldAt F (n - 1) Try.prog l #[partV ad len x] W fun e W' =>
      (e = .returned (.bool true) ∧ J (pre ++ [x]) W' ∧ Kp W W') ∨ (e = .returned (.bool false) ∧ Jx (pre ++ [x]) W'))
    (hJd : ∀ pre W, J pre W → J pre W.drew)
    (W : World) (hcs : W.cell? ⟨Bs, 0, none⟩ = some (.slice (some ad) len cap)) (hcn : W.cell? ⟨Bn, 0, none⟩ = some (.int .i64 8)) (h0 : J [] W) :
    CallsIn F n Try.prog 54 #[.func (.yield l) #[] #[], .pointer (some ⟨Bs, 0, none⟩), .pointer (some ⟨Bn, 0, none⟩)] W fun e W' => (∃ v, e = .returned v) ∧
      ((∃ ys, ys.map (·.1) = List.range ((len + 7) / 8) ∧ J ys W') ∨ (∃ pre, Jx pre W')) := by
  refine callsIn_of_wp Try.func54 rfl h7 ?_ hro
  simp only [Try.ntmps54, List.size_toArray, List.length_cons, List.length_nil, Nat.reduceAdd, Nat.reduceSub, Array.replicate_succ, Array.replicate_zero, List.push_toArray, List.append_toArray, List.nil_append, List.cons_append]
  gi_wp2
  gi_loopw [4] (fun i wr => ∃ (k : Nat) (pre : List (Part len)), 8 * k < len + 8 ∧ i = .int .i64 ((8 * k : Nat) : Int) ∧ pre.map (·.1) = List.range k ∧ J pre wr ∧ wr.cell? ⟨Bs, 0, none⟩ = some (.slice (some ad) len cap) ∧ wr.cell? ⟨Bn, 0, none⟩ = some (.int .i64 8))
    (fun i _ => len + 8 - (intOf i).toNat)
  case atStart => exact ⟨0, [], by omega, rfl, rfl, h0, hcs, hcn⟩
  case round =>
    obtain ⟨k, pre, hk, rfl, hpre, hJs, hcs', hcn'⟩ := hrel
    have hpl : pre.length = k := by have := congrArg List.length hpre; simpa using this
    by_cases hlt : 8 * k < len
    · have hcs2 : wr.drew.cell? ⟨Bs, 0, none⟩ = some (.slice (some ad) len cap) := hcs'
      have hcn2 : wr.drew.cell? ⟨Bn, 0, none⟩ = some (.int .i64 8) := hcn'
      obtain ⟨j, hj⟩ : ∃ j : Nat, min 8 (len - 8 * k) = j := ⟨_, rfl⟩
      have hif : (if ((len - 8 * k : Nat) : Int) < 8 then ((len - 8 * k : Nat) : Int) else 8) = (j : Int) := by split <;> omega
      have hj1 : j ≤ 8 := by omega
      have hj2 : 8 * k + j ≤ len := by omega
      obtain ⟨fn, tmps, assign, body, hy, hR⟩ := hY pre ⟨k, hlt⟩ wr.drew (hJd _ _ hJs) (by omega)
      simp only [partV, hj] at hy
      clear hY
      gi_wp2
      gi_region
      all_goals (clear hcs' hcn')
      all_goals
        gi_wp2
        refine hR.mono ?_
        rintro e W3 (⟨rfl, hJ3, hk3⟩ | ⟨rfl, hJx3⟩)
        · have hcs3 := hKs _ _ hk3 hcs2
          have hcn3 := hKn _ _ hk3 hcn2
          clear hR hy hk3
          gi_wp2
          go_roundw
          case rel => exact ⟨k + 1, pre ++ [⟨k, hlt⟩], by omega, by first | rfl | (congr 1; omega) | simp, by rw [List.map_append, hpre, List.range_succ]; rfl, hJ3, hcs3, hcn3⟩
          case measure => simp [intOf]; omega
        · clear hR hy
          gi_wp2
          refine bodyPost_ret (results_none rfl _ _ _) rfl ?_
          exact ⟨⟨_, rfl⟩, .inr ⟨_, hJx3⟩⟩
    · gi_wp2
      go_end0
      exact ⟨⟨_, rfl⟩, .inl ⟨pre, by rw [hpre]; congr 1; omega, hJs⟩⟩

set_option maxRecDepth 100000 in
set_option maxHeartbeats 1000000 in
theorem chunk1_nil_in (F : Fence) (n : Nat) (h7 : F.fn 54) (hro : F.round = none) (l Bs Bn : Nat) (A : Option Addr) (cap : Nat) (J : World → Prop) (W : World)
    (hcs : W.cell? ⟨Bs, 0, none⟩ = some (.slice A 0 cap)) (h0 : J W) :
    CallsIn F n Try.prog 54 #[.func (.yield l) #[] #[], .pointer (some ⟨Bs, 0, none⟩), .pointer (some ⟨Bn, 0, none⟩)] W fun e W' => (∃ v, e = .returned v) ∧ J W' := by
  refine callsIn_of_wp Try.func54 rfl h7 ?_ hro
  simp only [Try.ntmps54, List.size_toArray, List.length_cons, List.length_nil, Nat.reduceAdd, Nat.reduceSub, Array.replicate_succ, Array.replicate_zero, List.push_toArray, List.append_toArray, List.nil_append, List.cons_append]
  gi_wp2
  gi_loopw [4] (fun i wr => i = .int .i64 0 ∧ J wr ∧ wr.cell? ⟨Bs, 0, none⟩ = some (.slice A 0 cap)) (fun _ _ => 0)
  case atStart => exact ⟨rfl, h0, hcs⟩
  case round =>
    obtain ⟨rfl, hJs, hcs'⟩ := hrel
    gi_wp2
    go_end0
    exact ⟨⟨_, rfl⟩, hJs⟩

set_option maxHeartbeats 1000000 in
theorem chunk_in (F : Fence) (n : Nat) (h5 : F.fn 40) (hro : F.round = none) (A : Option Addr) (len cap : Nat) (w : World) :
    CallsIn F n Try.prog 40 #[.slice A len cap, .int .i64 8] w fun e w' => e = .returned (.func (.func 54) #[] #[.pointer (some ⟨w.heap.size, 0, none⟩), .pointer (some ⟨w.heap.size + 1, 0, none⟩)]) ∧
      w' = (w.alloc (.cells #[.slice A len cap] 31)).alloc (.cells #[.int .i64 8] 3) := by
  refine callsIn_of_wp Try.func40 rfl h5 ?_ hro
  simp only [Try.ntmps40, List.size_toArray, List.length_cons, List.length_nil, Nat.reduceAdd, Nat.reduceSub, Array.replicate_succ, Array.replicate_zero, List.push_toArray, List.append_toArray, List.nil_append, List.cons_append]
  gi_wp2
  go_ret
  exact ⟨by simp, rfl⟩
end Go.Proofs.Ytfplmoeahbjfmaa.P

-- YtfplmoeahbjfmaaP40
namespace Go.Proofs.Ytfplmoeahbjfmaa.P
open Go.RowKit Go.Proofs.YtfplmoeahbjfmaaW.PrintWords Go.Proofs.YtfplmoeahbjfmaaW.PrintLast Go.Proofs.YtfplmoeahbjfmaaW.PrintMore
attribute [local go_sem] max2_int min2_int max_two min_two max_three min_three max_four min_four   -- for this text's walks alone
set_option linter.unusedVariables false
set_option linter.unusedSimpArgs false

/-! ### bits_Bytes: function 45 -/
open Go Go.Proofs Go.Shelf
attribute [local go_sem] Oper.semAt_some

def byOf (l : List Int) (x : Nat) : Nat → Int
  | 0 => 0
  | k + 1 => Go.bits .or .u8 (byOf l x k) (shl .u8 (l.getD (8 * x + k) 0) (7 - (k : Int)))
def byte (l : List Int) (x : Nat) : Int := byOf l x (min 8 (l.length - 8 * x))
def bits_Bytes.f (k : Nat) (l0 : List Int) : Option (List Int × Int) := (bits_Right.f k l0).bind fun t => if t = true then (if l0.length < 140737488355328 then some ((List.range ((l0.length + 7) / 8)).map (byte l0), 0) else none) else some ([], 5)
theorem bits_Bytes.mono : ∀ a0 k, LeO (bits_Bytes.f k a0) (bits_Bytes.f (k + 1) a0) := by
  intro a0 k
  unfold bits_Bytes.f
  exact LeO.bind (bits_Right.mono a0 k) (fun _ => LeO.refl _)

theorem bytes_info : (Try.prog.info? 5).map (fun i => (i.zero, i.size, i.bytes)) = some (some (.int .u8 0), 1, 1) := by kernel_rfl
def keepsK (Bs Bn n₀ : Nat) (A B : World) : Prop := Below n₀ A B ∧ B.heap[Bs]? = A.heap[Bs]? ∧ B.heap[Bn]? = A.heap[Bn]?
theorem keepsK_t {Bs Bn n₀ : Nat} {A B C : World} (h : keepsK Bs Bn n₀ A B) (k : keepsK Bs Bn n₀ B C) : keepsK Bs Bn n₀ A C := ⟨h.1.trans k.1, k.2.1.trans h.2.1, k.2.2.trans h.2.2⟩
theorem keepsK_b {Bs Bn n₀ : Nat} {w : World} (hn : n₀ ≤ w.heap.size) (hs : Bs < w.heap.size) (hn' : Bn < w.heap.size) (W : World) (l : Nat) (o o' : Obj) (hl : w.heap.size ≤ l) (h : W.heap[l]? = some o) (h1 : o.isCells = false) (h2 : o.isWalk = false) : keepsK Bs Bn n₀ W (W.putObj l o') := by
  have hlt := (Array.getElem?_eq_some_iff.1 h).1
  exact ⟨belowK_b hn W l o o' hl h h1 h2, (grownBy_putObj' W l o').block Bs (by omega) (fun e => by cases e; omega), (grownBy_putObj' W l o').block Bn (by omega) (fun e => by cases e; omega)⟩
theorem keepsK_cell {Bs Bn n₀ : Nat} {A B : World} (h : keepsK Bs Bn n₀ A B) : B.cell? ⟨Bs, 0, none⟩ = A.cell? ⟨Bs, 0, none⟩ ∧ B.cell? ⟨Bn, 0, none⟩ = A.cell? ⟨Bn, 0, none⟩ := by
  unfold World.cell?
  exact ⟨by simp only [h.2.1], by simp only [h.2.2]⟩
theorem abides_drew {α : Type} {B : Nat} {J : List α → World → Prop} (h : AbidesFrom B J) (pre : List α) (W : World) (hj : J pre W) : J pre W.drew :=
  h pre W W.drew none hj ⟨rfl, rfl, rfl, Nat.le_refl _, fun _ _ _ => rfl⟩ (fun _ e => by cases e)
theorem reps_u8 (w : World) (base : Nat) (ok : Nat → Prop) : ∀ ps : List Int, Reps ((Kd.int .u8).M w base ok) 1 ps (ps.map (Value.int .u8))
  | [] => Reps.none _ _
  | p :: ps => Reps.one rfl (reps_u8 w base ok ps)
theorem chunk_stops (F : Fence) (n : Nat) (h7 : F.fn 54) (hro : F.round = none) (hn : 1 ≤ n) (Bs Bn n₀ : Nat) (A : Option Addr) (ad : Addr) (len cap : Nat) (hA : 0 < len → A = some ad) (hlen : len < 140737488355328) (hcap : len ≤ cap) (w : World)
    (hs : Bs < w.heap.size) (hb : Bn < w.heap.size)
    (hcs : w.cell? ⟨Bs, 0, none⟩ = some (.slice A len cap)) (hcn : w.cell? ⟨Bn, 0, none⟩ = some (.int .i64 8)) :
    SeqStopsK F n Try.prog 54 #[.pointer (some ⟨Bs, 0, none⟩), .pointer (some ⟨Bn, 0, none⟩)] (fun x : Part len => #[partV ad len x]) (keepsK Bs Bn n₀) (fun ys => ys.map (·.1) = List.range ((len + 7) / 8)) (fun _ => True) len w := fun l J Jx W hW hJ _ hY h0 => by
  have hcs' := (hW.cell (p := ⟨Bs, 0, none⟩) hs).trans hcs
  have hcn' := (hW.cell (p := ⟨Bn, 0, none⟩) hb).trans hcn
  by_cases h : 0 < len
  · obtain rfl := hA h
    refine (chunk1_in F n h7 hro hn l Bs Bn ad len cap hlen hcap (keepsK Bs Bn n₀) (fun X Y k e => (keepsK_cell k).1.trans e) (fun X Y k e => (keepsK_cell k).2.trans e) J Jx hY (abides_drew hJ) W hcs' hcn' h0).mono ?_
    rintro e W' ⟨he, ⟨ys, hys, hj⟩ | ⟨pre, hj⟩⟩
    · exact ⟨he, .inl ⟨ys, hys, hj⟩⟩
    · exact ⟨he, .inr ⟨pre, trivial, hj⟩⟩
  · obtain rfl : len = 0 := by omega
    exact (chunk1_nil_in F n h7 hro l Bs Bn A cap (J []) W hcs' h0).mono fun e W' ⟨he, hj⟩ => ⟨he, .inl ⟨[], rfl, hj⟩⟩

set_option maxRecDepth 100000 in
set_option maxHeartbeats 4000000 in
theorem bits_Bytes.calls (k : Nat) (A0 : Option Addr) (c0 : Nat) (l0 : List Int) (r1 : List Int) (r2 : Int) (w : World) (hr0 : Kd.C (Kd.int .u8) w A0 l0.length l0) (hc0 : l0.length ≤ c0) (h : bits_Bytes.f k l0 = some (r1, r2)) :
    Calls Try.prog 45 #[.slice A0 l0.length c0] w fun e w' => ∃ v0_ : Value, e = .returned (.tuple #[v0_, .int .i64 r2]) ∧ Kd.R (Kd.int .u8) 5 w' w.heap.size (fun _ => True) v0_ r1 ∧ Below w.heap.size w w' := by
  unfold bits_Bytes.f at h
  obtain ⟨t, ht, h⟩ := Option.bind_eq_some_iff.mp h
  refine (callsIn_wide (n := 5)).1 ?_
  have hro : Fence.wide.round = none := rfl
  refine callsIn_of_wp_marks Try.func45 rfl trivial ?_ hro
  simp only [Try.ntmps45, List.size_toArray, List.length_cons, List.length_nil, Nat.reduceAdd, Nat.reduceSub, Array.replicate_succ, Array.replicate_zero, List.push_toArray, List.append_toArray, List.nil_append, List.cons_append]
  have hR := (callsIn_wide (n := 4)).2 (bits_Right.calls k A0 c0 l0 t w hr0 hc0 ht)
  cases t with
  | false =>
    rw [if_neg (by decide)] at h
    cases h
    gi_wp2_with (first | (gi_at_call 55; refine hR.mono ?_; rintro e w' ⟨rfl, ⟨m, rfl⟩⟩) | (refine ⟨trivial, ?_⟩; gi_at_call 55; refine hR.mono ?_; rintro e w' ⟨rfl, ⟨m, rfl⟩⟩))
    exact ⟨_, results_tmp2 rfl _ _ _, _, rfl, Kd.R_nil _ _ _ _ _, pw_below_drewN (Below.refl _ _) m⟩
  | true =>
    rw [if_pos rfl] at h
    by_cases hl : l0.length < 140737488355328
    · rw [if_pos hl] at h
      cases h
      gi_wp2_with (first | (gi_at_call 55; refine hR.mono ?_; rintro e w' ⟨rfl, ⟨m, rfl⟩⟩) | (refine ⟨trivial, ?_⟩; gi_at_call 55; refine hR.mono ?_; rintro e w' ⟨rfl, ⟨m, rfl⟩⟩))
      obtain ⟨w1, hw1⟩ : ∃ w1, w.drewN m = w1 := ⟨_, rfl⟩
      have hB1 : Below w.heap.size w w1 := by rw [← hw1]; exact pw_below_drewN (Below.refl _ _) m
      have hs1 : w1.heap.size = w.heap.size := by rw [← hw1]; rfl
      have hC1 := Kd.C_below hr0 hB1
      simp only [hw1, ← hs1]
      refine ⟨trivial, (chunk_in Fence.wide 4 trivial hro _ _ _ _).mono ?_⟩
      rintro e w2' ⟨rfl, rfl⟩
      gi_wp2
      obtain ⟨ad, hA⟩ : ∃ ad, 0 < l0.length → A0 = some ad := by
        by_cases hp : 0 < l0.length
        · obtain ⟨ad, ha, _⟩ := hC1.2.2 hp; exact ⟨ad, fun _ => ha⟩
        · exact ⟨⟨0, 0, none⟩, fun h => absurd h hp⟩
      have bO := Boxed.new w1 31 (.slice none 0 0)
      have bS := Boxed.new (w1.alloc (.cells #[.slice none 0 0] 31)) 31 (.slice A0 l0.length c0)
      have bN := Boxed.new ((w1.alloc (.cells #[.slice none 0 0] 31)).alloc (.cells #[.slice A0 l0.length c0] 31)) 3 (.int .i64 8)
      simp only [World.size_alloc] at bS bN
      have hB2 : Below w1.heap.size w1 (((w1.alloc (.cells #[.slice none 0 0] 31)).alloc (.cells #[.slice A0 l0.length c0] 31)).alloc (.cells #[.int .i64 8] 3)) :=
        (((Below.refl _ w1).alloc (Nat.le_refl _) _).alloc (by simp) _).alloc (by first | (simp; done) | (simp; omega)) _
      obtain ⟨i0, hi, hz0, hz1, hz2⟩ := info_parts bytes_info
      rw [← hs1]
      have HS := Aside0.mk hs1
      clear hs1
      refine wpIn_rangeFunc_ownG hro (by omega) (gf := 54) (lb := #[.pointer (some ⟨w1.heap.size + 1, 0, none⟩), .pointer (some ⟨w1.heap.size + 1 + 1, 0, none⟩)]) rfl trivial (enters_of Try.func54 (by kernel_rfl) rfl)
        (chunk_stops Fence.wide 4 trivial hro (by omega) (w1.heap.size + 1) (w1.heap.size + 1 + 1) w1.heap.size A0 ad l0.length c0 hA hl hc0 _ (by first | (simp; done) | (simp; omega)) (by simp) (bS.alloc _).cell bN.cell) keepsK_t (keepsK_b (by first | (simp; done) | (simp; omega)) (by first | (simp; done) | (simp; omega)) (by simp)) (Below.refl _ _) (fun _ => rfl)
        (fun pre W => (∃ v, Boxed W w1.heap.size 31 v ∧ W.ownsRow w1.heap.size 5 1 v pre.length (pre.map fun x => Value.int .u8 (byte l0 x.1)) ∧ True) ∧ Boxed W (w1.heap.size + 1) 31 (.slice A0 l0.length c0) ∧ Boxed W (w1.heap.size + 1 + 1) 3 (.int .i64 8) ∧ Below w1.heap.size w1 W)
        (fun _ _ _ => False)
        (OwnFrom.and (Own.from (holdsRow_own w1.heap.size w1.heap.size 31 5 1 (fun pre : List (Part l0.length) => pre.length) (fun pre : List (Part l0.length) => pre.map fun x => Value.int .u8 (byte l0 x.1)) (fun (pre : List (Part l0.length)) v => True)) _)
          (OwnFrom.and (Own.from (boxed_own _ _ (fun _ => _)) _) (OwnFrom.and (Own.from (boxed_own _ _ (fun _ => _)) _) (ownFrom_below (Nat.le_refl _) (by simp; omega)))))
        (fun _ _ _ _ _ hs _ _ => hs)
        ⟨⟨_, (bO.alloc _).alloc _, World.ownsRow_nil _ _ _ _, trivial⟩, bS.alloc _, bN, hB2⟩
        (fun x => { tmps := #[.slice A0 l0.length c0, undef, .slice none 0 0, .int .i64 0, .pointer (some ⟨w1.heap.size, 0, none⟩), partV ad l0.length x, undef, undef, undef, .slice A0 l0.length c0, .bool true, .bool false, .slice A0 l0.length c0,
          .func (.func 54) #[] #[.pointer (some ⟨w1.heap.size + 1, 0, none⟩), .pointer (some ⟨w1.heap.size + 1 + 1, 0, none⟩)], partV ad l0.length x, undef, undef, undef, undef, undef, undef, undef, undef, undef, undef, undef, undef, undef, undef, undef, undef, undef, undef, undef], defers := [] }) ?assign ?body ?done ?stop
      case assign =>
        intro l x W K hK
        gi_wp2
        exact hK
      case body =>
        rintro l pre x W ⟨⟨v, hv, hrow, _⟩, hbs, hbn, hB⟩ hlt
        have hcC := Kd.C_below hC1 hB
        obtain ⟨j, hj⟩ : ∃ j : Nat, min 8 (l0.length - 8 * x.1) = j := ⟨_, rfl⟩
        have hxl := x.2
        have hcell : ∀ i, i < j → W.cell? ((ad.add (8 * x.1)).add i) = some (.int .u8 (l0.getD (8 * x.1 + i) 0)) := by
          intro i hi
          have hlt8 : 8 * x.1 + i < l0.length := by omega
          obtain ⟨ad', ea, hcs⟩ := hcC.2.2 (by omega)
          obtain rfl : ad' = ad := by
            have := hA (by omega)
            rw [ea] at this
            exact Option.some.inj this
          obtain ⟨c, h1, h2, h3⟩ := hcs (8 * x.1 + i) _ (List.getElem?_eq_getElem hlt8)
          have h2' : c = [Value.int .u8 l0[8 * x.1 + i]] := h2
          subst h2'
          have h4 := h3 0 _ rfl
          rw [Addr.add_add, List.getD_eq_getElem?_getD, List.getElem?_eq_getElem hlt8]
          simpa [Kd.int, Kd.scalar] using h4
        simp only [partV, hj]
        gi_wp2
        gi_loop [6, 17] (fun c i => ∃ q : Nat, q ≤ j ∧ c = .int .u8 (byOf l0 x.1 q) ∧ i = .int .i64 q) (fun _ i => j - (intOf i).toNat)
        case atStart => exact ⟨0, by omega, rfl, rfl⟩
        case round =>
          obtain ⟨q, hq, rfl, rfl⟩ := hrel
          by_cases hqj : q < j
          · have hcq := hcell q hqj
            gi_wp2
            have hsh : shl .u8 (l0.getD (8 * x.1 + q) 0) (7 - (q : Int)) = l0[8 * x.1 + q]?.getD 0 * 2 ^ (7 - q) % 256 := by
              unfold shl
              rw [show min (7 - (q : Int)).toNat IntKind.u8.bits = 7 - q from by show min _ 8 = _; omega, List.getD_eq_getElem?_getD]
              rfl
            refine ⟨⟨q + 1, by omega, ?_, by simp⟩, by simp [intOf]; omega⟩
            show _ = Value.int .u8 (Go.bits .or .u8 _ (shl _ _ _))
            rw [hsh]
          · obtain rfl : q = j := by omega
            have hc := hv.cell
            have hbyte : byte l0 x.1 = byOf l0 x.1 q := by unfold byte; rw [hj]
            gi_wp2_with (gi_at_builtin; refine wpListIn_append_own _ rfl _ _ 31 rfl w1.heap.size 5 i0 (.int .u8 0) 1 1 Try.underlying31 hi hz0 hz1 hz2 rfl (by decide) _ _ _ rfl (hrow.alloc _) ⟨W.heap.size, 0, none⟩ 1 1 [.int .u8 (byOf l0 x.1 q)] rfl rfl (cell_one_new _ _ _) (by simp [Value.oneCell']) (by unfold maxLen; omega) (by omega) (by have := hB.size; simp; omega) ?_; intro v' w2 hown' hgrow _; obtain ⟨g', cap', rfl⟩ := ownsRow_succ hown'; obtain ⟨hv1, hv2, hr2, hk2, hb2⟩ := hv.appended (by decide) hrow hB.size (Nat.le_refl _) hown' hgrow; have hc1 := hv1.cell; have hf1 := hv1.frozen)
            have hbs' := ((hbs.alloc _).kept hgrow (hbs.not_row (by decide) hrow)).other (B' := w1.heap.size) (by omega)
            have hbn' := ((hbn.alloc _).kept hgrow (hbn.not_row (by decide) hrow)).other (B' := w1.heap.size) (by omega)
            exact ⟨hk2.from _, ⟨hb2, (hbs' _).trans hbs.symm, (hbn' _).trans hbn.symm⟩, ⟨_, hv2, by simpa [hbyte] using hr2⟩, hbs' _, hbn' _, hB.trans hb2⟩
      case done =>
        rintro D ys W hD hS ⟨⟨v, hv, hrow, _⟩, hbs, hbn, hB⟩ hK
        have hc := hv.cell
        gi_wp2
        refine ⟨by simp, .inl ⟨_, _, rfl, run_takeDeferred hK, ?_⟩⟩
        have hb' := hB.trans (belowK_b (w := w1) (Nat.le_refl _) W D _ (.deferred none) (by simp at hD; omega) hK rfl rfl)
        refine ⟨_, results_tmp2 rfl _ _ _, v, rfl, ⟨fun _ _ => trivial, _, ?_, reps_u8 _ _ _ ((List.range ((l0.length + 7) / 8)).map (byte l0))⟩, ?_⟩
        · have ho := ownsRow_putObj hrow (.deferred none) hK rfl
          rw [show (ys.map fun x => Value.int .u8 (byte l0 x.1)) = ((List.range ((l0.length + 7) / 8)).map (byte l0)).map (Value.int .u8) from by rw [← hS]; simp,
            show ys.length = ((List.range ((l0.length + 7) / 8)).map (byte l0)).length from by rw [← hS]; simp] at ho
          rw [HS.out] at ho
          exact ho
        · rw [HS.out] at hb'
          exact hB1.trans hb'
      case stop =>
        rintro D c pre W _ _ h _
        exact h.elim
    · rw [if_neg hl] at h; cases h

end Go.Proofs.Ytfplmoeahbjfmaa.P
