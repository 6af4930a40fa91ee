/- Texts of this seat, one behind the other (merge.py): the walks of the functions that the law ShuttleHands uses, and plain words on what they come to. No condition. -/
import Derived.RangeFuncNested
import Derived.RangeFuncBound
import Derived.RangeFuncCalls
import Derived.RangeFuncLeaves
import Derived.RangeFuncBox
import Derived.RangeFuncSeq
import Derived.Sort.MapsRangeIn
import Derived.Shelf.Abstract
import Derived.WalkKit
import Derived.OwnWalkIn
import Derived.TacticsInMore
import Derived.LoopNIn
import Derived.LoopIn
import Derived.Maps.AppendAt
import Derived.Deep.CutRange
import Derived.Deep.CutBlock
import Derived.Deep.Slices
import Derived.ProofKit
import Derived.OpenShut
import Derived.ChangeOld
import Derived.Test.YtajiggmeappfaaaGreatDoorXMShuttleHands4
namespace Go.Proofs.YtajiggmeappfaaaGreatDoor.P
open Go.RowKit Go.Proofs.YtajiggmeappfaaaGreatDoorW.PrintWords Go.Proofs.YtajiggmeappfaaaGreatDoorW.PrintLast Go.Proofs.YtajiggmeappfaaaGreatDoorW.PrintMore
set_option maxRecDepth 100000
set_option maxHeartbeats 8000000
set_option linter.unusedVariables false
set_option linter.unusedSimpArgs false
-- YtajiggmeappfaaaGreatDoorPRMay
theorem CM.has_eq {w : World} {cm : Nat} {first : Int} {Ms : Nat → List Int} {C : Nat → Bool} {D : DataW Value} (h : CM w cm first Ms C D) (hC : ∀ i, C i = true → i ≤ 100) {i : Nat} (hi : i ≤ 100) : Maps.has D (.int .u16 (nm first i)) = C i := by
 apply Bool.eq_iff_iff.2
 rw [h.has]
 constructor
 ·rintro ⟨j, hj, e⟩
  have := nm_inj hi (hC j hj) e
  rw [this]; exact hj
 ·exact fun hc => ⟨i, hc, rfl⟩
theorem look_c {w : World} {cm n : Nat} {D : DataW Value} (h : ownC w cm n D) {a : Int} (ha : 0 ≤ a ∧ a ≤ 65535) {b : Bool} (hs : Maps.has D (.int .u16 a) = b) {v : Value} (hv : D.atKey (.int .u16 a) (.held (.slice none 0 0)) = .held v) :
  (Instr.lookup 86 (.map (some cm)) (.int .u16 a) true).run Tryz.prog w = .ok (.tuple #[v, .bool b]) w := by
 obtain ⟨v', ps, hrun, hr⟩ := h.look_ok seqLawT Tryz.underlying86 (show (zeroValue 37).run Tryz.prog w = .ok (.slice none 0 0) w by kernel_rfl) (show RC (.slice none 0 0) = some (.held (.slice none 0 0), []) from rfl) (seqKeyT ha)
 rw [hv] at hr
 have e : v' = v := by
  have h1 : (DataW.held v' : DataW Value) = .held v := congrArg Prod.fst (Option.some.inj hr)
  injection h1
 rw [hrun, hs, e]
theorem CM.look {w : World} {cm : Nat} {first : Int} {Ms : Nat → List Int} {C : Nat → Bool} {D : DataW Value} (h : CM w cm first Ms C D) (hC : ∀ i, C i = true → i ≤ 100) {i : Nat} (hi : i ≤ 100) : ∃ v, D.atKey (.int .u16 (nm first i)) (.held (.slice none 0 0)) = .held v ∧ (C i = true → PRT w v (Ms i)) := by
 cases hc : C i with
 | true =>
  obtain ⟨v, h1, h2⟩ := h.at_ i hc
  exact ⟨v, h1 _, fun _ => h2⟩
 | false =>
  exact ⟨.slice none 0 0, Maps.atKey_of_not_has (by rw [h.has_eq hC hi, hc]) _, fun e => by cases e⟩
theorem within_calls (first : Int) {b i : Nat} (h : b ≤ i) (hi : i ≤ 100) (w : World) : Calls Tryz.prog 82 #[.int .u16 (nm first b), .int .i64 3, .int .u16 (nm first i)] w fun e w' => e = .returned (.bool (decide (i < b + 3))) ∧ Below w.heap.size w w' := by
 refine (seq_Within.calls (nm first b) 3 (nm first i) (decide (i < b + 3)) w ?_).mono (fun e w' h => ⟨h.1, h.2.below⟩)
 unfold seq_Within.f seq_Ahead.f nm
 rw [IntKind.wrap_u16, Option.bind_some]
 have e : wrap64 (((first + ↑i) % 65536 - (first + ↑b) % 65536) % 65536) = (i : Int) - b := by unfold wrap64; omega
 rw [e]
 refine congrArg some ?_
 by_cases c : i < b + 3
 ·rw [decide_eq_true c, decide_eq_true (by omega)]
 ·rw [decide_eq_false c, decide_eq_false (by omega)]
def rmay1.T : Bool × List (List Nat × List Nat) := (true, [([], []), ([0], [0]), ([1], [1]), ([2], [2]), ([], []), ([4], [4]), ([3, 5], [3, 5]), ([6], [6]), ([7], [7]), ([7], [7]), ([8, 0, 1, 2, 3, 4, 5, 6, 7, 8], [8]), ([9, 10, 0, 1, 2, 3, 4, 5, 6, 7, 8, 9, 10], [9])])
def rmay1.B : List Nat := [0, 1, 3, 7, 0, 16, 63, 127, 255, 255, 511, 2047]
theorem rmay1.tab : rtab .any (opsOf Tryz.f37 1) = rmay1.T := by kernel_rfl
theorem rmay1.bits : waitsOk rmay1.T.2 rmay1.B = true := by kernel_rfl
def rmay4a.T : Bool × List (List Nat × List Nat) := (true, [([], []), ([0], [0]), ([1], [1]), ([2, 1], [1, 2]), ([1], [1]), ([4, 1], [1, 4]), ([5, 1], [1, 5]), ([6, 1], [1, 6]), ([3, 7, 1, 1], [1, 3, 7]), ([1, 8], [1, 8]), ([9, 8], [9])])
def rmay4a.B : List Nat := [0, 1, 3, 7, 3, 19, 51, 115, 255, 511, 1023]
theorem rmay4a.tab : rtab .any (opsOf Tryz.f37 4) = rmay4a.T := by kernel_rfl
theorem rmay4a.bits : waitsOk rmay4a.T.2 rmay4a.B = true := by kernel_rfl
def rmay4b.T : Bool × List (List Nat × List Nat) := (true, [([], []), ([0], [0]), ([1], [1]), ([2, 1], [1, 2]), ([1], [1]), ([4, 1], [1, 4]), ([5, 1], [1, 5]), ([6, 1], [1, 6]), ([3, 7, 1, 1], [1, 3, 7]), ([1, 8], [1, 8]), ([9, 8], [9])])
def rmay4b.B : List Nat := [0, 1, 3, 7, 3, 19, 51, 115, 255, 511, 1023]
theorem rmay4b.tab : rtab .any (opsOf Tryz.f37 4) = rmay4b.T := by kernel_rfl
theorem rmay4b.bits : waitsOk rmay4b.T.2 rmay4b.B = true := by kernel_rfl
def rmay6.T : Bool × List (List Nat × List Nat) := (true, [([], []), ([0], [0]), ([1], [1]), ([2], [2]), ([], []), ([4], [4]), ([5], [5]), ([6], [6]), ([], []), ([8], [8]), ([3, 7, 9], [3, 7, 9]), ([10], [10]), ([11, 10], [11])])
def rmay6.B : List Nat := [0, 1, 3, 7, 0, 16, 48, 112, 0, 256, 1023, 2047, 4095]
theorem rmay6.tab : rtab .any (opsOf Tryz.f37 6) = rmay6.T := by kernel_rfl
theorem rmay6.bits : waitsOk rmay6.T.2 rmay6.B = true := by kernel_rfl
theorem rmay_calls {w : World} {S rb gp mp cm : Nat} {first : Int} {n : Nat} {Ms : Nat → List Int} {b : Nat} {C : Nat → Bool} {out : Value} {got : Nat} (h : RD w S rb gp mp cm first n Ms b C out got) {i : Nat} (hi : i < n) (hb3 : i < b + 3) (v ln : Int) (A : Option Addr) (m c : Nat) :
  Calls Tryz.prog 37 #[.pointer (some ⟨rb, 0, none⟩), .agg (fr 1 (nm first i) v ln (.slice A m c))] w fun e w' => e = .returned (.int .i64 (if C i = true ∨ i < b then 10 else 0)) ∧ Below w.heap.size w w' := by
 obtain ⟨D, hD⟩ := h.own
 have hle := h.le
 have hC : ∀ i, C i = true → i ≤ 100 := fun i hi => by have := h.ran i hi; omega
 obtain ⟨q, hq⟩ : ∃ q, q = nm first i := ⟨_, rfl⟩
 have hqr := nm_rng first i
 have hhas := hD.has_eq hC (show i ≤ 100 by omega)
 obtain ⟨v0, hv0, _⟩ := hD.look hC (show i ≤ 100 by omega)
 have HBE := ax (before_calls (nm first i) (nm first b))
 rw [before_nm first i b (by omega) (by omega)] at HBE
 have HWI := ax (fun (hbi : b ≤ i) => within_calls first hbi (show i ≤ 100 by omega))
 rw [← hq] at hqr hhas hv0 HBE HWI ⊢
 obtain ⟨r, hr⟩ : ∃ r : Int, r = if C i = true ∨ i < b then 10 else 0 := ⟨_, rfl⟩
 rw [← hr]
 have HRR := ax hr
 clear hr
 obtain ⟨z, hz⟩ : ∃ z, z = C i := ⟨_, rfl⟩
 rw [← hz] at hhas
 have HL := ax (And.intro hqr (And.intro hhas hv0))
 have hba := below_alloc (Below.refl w.heap.size w) (.cells (fr 1 q v ln (.slice A m c)) 47)
 have hbb := blk_new w (.cells (fr 1 q v ln (.slice A m c)) 47)
 obtain ⟨bx, hbx⟩ : ∃ bx, bx = w.heap.size := ⟨_, rfl⟩
 obtain ⟨w1, hw1⟩ : ∃ w1, w1 = w.alloc (.cells (fr 1 q v ln (.slice A m c)) 47) := ⟨_, rfl⟩
 rw [← hw1] at hba hbb
 rw [← hbx] at hbb
 have hrb := (hba.block rb (blk_lt h.box)).trans h.box
 have hcm := ownC_block hD.own (hba.block cm hD.own.lt)
 have HSN := ax (show ∀ w', Below w1.heap.size w1 w' → (w'.cell? ⟨rb, 3, none⟩ = some (.map (some cm)) ∧ w'.cell? ⟨rb, 1, none⟩ = some (.int .u16 (nm first b)) ∧ w'.cell? ⟨rb, 0, none⟩ = some (.int .i64 3)) ∧ (w'.cell? ⟨bx, 0, none⟩ = some (.int .i64 1) ∧ w'.cell? ⟨bx, 1, none⟩ = some (.int .u16 q)) ∧ ownC w' cm (Maps.size D) D from fun w' hb => ⟨⟨blk_cell ((hb.block rb (blk_lt hrb)).trans hrb) 3, blk_cell ((hb.block rb (blk_lt hrb)).trans hrb) 1, blk_cell ((hb.block rb (blk_lt hrb)).trans hrb) 0⟩, ⟨blk_cell ((hb.block bx (blk_lt hbb)).trans hbb) 0, blk_cell ((hb.block bx (blk_lt hbb)).trans hbb) 1⟩, ownC_block hcm (hb.block cm hcm.lt)⟩)
 have HB1 := ax hba
 have HW := ax (And.intro hw1 hbx)
 have HZ := ax (And.intro hz hb3)
 have HB := ax (below_drew1 (Below.refl w1.heap.size w1))
 have hk0 := (HSN.out w1.drew HB.out).2.1.1
 clear h hD hle hC hq hqr hhas hv0 hz hba hbb hbx hw1 hrb hcm hb3
 go_enter Tryz.func37, Tryz.ntmps37
 go_wp2_with fail
 rw [← HW.out.1, ← HW.out.2]
 refine start_ (n := 12) (S := (fun w' => (w'.cell? ⟨rb, 3, none⟩ = some (.map (some cm)) ∧ w'.cell? ⟨rb, 1, none⟩ = some (.int .u16 (nm first b)) ∧ w'.cell? ⟨rb, 0, none⟩ = some (.int .i64 3)) ∧ (w'.cell? ⟨bx, 0, none⟩ = some (.int .i64 1) ∧ w'.cell? ⟨bx, 1, none⟩ = some (.int .u16 q)) ∧ ownC w' cm (Maps.size D) D)) (ds := []) #[false, false, false, false, false, false, false, false, false, false, false, false] kr rfl rfl (HSN.out _ HB.out) (fun hHeld => ?_)
 refine with_tabW rmay1.tab rmay1.bits (fun HT_ HW_ => ?_)
 refine pu_ 0 8 HT_ ?_; refine pu_ 1 9 HT_ ?_; refine pu_ 2 10 HT_ ?_
 refine take_ (i := 3) (N := some 11) (v := ?_) (a' := ?_) #[true, true, true, true, false, false, false, false, false, false, false, false] rfl rfl (take_ofW HT_.out HW_.out kr) (fun _ _ _ h => h) (Or.inl ⟨by rfl, ?_⟩) hHeld ?_ ?_
 rotate_left
 ·rintro w' ⟨s0, s1, s2⟩
  have s9 := s0.1; go_simp; with_reducible rfl
 rotate_left
 ·simp only [Act.put, List.setIfInBounds_toArray, List.set_cons_zero, List.set_cons_succ, i64_w, i32_w]
  rfl
 refine pu_ 4 12 HT_ ?_
 refine take_ (i := 5) (N := some 13) (v := ?_) (a' := ?_) #[true, true, true, true, true, true, false, false, false, false, false, false] rfl rfl (take_ofW HT_.out HW_.out kr) (fun _ _ _ h => h) (Or.inl ⟨by rfl, ?_⟩) hHeld ?_ ?_
 rotate_left
 ·rintro w' ⟨s0, s1, s2⟩
  have s9 := s1.2; go_simp; with_reducible rfl
 rotate_left
 ·simp only [Act.put, List.setIfInBounds_toArray, List.set_cons_zero, List.set_cons_succ, i64_w, i32_w]
  rfl
 refine take_ (i := 6) (N := some 14) (v := ?_) (a' := ?_) #[true, true, true, true, true, true, true, false, false, false, false, false] rfl rfl (take_ofW HT_.out HW_.out kr) (fun _ _ _ h => h) (Or.inl ⟨by rfl, ?_⟩) hHeld ?_ ?_
 rotate_left
 ·rintro w' ⟨s0, s1, s2⟩
  have hl := look_c s2 HL.out.1 HL.out.2.1 HL.out.2.2; go_simp; with_reducible rfl
 rotate_left
 ·simp only [Act.put, List.setIfInBounds_toArray, List.set_cons_zero, List.set_cons_succ, i64_w, i32_w]
  rfl
 refine pu_ 7 7 HT_ ?_; refine pu_ 8 15 HT_ ?_; refine pu_ 9 16 HT_ ?_; refine pu_ 10 5 HT_ ?_; refine pu_ 11 6 HT_ ?_
 refine done_ (done_of HT_.out kr) ?_
 clear hHeld HT_ HW_
 have HB2 := ax (below_drew1 HB.out)
 cases z with
 | true =>
  go_wp2_with fail
  refine start_ (n := 11) (S := (fun w' => True)) (ds := []) #[false, false, false, false, false, false, false, false, false, false, false] kr rfl rfl trivial (fun hHeld => ?_)
  refine with_tabW rmay4a.tab rmay4a.bits (fun HT_ HW_ => ?_)
  refine pu_ 0 22 HT_ ?_; refine pu_ 1 23 HT_ ?_; refine pn_ 2 24 HT_ ?_; refine pn_ 3 25 HT_ ?_; refine pn_ 4 26 HT_ ?_; refine pn_ 5 27 HT_ ?_; refine pn_ 6 28 HT_ ?_; refine pn_ 7 29 HT_ ?_; refine pn_ 8 30 HT_ ?_; refine pu_ 9 31 HT_ ?_; refine pu_ 10 21 HT_ ?_
  refine done_ (done_of HT_.out kr) ?_
  clear hHeld HT_ HW_
  go_wp2_with fail
  have hrs : (Tryz.f37).results = #[.tmp 4] := by kernel_rfl
  refine bodyPost_ret (results_tmp hrs _ _ _) rfl ?_
  exact ⟨by rw [HRR.out, if_pos (.inl HZ.out.1.symm)]; rfl, below_step HB1.out HB2.out⟩
 | false =>
  go_wp2_with fail
  refine start_ (n := 11) (S := (fun w' => (w'.cell? ⟨rb, 3, none⟩ = some (.map (some cm)) ∧ w'.cell? ⟨rb, 1, none⟩ = some (.int .u16 (nm first b)) ∧ w'.cell? ⟨rb, 0, none⟩ = some (.int .i64 3)) ∧ (w'.cell? ⟨bx, 0, none⟩ = some (.int .i64 1) ∧ w'.cell? ⟨bx, 1, none⟩ = some (.int .u16 q)) ∧ ownC w' cm (Maps.size D) D)) (ds := [8]) #[false, false, false, false, false, false, false, false, false, false, false] kr rfl rfl (HSN.out _ HB2.out) (fun hHeld => ?_)
  refine with_tabW rmay4b.tab rmay4b.bits (fun HT_ HW_ => ?_)
  refine pu_ 0 22 HT_ ?_; refine pu_ 1 23 HT_ ?_; refine pu_ 2 24 HT_ ?_
  refine take_ (i := 3) (N := some 25) (v := ?_) (a' := ?_) #[true, true, true, true, false, false, false, false, false, false, false] rfl rfl (take_ofW HT_.out HW_.out kr) (fun _ _ _ h => h) (Or.inl ⟨by rfl, ?_⟩) hHeld ?_ ?_
  rotate_left
  ·rintro w' ⟨s0, s1, s2⟩
   have s9 := s1.2; go_simp; with_reducible rfl
  rotate_left
  ·simp only [Act.put, List.setIfInBounds_toArray, List.set_cons_zero, List.set_cons_succ, i64_w, i32_w]
   rfl
  refine pu_ 4 26 HT_ ?_; refine pu_ 5 27 HT_ ?_; refine pu_ 6 28 HT_ ?_
  refine take_ (i := 7) (N := some 29) (v := ?_) (a' := ?_) #[true, true, true, true, true, true, true, true, false, false, false] rfl rfl (take_ofW HT_.out HW_.out kr) (fun _ _ _ h => h) (Or.inl ⟨by rfl, ?_⟩) hHeld ?_ ?_
  rotate_left
  ·rintro w' ⟨s0, s1, s2⟩
   have s9 := s0.2.1; go_simp; with_reducible rfl
  rotate_left
  ·simp only [Act.put, List.setIfInBounds_toArray, List.set_cons_zero, List.set_cons_succ, i64_w, i32_w]
   rfl
  refine last_ (i := 8) (N := some 30) #[true, true, true, true, true, true, true, true, true, false, false] rfl rfl (one_of HT_.out kr) (by decide) (fun K hK => ?_)
  refine goes_ Tryz.func81 kr rfl #[.int .u16 q, .int .u16 (nm first b)] (by rfl) rfl rfl gs_ ?_
  refine (HBE.out _).mono ?_
  rintro e w3 ⟨rfl, hb3⟩
  have HB3 := ax (below_step HB2.out hb3)
  clear hb3
  refine ⟨_, rfl, ?_⟩
  refine hK.out _ _ ?_
  clear hK K
  refine norm_ (a' := ?_) ?_ ?_
  rotate_left
  ·show Act.put _ (some 30) _ = _
   simp only [Act.put, List.setIfInBounds_toArray, List.set_cons_zero, List.set_cons_succ, i64_w, i32_w]
   rfl
  refine pu_ 9 31 HT_ ?_; refine pu_ 10 21 HT_ ?_
  refine done_ (done_of HT_.out kr) ?_
  clear hHeld HT_ HW_
  by_cases hib : i < b
  ·rw [decide_eq_true hib]
   go_wp2_with fail
   have hrs : (Tryz.f37).results = #[.tmp 4] := by kernel_rfl
   refine bodyPost_ret (results_tmp hrs _ _ _) rfl ?_
   exact ⟨by rw [HRR.out, if_pos (.inr hib)]; rfl, below_step HB1.out HB3.out⟩
  ·rw [decide_eq_false hib]
   have HIB := ax hib
   have HWI2 := ax (HWI.out (by omega))
   rw [decide_eq_true HZ.out.2] at HWI2
   clear hib
   go_wp2_with fail
   have HB4 := ax (below_drew1 HB3.out)
   refine start_ (n := 13) (S := (fun w' => (w'.cell? ⟨rb, 3, none⟩ = some (.map (some cm)) ∧ w'.cell? ⟨rb, 1, none⟩ = some (.int .u16 (nm first b)) ∧ w'.cell? ⟨rb, 0, none⟩ = some (.int .i64 3)) ∧ (w'.cell? ⟨bx, 0, none⟩ = some (.int .i64 1) ∧ w'.cell? ⟨bx, 1, none⟩ = some (.int .u16 q)) ∧ ownC w' cm (Maps.size D) D)) (ds := [10]) #[false, false, false, false, false, false, false, false, false, false, false, false, false] kr rfl rfl (HSN.out _ HB4.out) (fun hHeld => ?_)
   refine with_tabW rmay6.tab rmay6.bits (fun HT_ HW_ => ?_)
   refine pu_ 0 33 HT_ ?_; refine pu_ 1 34 HT_ ?_; refine pu_ 2 35 HT_ ?_
   refine take_ (i := 3) (N := some 36) (v := ?_) (a' := ?_) #[true, true, true, true, false, false, false, false, false, false, false, false, false] rfl rfl (take_ofW HT_.out HW_.out kr) (fun _ _ _ h => h) (Or.inl ⟨by rfl, ?_⟩) hHeld ?_ ?_
   rotate_left
   ·rintro w' ⟨s0, s1, s2⟩
    have s9 := s0.2.1; go_simp; with_reducible rfl
   rotate_left
   ·simp only [Act.put, List.setIfInBounds_toArray, List.set_cons_zero, List.set_cons_succ, i64_w, i32_w]
    rfl
   refine pu_ 4 37 HT_ ?_; refine pu_ 5 38 HT_ ?_; refine pu_ 6 39 HT_ ?_
   refine take_ (i := 7) (N := some 40) (v := ?_) (a' := ?_) #[true, true, true, true, true, true, true, true, false, false, false, false, false] rfl rfl (take_ofW HT_.out HW_.out kr) (fun _ _ _ h => h) (Or.inl ⟨by rfl, ?_⟩) hHeld ?_ ?_
   rotate_left
   ·rintro w' ⟨s0, s1, s2⟩
    have s9 := s0.2.2; go_simp; with_reducible rfl
   rotate_left
   ·simp only [Act.put, List.setIfInBounds_toArray, List.set_cons_zero, List.set_cons_succ, i64_w, i32_w]
    rfl
   refine pu_ 8 41 HT_ ?_
   refine take_ (i := 9) (N := some 42) (v := ?_) (a' := ?_) #[true, true, true, true, true, true, true, true, true, true, false, false, false] rfl rfl (take_ofW HT_.out HW_.out kr) (fun _ _ _ h => h) (Or.inl ⟨by rfl, ?_⟩) hHeld ?_ ?_
   rotate_left
   ·rintro w' ⟨s0, s1, s2⟩
    have s9 := s1.2; go_simp; with_reducible rfl
   rotate_left
   ·simp only [Act.put, List.setIfInBounds_toArray, List.set_cons_zero, List.set_cons_succ, i64_w, i32_w]
    rfl
   refine last_ (i := 10) (N := some 43) #[true, true, true, true, true, true, true, true, true, true, true, false, false] rfl rfl (one_of HT_.out kr) (by decide) (fun K hK => ?_)
   refine goes_ Tryz.func82 kr rfl #[.int .u16 (nm first b), .int .i64 3, .int .u16 q] (by rfl) rfl rfl gs_ ?_
   refine (HWI2.out _).mono ?_
   rintro e w5 ⟨rfl, hb5⟩
   have HB5 := ax (below_step HB4.out hb5)
   clear hb5
   refine ⟨_, rfl, ?_⟩
   refine hK.out _ _ ?_
   clear hK K
   refine norm_ (a' := ?_) ?_ ?_
   rotate_left
   ·show Act.put _ (some 43) _ = _
    simp only [Act.put, List.setIfInBounds_toArray, List.set_cons_zero, List.set_cons_succ, i64_w, i32_w]
    rfl
   refine pu_ 11 44 HT_ ?_; refine pu_ 12 32 HT_ ?_
   refine done_ (done_of HT_.out kr) ?_
   clear hHeld HT_ HW_
   go_wp2_with fail
   have hrs : (Tryz.f37).results = #[.tmp 4] := by kernel_rfl
   refine bodyPost_ret (results_tmp hrs _ _ _) rfl ?_
   exact ⟨by rw [HRR.out, if_neg (by have h1 := HZ.out.1; have h2 := HIB.out; simp [← h1, h2])]; rfl, below_step HB1.out HB5.out⟩
-- YtajiggmeappfaaaGreatDoorPRAdv
def outOf (w : World) (rb : Nat) : Nat := match w.cell? ⟨rb, 4, none⟩ with
 | some (.slice _ n _) => n
 | _ => 0
theorem outOf_eq {w : World} {S rb gp mp cm : Nat} {first : Int} {n : Nat} {Ms : Nat → List Int} {b : Nat} {C : Nat → Bool} {out : Value} {got : Nat} (h : RD w S rb gp mp cm first n Ms b C out got) : outOf w rb = b - got := by
 obtain ⟨es, h1, h2, _⟩ := h.out_.row
 obtain ⟨A, c, rfl, _⟩ := Kd.Q_slice h1
 unfold outOf
 rw [show w.cell? ⟨rb, 4, none⟩ = some (.slice A es.length c) from blk_cell h.box 4]
 exact h2
abbrev RF (rb cm : Nat) (out : Value) (k : Nat) : Prop := k = rb ∨ k = cm ∨ out.ownBlock = some k
def radv0.T : Bool × List (List Nat × List Nat) := (true, [([], []), ([0], [0]), ([1], [1]), ([2], [2]), ([], []), ([4], [4]), ([5], [5]), ([6], [6]), ([3, 7], [3, 7]), ([8], [8]), ([9], [9]), ([9], [9]), ([10, 0, 1, 2, 3, 4, 5, 6, 7, 8, 9, 10], [10]), ([11, 12, 0, 1, 2, 3, 4, 5, 6, 7, 8, 9, 10, 11, 12], [11])])
def radv0.B : List Nat := [0, 1, 3, 7, 0, 16, 48, 112, 255, 511, 1023, 1023, 2047, 8191]
theorem radv0.tab : rtab .any (opsOf Tryz.f41 0) = radv0.T := by kernel_rfl
theorem radv0.bits : waitsOk radv0.T.2 radv0.B = true := by kernel_rfl
def radv3.T : Bool × List (List Nat × List Nat) := (true, [([], []), ([0], [0]), ([1], [1]), ([2], [2]), ([], []), ([4], [4]), ([5], [5]), ([6], [6]), ([3, 7], [3, 7])])
def radv3.B : List Nat := [0, 1, 3, 7, 0, 16, 48, 112, 255]
theorem radv3.tab : rtab .any (opsOf Tryz.f41 3) = radv3.T := by kernel_rfl
theorem radv3.bits : waitsOk radv3.T.2 radv3.B = true := by kernel_rfl
theorem radv_calls {w : World} {S rb gp mp cm : Nat} {first : Int} {n : Nat} {Ms : Nat → List Int} {b : Nat} {C : Nat → Bool} {out : Value} {got : Nat} (h : RD w S rb gp mp cm first n Ms b C out got) :
  Calls Tryz.prog 41 #[.pointer (some ⟨rb, 0, none⟩)] w fun e w' => e = .returned (.tuple #[]) ∧ ∃ (b' : Nat) (C' : Nat → Bool) (out' : Value), RD w' S rb gp mp cm first n Ms b' C' out' got ∧ b ≤ b' ∧ C' b' = false ∧ (∀ j, (j < b' ∨ C' j = true) ↔ (j < b ∨ C j = true)) ∧ Keep (RF rb cm out) w w' ∧ (∀ k, out'.ownBlock = some k → out.ownBlock = some k ∨ w.heap.size ≤ k) := by
 have HH := ax h
 clear h
 go_enter Tryz.func41, Tryz.ntmps41
 go_wp2_with fail
 go_loopw [] (fun wz => ∃ (b2 : Nat) (C2 : Nat → Bool) (out2 : Value), Aside0 (RD wz S rb gp mp cm first n Ms b2 C2 out2 got) ∧ b ≤ b2 ∧ Aside0 (∀ j, (j < b2 ∨ C2 j = true) ↔ (j < b ∨ C j = true)) ∧ Aside0 (Keep (RF rb cm out) w wz) ∧ Aside0 (∀ k, out2.ownBlock = some k → out.ownBlock = some k ∨ w.heap.size ≤ k)) (fun wz => 10 - outOf wz rb)
 case atStart => exact ⟨b, C, out, HH, Nat.le_refl _, ⟨fun j => Iff.rfl⟩, ⟨Keep.refl _ _⟩, ⟨fun k hk => .inl hk⟩⟩
 case round =>
  obtain ⟨b2, C2, out2, HD, hb2, HI, HK, HO⟩ := hrel
  obtain ⟨D, hD⟩ := HD.out.own
  have hle := HD.out.le
  have hC : ∀ i, C2 i = true → i ≤ 100 := fun i hi => by have := HD.out.ran i hi; omega
  have hhas := hD.has_eq hC (show b2 ≤ 100 by omega)
  obtain ⟨v0, hv0, hp0⟩ := hD.look hC (show b2 ≤ 100 by omega)
  obtain ⟨q, hq⟩ : ∃ q, q = nm first b2 := ⟨_, rfl⟩
  have hqr := nm_rng first b2
  have hbox := HD.out.box
  rw [← hq] at hhas hv0 hqr hbox
  obtain ⟨z, hz⟩ : ∃ z, z = C2 b2 := ⟨_, rfl⟩
  rw [← hz] at hhas hp0
  have HL := ax (And.intro hqr (And.intro hhas hv0))
  have HP0 := ax hp0
  have HZ := ax (And.intro hz (And.intro hq hle))
  have HDD := ax hD
  have HBX := ax hbox
  have HB0 := ax (below_drew1 (Below.refl wr.heap.size wr))
  have HI0 := ax (show wr.drew.cell? ⟨rb, 3, none⟩ = some (.map (some cm)) ∧ wr.drew.cell? ⟨rb, 1, none⟩ = some (.int .u16 q) ∧ ownC wr.drew cm (Maps.size D) D from ⟨blk_cell hbox 3, blk_cell hbox 1, hD.own.drew⟩)
  clear hD hle hC hhas hv0 hp0 hq hqr hbox hz
  go_wp2_with fail
  refine start_ (n := 14) (S := (fun w' => w'.cell? ⟨rb, 3, none⟩ = some (.map (some cm)) ∧ w'.cell? ⟨rb, 1, none⟩ = some (.int .u16 q) ∧ ownC w' cm (Maps.size D) D)) (ds := []) #[false, false, false, false, false, false, false, false, false, false, false, false, false, false] kr rfl rfl HI0.out (fun hHeld => ?_)
  refine with_tabW radv0.tab radv0.bits (fun HT_ HW_ => ?_)
  refine pu_ 0 5 HT_ ?_; refine pu_ 1 6 HT_ ?_; refine pu_ 2 7 HT_ ?_; refine tk_ 3 8 HT_ HW_ hHeld ?_; refine pu_ 4 9 HT_ ?_; refine pu_ 5 10 HT_ ?_; refine pu_ 6 11 HT_ ?_; refine tk_ 7 12 HT_ HW_ hHeld ?_
  refine take_ (i := 8) (N := some 13) (v := ?_) (a' := ?_) #[true, true, true, true, true, true, true, true, true, false, false, false, false, false] rfl rfl (take_ofW HT_.out HW_.out kr) (fun _ _ _ h => h) (Or.inl ⟨by rfl, ?_⟩) hHeld ?_ ?_
  rotate_left
  ·rintro w' ⟨s0, s1, s2⟩
   have hl := look_c s2 HL.out.1 HL.out.2.1 HL.out.2.2; go_simp; with_reducible rfl
  rotate_left
  ·simp only [Act.put, List.setIfInBounds_toArray, List.set_cons_zero, List.set_cons_succ, i64_w, i32_w]
   rfl
  refine pu_ 9 4 HT_ ?_; refine pu_ 10 14 HT_ ?_; refine pu_ 11 15 HT_ ?_; refine pu_ 12 2 HT_ ?_; refine pu_ 13 3 HT_ ?_
  refine done_ (done_of HT_.out kr) ?_
  clear hHeld HT_ HW_ HI0
  cases z with
  | false =>
   go_wp2_with fail
   refine bodyPost_ret (results_none rfl _ _ _) rfl ?_
   exact ⟨rfl, b2, C2, out2, HD.out.below HB0.out, hb2, HZ.out.1.symm, HI.out, HK.out.seq (Keep.of_below HB0.out), HO.out⟩
  | true =>
   obtain ⟨Av, cv, hva, hvC, hvc, hvt⟩ := HP0.out rfl
   obtain ⟨es, hq1, hq2, hq3⟩ := HD.out.out_.row
   obtain ⟨Ao, co, rfl, hoc⟩ := Kd.Q_slice hq1
   have HPT := ax (HP0.out rfl)
   have HQ := ax (And.intro hq1 (And.intro hq2 hq3))
   obtain ⟨mo, hmo⟩ : ∃ mo, mo = es.length := ⟨_, rfl⟩
   obtain ⟨ln, hln⟩ : ∃ ln, ln = (Ms b2).length := ⟨_, rfl⟩
   rw [← hln] at hva
   subst hva
   have hbx : wr.drew.heap[rb]? = some (.cells (rcvC q gp cm (.slice Ao mo co)) 88 (0, 0)) := by rw [hmo]; exact HBX.out
   have hqd : Kd.Q kO 37 wr.drew S (fun _ => True) (.slice Ao mo co) es := by rw [hmo]; exact Kd.Q_drew hq1
   have HQD := ax hqd
   have HBD := ax hbx
   have hc4 := blk_cell hbx 4
   have HM := ax (And.intro hmo hln)
   have HSz := ax (show S ≤ wr.drew.heap.size from by have := HD.out.low.1; have := blk_lt hbx; omega)
   have HLn := ax (show (es.length + 1) * 24 ≤ 140737488355328 by have := HZ.out.2.2; omega)
   clear hvC hvc hvt hq1 hq2 hq3 hoc hmo hln hbx hqd
   go_wp2_with ((with_reducible refine gate_builtin (b := .append) (xs := #[.tmp 22, .tmp 24]) rfl ?_); at_builtin; refine Kd.Q_append kO (w0 := wr.drew) S rfl (.tmp 22) (.tmp 24) 23 37 (.slice none 0 0) 24 rfl Tryz.underlying23 sl_info rfl (by decide) (by decide) (.slice Ao mo co) es (Av, ln, cv) [encO (Av, ln, cv)] (fun _ => True) (fun _ => False) rfl (by first | rfl | (go_simp; done) | (go_simp; rfl)) rfl (fun _ hk => hk.elim) (fun _ _ => trivial) HQD.out (Below.refl _ _) HSz.out HLn.out ?_; intro v1 w1 ho hb hg hat; obtain ⟨A1, c1, e1, hc1'⟩ := Kd.Q_slice ho; subst e1; obtain ⟨m1, hm1⟩ : ∃ m1, m1 = (es ++ [(Av, ln, cv)]).length := ⟨_, rfl⟩; rw [← hm1] at ho hat ⊢; have HM1 := ax hm1; have HO1 := ax ho; have HG1 := ax hg; have HAT := ax hat; have hbx1 := (hg.block rb (blk_lt HBD.out) (fun e => by
    obtain ⟨_, cs', hcs'⟩ := Q_typedO HQD.out rb e.symm
    exact two_types HBD.out hcs' (by decide))).trans HBD.out; have HBX1 := ax hbx1; have hc41 := blk_cell hbx1 4; have hf41 := blk_frozen hbx1 4; clear ho hb hg hat hbx1 hm1 hc1')
   have hp2 := Put1.set rb 4 w1 (.slice A1 m1 c1)
   have hbx2 := blk_put HBX1.out 4 (.slice A1 m1 c1) rfl
   have HBX2 := ax (show (w1.setCell ⟨rb, 4, none⟩ (.slice A1 m1 c1)).heap[rb]? = some (.cells (rcvC q gp cm (.slice A1 m1 c1)) 88 (0, 0)) from hbx2)
   obtain ⟨w2, hw2⟩ : ∃ w2, w2 = w1.setCell ⟨rb, 4, none⟩ (.slice A1 m1 c1) := ⟨_, rfl⟩
   rw [← hw2] at hp2 HBX2 ⊢
   clear hw2 hbx2 hc41 hf41
   have HP2 := ax hp2
   have hmap : ∀ m : Nat, (∃ (es : Array MapEntry) (cl : Nat), wr.heap[m]? = some (Obj.map es cl)) → w2.heap[m]? = wr.heap[m]? := fun m ⟨es', cl, hm⟩ => (hp2.block m (fun e => by subst e; rw [HBX.out] at hm; cases hm)).trans (HG1.out.block m (blk_lt hm) (fun e => by
    obtain ⟨_, cs', hcs'⟩ := Q_typedO HQD.out m e.symm
    have hm' : wr.drew.heap[m]? = some (Obj.map es' cl) := hm
    rw [hcs'] at hm'; cases hm'))
   have HMP := ax hmap
   have hcm2 := ownC_block HDD.out.own (hmap cm (ownC_map HDD.out.own))
   have HB2 := ax (below_drew1 (Below.refl w2.heap.size w2))
   have HI2 := ax (show w2.drew.cell? ⟨rb, 3, none⟩ = some (.map (some cm)) ∧ w2.drew.cell? ⟨rb, 1, none⟩ = some (.int .u16 q) ∧ ownC w2.drew cm (Maps.size D) D from ⟨blk_cell HBX2.out 3, blk_cell HBX2.out 1, hcm2.drew⟩)
   clear hp2 hmap hcm2
   refine start_ (n := 9) (S := (fun w' => w'.cell? ⟨rb, 3, none⟩ = some (.map (some cm)) ∧ w'.cell? ⟨rb, 1, none⟩ = some (.int .u16 q) ∧ ownC w' cm (Maps.size D) D)) (ds := [8]) #[false, false, false, false, false, false, false, false, false] kr rfl rfl HI2.out (fun hHeld => ?_)
   refine with_tabW radv3.tab radv3.bits (fun HT_ HW_ => ?_)
   refine pu_ 0 28 HT_ ?_; refine pu_ 1 29 HT_ ?_; refine pu_ 2 30 HT_ ?_; refine tk_ 3 31 HT_ HW_ hHeld ?_; refine pu_ 4 32 HT_ ?_; refine pu_ 5 33 HT_ ?_; refine pu_ 6 34 HT_ ?_; refine tk_ 7 35 HT_ HW_ hHeld ?_
   refine last_ (i := 8) (N := none) #[true, true, true, true, true, true, true, true, true] rfl rfl (one_of HT_.out kr) (by decide) (fun K hK => ?_)
   rw [if_pos (by rfl)]
   refine wp_del (.tmp 31) (.tmp 35) 86 seqT rfl seqLawT Tryz.underlying86 (by rfl) hHeld.2.2 (by rfl) (seqKeyT HL.out.1) ?_
   intro w5 hown hturn
   have HO5 := ax hown
   have HT5 := ax (map_put hturn)
   have hb5 : w5.heap[rb]? = some (.cells (rcvC q gp cm (.slice A1 m1 c1)) 88 (0, 0)) := ((map_put hturn).block rb (fun e => by
    obtain ⟨es', cl, hm⟩ := ownC_map hHeld.2.2
    rw [← e] at hm
    have hx : w2.drew.heap[rb]? = some _ := HBX2.out
    rw [hx] at hm; cases hm)).trans HBX2.out
   have HBX5 := ax hb5
   clear hown hturn hHeld hb5
   refine hK.out _ _ ?_
   clear hK K
   refine done_ (done_of HT_.out kr) ?_
   simp only [Act.put]
   have hc51 := blk_cell HBX5.out 1
   have hf51 := blk_frozen HBX5.out 1
   have HPL := ax (plus_calls first b2 1 1 rfl (by decide))
   rw [← HZ.out.2.1] at HPL
   go_wp2_with (first
    | (go_at_call 18; refine (HPL.out _).mono ?_; rintro e w6 ⟨rfl, hb6⟩; have hb6x := (hb6.block rb (blk_lt HBX5.out)).trans HBX5.out; have HBX6 := ax hb6x; have HB6 := ax hb6; have hc61 := blk_cell hb6x 1; have hf61 := blk_frozen hb6x 1; clear hb6 hb6x)
    | fail)
   have hp7 := Put1.set rb 1 w6 (.int .u16 (nm first (b2 + 1)))
   have hbx7 : RCV (w6.setCell ⟨rb, 1, none⟩ (.int .u16 (nm first (b2 + 1)))) rb (nm first (b2 + 1)) gp cm (.slice A1 m1 c1) := blk_put HBX6.out 1 _ rfl
   have hks : Keep (RF rb cm (.slice Ao mo co)) wr (w6.setCell ⟨rb, 1, none⟩ (.int .u16 (nm first (b2 + 1)))) := (Keep.of_below HB0.out).seq ((Keep.of_grown HG1.out (fun k hk => .inr (.inr hk))).seq ((Keep.of_put HP2.out (.inl rfl)).seq ((Keep.of_below HB2.out).seq ((Keep.of_put HT5.out (.inr (.inl rfl))).seq ((Keep.of_below HB6.out).seq (Keep.of_put hp7 (.inl rfl)))))))
   obtain ⟨w7, hw7⟩ : ∃ w7, w7 = w6.setCell ⟨rb, 1, none⟩ (.int .u16 (nm first (b2 + 1))) := ⟨_, rfl⟩
   rw [← hw7] at hp7 hbx7 hks
   have hty : ∀ (k : Nat) (cs : Array Value) (T : TypeId), wr.heap[k]? = some (.cells cs T (0, 0)) → T ≠ 88 → T ≠ 37 → w7.heap[k]? = wr.heap[k]? := fun k cs T hk h1 h2 => hks.block k (blk_lt hk) (fun e => by
    rcases e with e | e | e
    ·subst e; exact two_types hk HBX.out h1
    ·subst e
     obtain ⟨es', cl, hm⟩ := ownC_map HDD.out.own
     rw [hk] at hm; cases hm
    ·obtain ⟨_, cs', hcs'⟩ := Q_typedO HQD.out k e
     exact two_types hk hcs' h2)
   have h5 : Same5 wr w7 := fun k cs hk => hty k cs _ hk (by decide) (by decide)
   have hmpm : w7.heap[mp]? = wr.heap[mp]? := hks.block mp HD.out.mp_lt.1 (fun e => by
    obtain ⟨es', cl, hm⟩ := own_lt HD.out.po.own
    rcases e with e | e | e
    ·subst e; rw [HBX.out] at hm; cases hm
    ·exact HD.out.ne e
    ·obtain ⟨_, cs', hcs'⟩ := Q_typedO HQD.out mp e
     have hm' : wr.drew.heap[mp]? = some (Obj.map es' cl) := hm
     rw [hcs'] at hm'; cases hm')
   have hcmm : w7.heap[cm]? = w5.heap[cm]? := (hp7.block cm (fun e => by
    obtain ⟨es', cl, hm⟩ := ownC_map HO5.out
    rw [e, HBX5.out] at hm; cases hm)).trans (HB6.out.block cm HO5.out.lt)
   have hle := HZ.out.2.2
   have hCb : C2 b2 = true := HZ.out.1.symm
   have hb2n := (HD.out.ran b2 hCb).2
   have hln1 : ∀ i, C2 i = true → i ≤ 100 := fun i hi => by have := HD.out.ran i hi; omega
   have hqn := HZ.out.2.1
   have hcmD : CM w7 cm first Ms (fun j => C2 j && !(j == b2)) (D.del (.int .u16 q)) := by
    have hty7 := World.ownsMap.tidy HDD.out.own seqLawT
    have hsd := Maps.size_del (k := .int .u16 q) hty7
    rw [HL.out.2.1] at hsd
    simp only [if_true] at hsd
    have hcd := cntC_del hCb (show b2 < 7 by omega)
    have hsz := HDD.out.siz
    refine ⟨ownC_block (ownC_fit HO5.out) hcmm, fun x => ?_, fun i hi => ?_, by omega⟩
    ·by_cases e : x = q
     ·subst e
      rw [Maps.has_del_same]
      constructor
      ·intro h; cases h
      ·rintro ⟨i, h1, h2⟩
       simp only [Bool.and_eq_true, Bool.not_eq_true', beq_eq_false_iff_ne] at h1
       rw [hqn] at h2
       exact absurd (nm_inj (by omega) (hln1 i h1.1) h2).symm h1.2
     ·rw [Maps.has_del_other (by simpa using e), HDD.out.has]
      constructor
      ·rintro ⟨i, h1, h2⟩
       refine ⟨i, ?_, h2⟩
       have : i ≠ b2 := fun e2 => e (by rw [h2, e2, hqn])
       simp [h1, this]
      ·rintro ⟨i, h1, h2⟩
       simp only [Bool.and_eq_true] at h1
       exact ⟨i, h1.1, h2⟩
    ·simp only [Bool.and_eq_true, Bool.not_eq_true', beq_eq_false_iff_ne] at hi
     obtain ⟨v, h1, h2⟩ := HDD.out.at_ i hi.1
     refine ⟨v, fun z => ?_, h2.same h5⟩
     have hne : nm first i ≠ q := fun e => hi.2 (nm_inj (hln1 i hi.1) (by omega) (by rw [← hqn]; exact e))
     rw [Maps.atKey_del_other (by simpa using hne)]
     exact h1 z
   have hQ7 : Kd.Q kO 37 w7 S (fun _ => True) (.slice A1 m1 c1) (es ++ [(Av, ln, cv)]) := Q_keepO HO1.out (fun k hk => by
    obtain ⟨_, cs', hcs'⟩ := Q_typedO HO1.out k hk
    have n1 : k ≠ rb := fun e => by subst e; exact two_types hcs' HBX1.out (by decide)
    have hcm1 : ∃ (es' : Array MapEntry) (cl : Nat), w1.heap[cm]? = some (Obj.map es' cl) := by
     obtain ⟨es', cl, hm⟩ := ownC_map HDD.out.own
     exact ⟨es', cl, (HG1.out.block cm (blk_lt hm) (fun e => by
      obtain ⟨_, cs3, hcs3⟩ := Q_typedO HQD.out cm e.symm
      have hm' : wr.drew.heap[cm]? = some (Obj.map es' cl) := hm
      rw [hcs3] at hm'; cases hm')).trans hm⟩
    have n2 : k ≠ cm := fun e => by
     subst e
     obtain ⟨es', cl, hm⟩ := hcm1
     rw [hcs'] at hm; cases hm
    have g2 : w2.heap[k]? = w1.heap[k]? := HP2.out.block k n1
    have g5 : w5.heap[k]? = w2.heap[k]? := HT5.out.block k n2
    have hk5 : k < w5.heap.size := blk_lt ((g5.trans g2).trans hcs')
    exact ((hp7.block k n1).trans (HB6.out.block k hk5)).trans (g5.trans g2))
   have hRD : RD w7 S rb gp mp cm first n Ms (b2 + 1) (fun j => C2 j && !(j == b2)) (.slice A1 m1 c1) got := by
    refine ⟨by omega, hbx7, HD.out.po.keep (hty gp _ _ HD.out.po.box (by decide) (by decide)) hmpm, HD.out.ne, ⟨_, hcmD⟩, fun i hi => ?_, ⟨_, hQ7, by rw [List.length_append, List.length_singleton]; have := HQ.out.2.1; omega, fun k hk => ?_⟩, HD.out.low⟩
    ·simp only [Bool.and_eq_true, Bool.not_eq_true', beq_eq_false_iff_ne] at hi
     have := HD.out.ran i hi.1
     omega
    ·by_cases c : k < es.length
     ·rw [List.getElem_append_left c]
      exact (HQ.out.2.2 k c).same h5
     ·have hk' : k = es.length := by rw [List.length_append, List.length_singleton] at hk; omega
      subst hk'
      rw [List.getElem_append_right (Nat.le_refl _)]
      simp only [Nat.sub_self, List.getElem_cons_zero]
      have e : got + es.length = b2 := by have := HQ.out.2.1; omega
      rw [e]
      exact HPT.out.same h5
   go_roundw
   case rel =>
    rw [← hw7]
    refine ⟨b2 + 1, _, _, ⟨hRD⟩, by omega, ⟨fun j => ?_⟩, ⟨HK.out.trans (F1 := RF rb cm (.slice Ao mo co)) (fun k hk => ?_) hks⟩, ⟨fun k hk => ?_⟩⟩
    ·rw [← HI.out j]
     by_cases e : j = b2
     ·subst e; simp [hCb]
     ·have h1 : (j < b2 + 1) ↔ j < b2 := by omega
      simp [h1, e]
    ·rcases hk with e | e | e
     ·exact .inl (.inl e)
     ·exact .inl (.inr (.inl e))
     ·rcases HO.out k (by rw [← HM.out.1]; exact e) with e | e
      ·exact .inl (.inr (.inr e))
      ·exact .inr e
    ·rcases HAT.out with e | ⟨bb, e, hbb⟩
     ·rw [e] at hk
      exact HO.out k (by rw [← HM.out.1]; exact hk)
     ·rw [e] at hk
      injection hk with hk
      have h1 := HK.out.size
      have h2 : wr.heap.size ≤ bb := hbb
      exact .inr (by omega)
   case measure =>
    rw [← hw7, outOf_eq hRD, outOf_eq HD.out]
    omega
-- YtajiggmeappfaaaGreatDoorPRData
theorem wp_upd {H : Type} {P : Program} {w : World} {o : Oper} {a : Act} {K : Act → World → Prop} {Q : Exit → Act → World → Prop} (m x y : Operand) (t k : TypeId) (hop : o.op = Op.mapUpdate t m x y)
  {e : TypeId} (hk : Maps.Keyed P k) (ht : P.underlying t = some (.map k e)) {R : Value → Option (DataW H × List MemPlace)} {b n : Nat} {D : DataW H} (hn : n < maxLen)
  (hm : a.eval m = .map (some b)) (hown : w.ownsMap P k R b n D) {key val : Value} {kl : Lit} (hx : a.eval x = key) (hy : a.eval y = val) (hkey : keyOf P k key = some kl) {d : DataW H} {ps : List MemPlace} (hval : R val = some (d, ps))
  (hK : ∀ w', w'.ownsMap P k R b (n + 1) (D.put kl d) → w.mapTurned w' b → K (a.put o.dst undef) w') : Oper.wp P o a w K Q := by
 obtain ⟨w', hrun, r1, r2⟩ := hown.store hk ht hn hkey hval
 unfold Oper.wp
 simp [execOp, hop, hm, hx, hy, hrun, Result.andThen]
 exact hK w' r1 r2
theorem CM.put {w w' : World} {cm : Nat} {first : Int} {Ms : Nat → List Int} {C : Nat → Bool} {D : DataW Value} (h : CM w cm first Ms C D) (hC : ∀ i, C i = true → i ≤ 100) {i : Nat} (hi : i < 7) (hCi : C i = false) {u : Value} (hu : PRT w' u (Ms i)) (hs : Same5 w w') {m : Nat} (ho : ownC w' cm m (D.put (.int .u16 (nm first i)) (.held u))) :
  CM w' cm first Ms (fun j => C j || j == i) (D.put (.int .u16 (nm first i)) (.held u)) := by
 have hty := World.ownsMap.tidy h.own seqLawT
 have hkl : WideAt.IsKeyLit (.int .u16 (nm first i)) := trivial
 have hsd := Maps.size_put (k := .int .u16 (nm first i)) hty (.held u)
 rw [h.has_eq hC (by omega), hCi] at hsd
 simp only [Bool.false_eq_true, if_false] at hsd
 refine ⟨ownC_fit ho, fun x => ?_, fun j hj => ?_, by rw [hsd, h.siz, cntC_add hCi hi]⟩
 ·by_cases e : x = nm first i
  ·subst e
   rw [Maps.has_put_same hty.isMap hkl]
   exact ⟨fun _ => ⟨i, by simp, rfl⟩, fun _ => rfl⟩
  ·rw [Maps.has_put_other (by simpa using e), h.has]
   constructor
   ·rintro ⟨j, h1, h2⟩
    exact ⟨j, by simp [h1], h2⟩
   ·rintro ⟨j, h1, h2⟩
    simp only [Bool.or_eq_true, beq_iff_eq] at h1
    rcases h1 with h1 | h1
    ·exact ⟨j, h1, h2⟩
    ·subst h1; exact absurd h2 e
 ·by_cases e : j = i
  ·subst e
   exact ⟨u, fun z => Maps.atKey_put_same hty.isMap hkl _ _, hu⟩
  ·simp only [Bool.or_eq_true, beq_iff_eq, e, or_false] at hj
   obtain ⟨v, h1, h2⟩ := h.at_ j hj
   have hne : nm first j ≠ nm first i := fun e2 => e (nm_inj (hC j hj) (by omega) e2)
   exact ⟨v, fun z => by rw [Maps.atKey_put_other (by simpa using hne)]; exact h1 z, h2.same hs⟩
theorem C_same {w w' : World} {A : Option Addr} {P : List Int} (h : Kd.C (Kd.int .u8) w A P.length P) (hb : ∀ d, A = some d → w'.heap[d.block]? = w.heap[d.block]?) : Kd.C (Kd.int .u8) w' A P.length P := by
 have r := Kd.reads_of_C (enc := Value.int .u8) (d := (0 : Int)) (h1 := fun _ => rfl) h
 refine Kd.C_of_reads (enc := Value.int .u8) (d := (0 : Int)) (h1 := fun _ => rfl) ⟨r.1, r.2.1, fun hq => ?_⟩
 obtain ⟨d, hd, hr⟩ := r.2.2 hq
 exact ⟨d, hd, fun j hj => (World.cell?_of_block (a := d.add j) (by rw [add_block]; exact hb d hd)).trans (hr j hj)⟩
theorem Keep.of_fg {F : Nat → Prop} {a : Nat} {w w' : World} (h : Fg a w w') (ha : F a) : Keep F w w' := ⟨h.os, h.tape, h.output, h.size, fun k hk hF => h.at k hk (fun e => hF (e ▸ ha))⟩
def rdata6.T : Bool × List (List Nat × List Nat) := (true, [([], []), ([0], [0]), ([1], [1]), ([2], [2]), ([], []), ([4], [4]), ([5], [5]), ([6], [6]), ([], []), ([8], [8]), ([], []), ([10], [10]), ([3, 7, 9, 11], [3, 7, 9, 11]), ([12], [12]), ([13], [13]), ([13], [13]), ([14, 12, 0, 1, 2, 3, 4, 5, 6, 7, 8, 9, 10, 11, 12, 13, 14], [14]), ([15, 16, 0, 1, 2, 3, 4, 5, 6, 7, 8, 9, 10, 11, 12, 13, 14, 15, 16], [15])])
def rdata6.B : List Nat := [0, 1, 3, 7, 0, 16, 48, 112, 0, 256, 0, 1024, 4095, 8191, 16383, 16383, 32767, 131071]
theorem rdata6.tab : rtab .any (opsOf Tryz.f13 6) = rdata6.T := by kernel_rfl
theorem rdata6.bits : waitsOk rdata6.T.2 rdata6.B = true := by kernel_rfl
def rdata12.T : Bool × List (List Nat × List Nat) := (true, [([], []), ([0], [0]), ([1], [1]), ([2], [2]), ([], []), ([4], [4]), ([], []), ([3, 5, 6, 0, 1, 2, 3, 4, 5, 6], [3, 5, 6])])
def rdata12.B : List Nat := [0, 1, 3, 7, 0, 16, 0, 127]
theorem rdata12.tab : rtab .any (opsOf Tryz.f13 12) = rdata12.T := by kernel_rfl
theorem rdata12.bits : waitsOk rdata12.T.2 rdata12.B = true := by kernel_rfl
def rdata13.T : Bool × List (List Nat × List Nat) := (true, [([], []), ([0], [0]), ([1], [1]), ([2], [2]), ([], []), ([4], [4]), ([3, 5], [3, 5])])
def rdata13.B : List Nat := [0, 1, 3, 7, 0, 16, 63]
theorem rdata13.tab : rtab .any (opsOf Tryz.f13 13) = rdata13.T := by kernel_rfl
theorem rdata13.bits : waitsOk rdata13.T.2 rdata13.B = true := by kernel_rfl
theorem rdata_calls {w : World} (hT : TP w) {S rb gp mp cm : Nat} {first : Int} {n : Nat} {Ms : Nat → List Int} {b : Nat} {C : Nat → Bool} {out : Value} {got : Nat} (hTS : 2 < S) (h : RD w S rb gp mp cm first n Ms b C out got) (hCb : C b = false) (hMs : ∀ i, i < n → byt (Ms i) ∧ (Ms i).length ≤ 5) {i : Nat} (hi : i < n) (hi3 : i < b + 3)
  {v : Nat} (hv : v < 4) {A : Option Addr} {P : List Int} (hPv : P = vp (code (bitsM (Ms i))) v (nb (Ms i).length)) (hP : Kd.C (Kd.int .u8) w A P.length P) (hA : ∀ d, A = some d → d.block < w.heap.size ∧ d.block ≠ mp) :
  Calls Tryz.prog 13 #[.pointer (some ⟨rb, 0, none⟩), .agg (fr 1 (nm first i) v (Ms i).length (.slice A (nb (Ms i).length) (nb (Ms i).length)))] w fun e w' => ∃ r, e = .returned r ∧ ∃ (b' : Nat) (C' : Nat → Bool) (out' : Value), RD w' S rb gp mp cm first n Ms b' C' out' got ∧ b ≤ b' ∧ C' b' = false ∧ (∀ j, (j < b' ∨ C' j = true) ↔ (j < b ∨ C j = true ∨ j = i)) ∧ Keep (fun k => k = mp ∨ RF rb cm out k) w w' ∧ (∀ k, out'.ownBlock = some k → out.ownBlock = some k ∨ w.heap.size ≤ k) := by
 have HT := ax (And.intro hT hTS)
 have HH := ax h
 obtain ⟨q, hq⟩ : ∃ q, q = nm first i := ⟨_, rfl⟩
 obtain ⟨ln, hln⟩ : ∃ ln, ln = (Ms i).length := ⟨_, rfl⟩
 obtain ⟨m, hm⟩ : ∃ m, m = nb ln := ⟨_, rfl⟩
 have HMY := ax (fun w' (hb : Below w.heap.size w w') => rmay_calls (h.below hb) hi hi3 v ln A m m)
 have hqr := nm_rng first i
 rw [← hq] at hqr HMY
 rw [← hln] at hPv
 rw [← hm] at hPv
 rw [← hq, ← hln, ← hm]
 have HN := ax (And.intro hq (And.intro hln (And.intro hm (And.intro hCb (And.intro (hMs i hi) (And.intro hi (And.intro hi3 (And.intro hv (And.intro hPv hqr)))))))))
 have HPC := ax hP
 have HA := ax hA
 have hba := below_alloc (Below.refl w.heap.size w) (.cells (fr 1 q v ln (.slice A m m)) 47)
 have hbb := blk_new w (.cells (fr 1 q v ln (.slice A m m)) 47)
 obtain ⟨bx, hbx⟩ : ∃ bx, bx = w.heap.size := ⟨_, rfl⟩
 obtain ⟨w1, hw1⟩ : ∃ w1, w1 = w.alloc (.cells (fr 1 q v ln (.slice A m m)) 47) := ⟨_, rfl⟩
 rw [← hw1] at hba hbb
 rw [← hbx] at hbb
 have HB1 := ax hba
 have HX1 := ax hbb
 have HW := ax (And.intro hw1 hbx)
 have HMY1 := ax (HMY.out w1 hba)
 obtain ⟨r, hr⟩ : ∃ r : Int, r = if C i = true ∨ i < b then 10 else 0 := ⟨_, rfl⟩
 rw [← hr] at HMY1
 have HR := ax hr
 have hu : Tryz.prog.underlying 47 = _ := Tryz.underlying47
 clear hT hTS h hq hln hm hqr hCb hMs hi hi3 hv hPv hP hA hba hbb hbx hw1 hr HMY
 go_enter Tryz.func13, Tryz.ntmps13
 go_wp2_with (first
  | (refine wpList_load_row rfl 47 (.tmp 3) rfl w.heap.size rfl 47 (fr 1 q v ln (.slice A m m)) (0, 0) _ (blk_new w _) hu rfl fr_size ?_)
  | (go_at_call 37; refine Aside0.out ?_)
  | fail)
 refine ax ?_
 rw [← HW.out.1, ← HW.out.2]
 refine HMY1.out.mono ?_
 rintro e w2 ⟨rfl, hb2⟩
 have HB2 := ax (below_step HB1.out hb2)
 have HX2 := ax ((hb2.block bx (blk_lt HX1.out)).trans HX1.out)
 clear hb2 HMY1
 by_cases hold : C i = true ∨ i < b
 ·have hr10 : r = 10 := by rw [HR.out, if_pos hold]
  have HO := ax hold
  clear hold
  subst hr10
  go_wp2_with fail
  have hrs : (Tryz.f13).results = #[.tmp 4, .tmp 5] := by kernel_rfl
  refine bodyPost_ret (results_tmp2 hrs _ _ _) rfl ?_
  refine ⟨_, rfl, b, C, out, HH.out.below HB2.out, Nat.le_refl _, HN.out.2.2.2.1, fun j => ⟨fun hj => hj.elim .inl (fun h => .inr (.inl h)), fun hj => ?_⟩, Keep.of_below HB2.out, fun k hk => .inl hk⟩
  rcases hj with hj | hj | hj
  ·exact .inl hj
  ·exact .inr hj
  ·subst hj; exact HO.out.elim .inr .inl
 ·have hr0 : r = 0 := by rw [HR.out, if_neg hold]
  have HO := ax hold
  clear hold
  subst hr0
  have hle := HH.out.le
  have hCi : C i = false := by
   cases hc : C i with
   | true => exact absurd (.inl hc) HO.out
   | false => rfl
  have hrd2 := HH.out.below HB2.out
  have HRD2 := ax hrd2
  have HBR := ax (show bx ≠ mp ∧ bx ≠ cm ∧ rb ≠ mp ∧ rb ≠ cm ∧ S ≤ w.heap.size from by
   have h1 := HH.out.mp_lt
   have h2 := HW.out.2
   have h3 := blk_lt HH.out.box
   have h4 := HH.out.low.1
   refine ⟨by omega, by omega, fun e => ?_, fun e => ?_, by omega⟩
   ·obtain ⟨es, cl, hm⟩ := own_lt HH.out.po.own
    rw [← e, HH.out.box] at hm; cases hm
   ·obtain ⟨D, hD⟩ := HH.out.own
    obtain ⟨es, cl, hm⟩ := ownC_map hD.own
    rw [← e, HH.out.box] at hm; cases hm)
  have HCI := ax hCi
  have hn5 : ln ≤ 64 := by have := HN.out.2.1; have := HN.out.2.2.2.2.1.2; omega
  have HGV := ax (give_calls (hrd2.po.below (below_drew1 (Below.refl w2.heap.size w2))) (by decide) (nm first b) q HN.out.2.2.2.2.2.2.2.2.2 (n := ln) (N := 8 * (ln + 4)) hn5 rfl)
  have hrb2 := hrd2.box
  have HI2 := ax (show (w2.drew.cell? ⟨rb, 2, none⟩ = some (.pointer (some ⟨gp, 0, none⟩)) ∧ w2.drew.cell? ⟨rb, 1, none⟩ = some (.int .u16 (nm first b))) ∧ w2.drew.cell? ⟨bx, 1, none⟩ = some (.int .u16 q) ∧ w2.drew.cell? ⟨bx, 3, none⟩ = some (.int .i64 (ln : Int)) from ⟨⟨blk_cell hrb2 2, blk_cell hrb2 1⟩, blk_cell HX2.out 1, blk_cell HX2.out 3⟩)
  have HL6 := ax hn5
  clear hle hCi hrd2 hrb2 hn5
  go_wp2_with fail
  refine start_ (n := 18) (S := (fun w' => (w'.cell? ⟨rb, 2, none⟩ = some (.pointer (some ⟨gp, 0, none⟩)) ∧ w'.cell? ⟨rb, 1, none⟩ = some (.int .u16 (nm first b))) ∧ w'.cell? ⟨bx, 1, none⟩ = some (.int .u16 q) ∧ w'.cell? ⟨bx, 3, none⟩ = some (.int .i64 (ln : Int)))) (ds := [12]) #[false, false, false, false, false, false, false, false, false, false, false, false, false, false, false, false, false, false] kr rfl rfl HI2.out (fun hHeld => ?_)
  refine with_tabW rdata6.tab rdata6.bits (fun HT_ HW_ => ?_)
  refine pu_ 0 19 HT_ ?_; refine pu_ 1 20 HT_ ?_; refine pu_ 2 21 HT_ ?_
  refine take_ (i := 3) (N := some 22) (v := ?_) (a' := ?_) #[true, true, true, true, false, false, false, false, false, false, false, false, false, false, false, false, false, false] rfl rfl (take_ofW HT_.out HW_.out kr) (fun _ _ _ h => h) (Or.inl ⟨by rfl, ?_⟩) hHeld ?_ ?_
  rotate_left
  ·rintro w' ⟨s0, s1, s2⟩
   have s9 := s0.1; go_simp; with_reducible rfl
  rotate_left
  ·simp only [Act.put, List.setIfInBounds_toArray, List.set_cons_zero, List.set_cons_succ, i64_w, i32_w]
   rfl
  refine pu_ 4 23 HT_ ?_; refine pu_ 5 24 HT_ ?_; refine pu_ 6 25 HT_ ?_
  refine take_ (i := 7) (N := some 26) (v := ?_) (a' := ?_) #[true, true, true, true, true, true, true, true, false, false, false, false, false, false, false, false, false, false] rfl rfl (take_ofW HT_.out HW_.out kr) (fun _ _ _ h => h) (Or.inl ⟨by rfl, ?_⟩) hHeld ?_ ?_
  rotate_left
  ·rintro w' ⟨s0, s1, s2⟩
   have s9 := s0.2; go_simp; with_reducible rfl
  rotate_left
  ·simp only [Act.put, List.setIfInBounds_toArray, List.set_cons_zero, List.set_cons_succ, i64_w, i32_w]
   rfl
  refine pu_ 8 27 HT_ ?_; refine tk_ 9 28 HT_ HW_ hHeld ?_; refine pu_ 10 29 HT_ ?_; refine tk_ 11 30 HT_ HW_ hHeld ?_
  refine last_ (i := 12) (N := some 31) #[true, true, true, true, true, true, true, true, true, true, true, true, true, false, false, false, false, false] rfl rfl (one_of HT_.out kr) (by decide) (fun K hK => ?_)
  refine goes_ Tryz.func38 kr rfl #[.pointer (some ⟨gp, 0, none⟩), .int .u16 (nm first b), .int .u16 q, .int .i64 ↑ln] (by rfl) rfl rfl gs_ ?_
  refine HGV.out.mono ?_
  rintro e w3 ⟨qp, gb, hb_, rfl, hpo, hqb, hbu, h1, h2, h3, hf⟩
  have HP3 := ax hpo
  have HQ3 := ax (And.intro hqb (And.intro hbu (And.intro h1 (And.intro h2 h3))))
  have HF3 := ax hf
  clear hpo hqb hbu h1 h2 h3 hf
  refine ⟨_, rfl, ?_⟩
  refine hK.out _ _ ?_
  clear hK K
  refine norm_ (a' := ?_) ?_ ?_
  rotate_left
  ·show Act.put _ (some 31) _ = _
   simp only [Act.put, List.setIfInBounds_toArray, List.set_cons_zero, List.set_cons_succ, i64_w, i32_w]
   rfl
  refine pu_ 13 18 HT_ ?_; refine pu_ 14 32 HT_ ?_; refine pu_ 15 33 HT_ ?_; refine pu_ 16 7 HT_ ?_; refine pu_ 17 8 HT_ ?_
  refine done_ (done_of HT_.out kr) ?_
  clear hHeld HT_ HW_ HI2 HGV
  have hk3 : Keep (fun k => k = mp) w w3 := (Keep.of_below HB2.out).seq ((Keep.of_below (below_drew1 (Below.refl _ w2))).seq (Keep.of_fg HF3.out rfl))
  have hx3 : w3.heap[bx]? = some (.cells (fr 1 q v ln (.slice A m m)) 47 (0, 0)) := (HF3.out.at bx (blk_lt HX2.out) HBR.out.1).trans HX2.out
  have htp3 := HT.out.1.low HT.out.2 (hk3.below HBR.out.2.2.2.2 (fun k hk => by have hk : k = mp := hk; subst hk; exact HH.out.low.2.2.1))
  have hpc3 := C_same HPC.out (w' := w3) (fun d hd => hk3.block _ (HA.out d hd).1 (HA.out d hd).2)
  have hlow := HH.out.low
  have hlen : P.length = m := by rw [HN.out.2.2.2.2.2.2.2.2.1, vp_len]
  have hof := offer_calls (w := w3) htp3 (S := w2.drew.heap.size) (q := qp) (g := gb) (h := hb_) (M := Ms i) (by have h1 := HT.out.2; have h2 := HBR.out.2.2.2.2; have h3 := HB2.out.size; show _ < w2.heap.size; omega) HF3.out.size HN.out.2.2.2.2.1.1 (by rw [← HN.out.2.1]; exact HL6.out) (by rw [← HN.out.2.1]; exact HQ3.out.1) (by rw [← HN.out.2.1]; exact HQ3.out.2.1) ⟨HQ3.out.2.2.1, HQ3.out.2.2.2.1, HQ3.out.2.2.2.2⟩ v HN.out.2.2.2.2.2.2.2.1 (A := A) (P := P) (c := m) hpc3 (by rw [hlen]; exact Nat.le_refl _) (by rw [← HN.out.2.1, ← HN.out.2.2.1]; exact HN.out.2.2.2.2.2.2.2.2.1) (fun d hd => by have h1 := (HA.out d hd).1; have h2 := HQ3.out.2.1.lo; have h3 := HB2.out.size; have h4 : w2.drew.heap.size = w2.heap.size := rfl; omega)
  rw [← HN.out.2.1, ← HN.out.2.2.1] at hof
  have HOF := ax hof
  have HK3 := ax hk3
  have HX3 := ax hx3
  have hc2 : w3.cell? ⟨bx, 2, none⟩ = some (.int .i64 (v : Int)) := blk_cell hx3 2
  have hc3 : w3.cell? ⟨bx, 3, none⟩ = some (.int .i64 (ln : Int)) := blk_cell hx3 3
  have hc4 : w3.cell? ⟨bx, 4, none⟩ = some (.slice A m m) := blk_cell hx3 4
  clear hk3 hx3 htp3 hpc3 hlow hlen hof
  go_wp2_with (first
   | (go_at_call 39; refine Aside0.out ?_)
   | fail)
  refine ax ?_
  refine HOF.out.mono ?_
  rintro e w4 ⟨u, rfl, hu4, hb4⟩
  obtain ⟨D, hD⟩ := HH.out.own
  have HDD := ax hD
  have hk4 : Keep (fun k => k = mp) w w4 := by
   refine HK3.out.trans (F1 := fun k => w2.heap.size ≤ k) (fun k hk => .inr (by have := HB2.out.size; have hk : w2.heap.size ≤ k := hk; omega)) ⟨hb4.os, hb4.tape, hb4.output, hb4.size, fun k hk hF => hb4.block k (by have hF : ¬ w2.heap.size ≤ k := hF; show k < w2.heap.size; omega)⟩
  have hx4 : w4.heap[bx]? = some (.cells (fr 1 q v ln (.slice A m m)) 47 (0, 0)) := (hb4.block bx (blk_lt HX2.out)).trans HX3.out
  have hrb4 := (hk4.block rb (blk_lt HH.out.box) HBR.out.2.2.1).trans HH.out.box
  have hcm4 := ownC_block hD.own (hk4.block cm hD.own.lt (fun e => HH.out.ne e.symm))
  have hpo4 : PO w4 gp mp ((2 : Nat) : Int) 1 ((DataW.map []).put (.int .u16 q) (.lit (.bool true))) := HP3.out.keep (hb4.block gp (by have h1 := HH.out.po.lt.1; have h2 := HB2.out.size; show gp < w2.heap.size; omega)) (hb4.block mp (by have h1 := HH.out.po.lt.2.1; have h2 := HB2.out.size; show mp < w2.heap.size; omega))
  have HI4 := ax (show w4.drew.cell? ⟨rb, 3, none⟩ = some (.map (some cm)) ∧ w4.drew.cell? ⟨bx, 1, none⟩ = some (.int .u16 q) ∧ ownC w4.drew cm (Maps.size D) D from ⟨blk_cell hrb4 3, blk_cell hx4 1, hcm4.drew⟩)
  have HK4 := ax hk4
  have HX4 := ax (And.intro hx4 (And.intro hrb4 hpo4))
  have HU4 := ax (show PRT w4 u (Ms i) from PRT.of_R hu4)
  have HSZ := ax (show Maps.size D < maxLen from by rw [hD.siz]; have := cntC_le C; simp [maxLen]; omega)
  clear hD hk4 hx4 hrb4 hcm4 hpo4 hu4 hb4 hc2 hc3 hc4 HOF HQ3 HF3 HP3
  go_wp2_with fail
  refine start_ (n := 8) (S := (fun w' => w'.cell? ⟨rb, 3, none⟩ = some (.map (some cm)) ∧ w'.cell? ⟨bx, 1, none⟩ = some (.int .u16 q) ∧ ownC w' cm (Maps.size D) D)) (ds := [7]) #[false, false, false, false, false, false, false, false] kr rfl rfl HI4.out (fun hHeld => ?_)
  refine with_tabW rdata12.tab rdata12.bits (fun HT_ HW_ => ?_)
  refine pu_ 0 51 HT_ ?_; refine pu_ 1 52 HT_ ?_; refine pu_ 2 53 HT_ ?_; refine tk_ 3 54 HT_ HW_ hHeld ?_; refine pu_ 4 55 HT_ ?_; refine tk_ 5 56 HT_ HW_ hHeld ?_; refine pu_ 6 57 HT_ ?_
  refine last_ (i := 7) (N := none) #[true, true, true, true, true, true, true, true] rfl rfl (one_of HT_.out kr) (by decide) (fun K hK => ?_)
  rw [if_pos (by rfl)]
  refine wp_upd (.tmp 54) (.tmp 56) (.tmp 57) 86 seqT rfl seqLawT Tryz.underlying86 HSZ.out (by rfl) hHeld.2.2 (by rfl) (by rfl) (seqKeyT HN.out.2.2.2.2.2.2.2.2.2) (show RC u = some (.held u, []) from rfl) ?_
  intro w5 hown hturn
  have HO5 := ax hown
  have HT5 := ax (map_put hturn)
  clear hown hturn hHeld
  refine hK.out _ _ ?_
  clear hK K
  refine done_ (done_of HT_.out kr) ?_
  have hx5 : w5.heap[bx]? = some (.cells (fr 1 q v ln (.slice A m m)) 47 (0, 0)) := (HT5.out.block bx HBR.out.2.1).trans HX4.out.1
  have hrb5 : w5.heap[rb]? = _ := (HT5.out.block rb HBR.out.2.2.2.1).trans HX4.out.2.1
  have hpo5 : PO w5 gp mp ((2 : Nat) : Int) 1 ((DataW.map []).put (.int .u16 q) (.lit (.bool true))) := HX4.out.2.2.keep (HT5.out.block gp (fun e => by
   obtain ⟨es, cl, hm⟩ := ownC_map HDD.out.own
   rw [← e, HH.out.po.box] at hm; cases hm)) (HT5.out.block mp HH.out.ne)
  have HI5 := ax (show w5.drew.cell? ⟨rb, 2, none⟩ = some (.pointer (some ⟨gp, 0, none⟩)) ∧ w5.drew.cell? ⟨bx, 1, none⟩ = some (.int .u16 q) from ⟨blk_cell hrb5 2, blk_cell hx5 1⟩)
  have HDP := ax (drop_calls q HN.out.2.2.2.2.2.2.2.2.2 (hpo5.below (below_drew1 (Below.refl w5.heap.size w5))))
  have HRB5 := ax hrb5
  clear hx5 hrb5 hpo5
  simp only [Act.put]
  go_wp2_with fail
  refine start_ (n := 7) (S := (fun w' => w'.cell? ⟨rb, 2, none⟩ = some (.pointer (some ⟨gp, 0, none⟩)) ∧ w'.cell? ⟨bx, 1, none⟩ = some (.int .u16 q))) (ds := [6]) #[false, false, false, false, false, false, false] kr rfl rfl HI5.out (fun hHeld => ?_)
  refine with_tabW rdata13.tab rdata13.bits (fun HT_ HW_ => ?_)
  refine pu_ 0 58 HT_ ?_; refine pu_ 1 59 HT_ ?_; refine pu_ 2 60 HT_ ?_; refine tk_ 3 61 HT_ HW_ hHeld ?_; refine pu_ 4 62 HT_ ?_; refine tk_ 5 63 HT_ HW_ hHeld ?_
  refine last_ (i := 6) (N := some 64) #[true, true, true, true, true, true, true] rfl rfl (one_of HT_.out kr) (by decide) (fun K hK => ?_)
  refine goes_ Tryz.func40 kr rfl #[.pointer (some ⟨gp, 0, none⟩), .int .u16 q] (by rfl) rfl rfl gs_ ?_
  refine HDP.out.mono ?_
  rintro e w6 ⟨rfl, hpo6, hpt6⟩
  have HP6 := ax hpo6
  have HT6 := ax hpt6
  clear hpo6 hpt6
  refine ⟨_, rfl, ?_⟩
  refine hK.out _ _ ?_
  clear hK K
  refine norm_ (a' := ?_) ?_ ?_
  rotate_left
  ·show Act.put _ (some 64) _ = _
   simp only [Act.put, List.setIfInBounds_toArray, List.set_cons_zero, List.set_cons_succ, i64_w, i32_w]
   rfl
  refine done_ (done_of HT_.out kr) ?_
  clear hHeld HT_ HW_ HI4 HI5 HDP
  have hkd : Keep (fun k => k = mp ∨ k = cm) w w6 := (HK4.out.mono (fun k _ hk => .inl hk)).seq ((Keep.of_below (below_drew1 (Below.refl _ w4))).seq ((Keep.of_put HT5.out (.inr rfl)).seq ((Keep.of_below (below_drew1 (Below.refl _ w5))).seq (Keep.of_put HT6.out (.inl rfl)))))
  have hcell : ∀ (k : Nat) (cs : Array Value) (T : TypeId), w.heap[k]? = some (.cells cs T (0, 0)) → w6.heap[k]? = w.heap[k]? := fun k cs T hk => hkd.block k (blk_lt hk) (fun e => by
   rcases e with e | e
   ·subst e
    obtain ⟨es, cl, hm⟩ := own_lt HH.out.po.own
    rw [hk] at hm; cases hm
   ·subst e
    obtain ⟨es, cl, hm⟩ := ownC_map HDD.out.own
    rw [hk] at hm; cases hm)
  have h56 : Same5 w w6 := fun k cs hk => hcell k cs _ hk
  have hu6 : PRT w6 u (Ms i) := HU4.out.same (fun k cs hk => by
   have n1 : k ≠ cm := fun e => by
    subst e
    obtain ⟨es, cl, hm⟩ := ownC_map HDD.out.own
    have hm4 : w4.heap[k]? = _ := (HK4.out.block k (blk_lt hm) (fun e => HH.out.ne e.symm)).trans hm
    rw [hk] at hm4; cases hm4
   have n2 : k ≠ mp := fun e => by
    subst e
    obtain ⟨es, cl, hm⟩ := own_lt HX4.out.2.2.own
    rw [hk] at hm; cases hm
   exact (HT6.out.block k n2).trans (HT5.out.block k n1))
  have ho6 := ownC_block HO5.out (show w6.heap[cm]? = w5.heap[cm]? from HT6.out.block cm (fun e => HH.out.ne e.symm))
  have hn := HN.out
  have hle := HH.out.le
  have hC100 : ∀ j, C j = true → j ≤ 100 := fun j hj => by have := HH.out.ran j hj; omega
  have hib : b ≤ i := by
   rcases Nat.lt_or_ge i b with c | c
   ·exact absurd (.inr c) HO.out
   ·exact c
  rw [hn.1] at ho6
  have hcm6 := HDD.out.put hC100 (show i < 7 by omega) HCI.out hu6 h56 ho6
  have hRD6 : RD w6 S rb gp mp cm first n Ms b (fun j => C j || j == i) out got := by
   refine ⟨HH.out.le, (hcell rb _ _ HH.out.box).trans HH.out.box, HP6.out, HH.out.ne, ⟨_, hcm6⟩, fun j hj => ?_, HH.out.out_.keep (fun k hk => ?_) h56, HH.out.low⟩
   ·simp only [Bool.or_eq_true, beq_iff_eq] at hj
    rcases hj with hj | hj
    ·exact HH.out.ran j hj
    ·subst hj; exact ⟨hib, hn.2.2.2.2.2.1⟩
   ·obtain ⟨_, cs, hc⟩ := HH.out.out_.typed k hk
    exact hcell k cs _ hc
  have HRA := ax (radv_calls hRD6)
  have HKD := ax hkd
  clear hkd hcell h56 hu6 ho6 hn hle hC100 hib hcm6 hRD6
  go_wp2_with (first
   | (go_at_call 41; refine HRA.out.mono ?_; rintro e w7 ⟨rfl, b', C', out', h1, h2, h3, h4, h5, h6⟩; have H7 := ax (And.intro h1 (And.intro h2 (And.intro h3 (And.intro h4 (And.intro h5 h6))))); clear h1 h2 h3 h4 h5 h6)
   | fail)
  have hrs : (Tryz.f13).results = #[.tmp 4, .tmp 5] := by kernel_rfl
  refine bodyPost_ret (results_tmp2 hrs _ _ _) rfl ?_
  obtain ⟨h1, h2, h3, h4, h5, h6⟩ := H7.out
  refine ⟨_, rfl, b', C', out', h1, h2, h3, fun j => ?_, ?_, fun k hk => ?_⟩
  ·rw [h4 j]
   simp only [Bool.or_eq_true, beq_iff_eq]
  ·refine (HKD.out.mono (fun k _ hk => ?_)).seq (h5.mono (fun k _ hk => .inr hk))
   rcases hk with e | e
   ·exact .inl e
   ·exact .inr (.inr (.inl e))
  ·rcases h6 k hk with e | e
   ·exact .inl e
   ·have := HKD.out.size
    exact .inr (by omega)
end Go.Proofs.YtajiggmeappfaaaGreatDoor.P
namespace Go.Proofs.YtajiggmeappfaaaGreatDoor.P
open Go.RowKit Go.Proofs.YtajiggmeappfaaaGreatDoorW.PrintWords Go.Proofs.YtajiggmeappfaaaGreatDoorW.PrintLast Go.Proofs.YtajiggmeappfaaaGreatDoorW.PrintMore
open Go.RowKit Go.Shelf Go.Proofs.YtajiggmeappfaaaGreatDoorW.PrintWords Go.Proofs.YtajiggmeappfaaaGreatDoorW.PrintLast Go.Proofs.YtajiggmeappfaaaGreatDoorW.PrintMore
set_option maxRecDepth 100000
set_option maxHeartbeats 8000000
set_option linter.unusedVariables false
set_option linter.unusedSimpArgs false
-- YtajiggmeappfaaaGreatDoorPRKeys
section
attribute [local go_sem] Oper.semAt_some
theorem keyOf_seq {key : Value} {kl : Lit} (h : keyOf Tryz.prog seqT key = some kl) : ∃ x : Int, key = .int .u16 x ∧ kl = .int .u16 x := by
 have hk := Tryz.underlying31
 cases key <;> simp [keyOf, hk, mapKey] at h
 rename_i q a
 obtain ⟨⟨rfl, hw⟩, rfl⟩ := h
 exact ⟨a, rfl, rfl⟩
def ColU (D0 : DataW Value) (left : Lit → Bool) (ss : List Int) : Prop := ss.Nodup ∧ ∀ x, x ∈ ss ↔ (Maps.has D0 (.int .u16 x) = true ∧ left (.int .u16 x) = false)
theorem ColU.start (D0 : DataW Value) : ColU D0 (Maps.has D0) [] := ⟨List.nodup_nil, fun x => by cases Maps.has D0 (.int .u16 x) <;> simp⟩
theorem ColU.step {D0 : DataW Value} {left : Lit → Bool} {ss : List Int} (h : ColU D0 left ss) {x : Int} {y : DataW Value} (hlk : left (.int .u16 x) = true) (hat : ∀ zd, D0.atKey (.int .u16 x) zd = y) : ColU D0 (fun z => left z && !z.sameKey (.int .u16 x)) (ss ++ [x]) := by
 have hhas : Maps.has D0 (.int .u16 x) = true := Maps.has_true_of_atKey hat
 have hnew : x ∉ ss := fun hx => by have := ((h.2 x).1 hx).2; rw [hlk] at this; cases this
 refine ⟨List.nodup_append.2 ⟨h.1, by simp, fun a ha b hb => by simp at hb; subst hb; exact fun e => hnew (e ▸ ha)⟩, fun y => ?_⟩
 by_cases hy : y = x
 ·subst hy; simp [hhas, Lit.sameKey]
 ·simp [h.2 y, hy, Lit.sameKey]
theorem rkeys1_in (F : Fence) (n : Nat) (h93 : F.fn 93) (hro : F.round = none) (hn : 1 ≤ n) (l Bm b nn : Nat) (D0 : DataW Value) (J Jx : List Int → World → Prop)
  (hY : ∀ pre (x : Int) W, J pre W → pre.length < Maps.size D0 → YieldAt F (n - 1) Tryz.prog l #[.int .u16 x] W fun e W' =>
   (e = .returned (.bool true) ∧ J (pre ++ [x]) W' ∧ KeepsWalks W W') ∨ (e = .returned (.bool false) ∧ Jx (pre ++ [x]) W'))
  (W : World) (hJ : AbidesFrom W.heap.size J) (hm : W.cell? ⟨Bm, 0, none⟩ = some (.map (some b))) (hown : W.ownsMap Tryz.prog seqT RC b nn D0) (h0 : J [] W) :
  CallsIn F n Tryz.prog 93 #[.func (.yield l) #[] #[], .pointer (some ⟨Bm, 0, none⟩)] W fun e W' => (∃ v, e = .returned v) ∧
   ((∃ ss : List Int, (ss.Nodup ∧ ∀ x, x ∈ ss ↔ Maps.has D0 (.int .u16 x) = true) ∧ J ss W') ∨ (∃ pre : List Int, True ∧ Jx pre W')) := by
 refine callsIn_of_wp Tryz.func93 rfl h93 ?_ hro
 simp only [Tryz.ntmps93, List.size_toArray, List.length_cons, List.length_nil, Nat.reduceAdd, Nat.reduceSub, Array.replicate_succ, Array.replicate_zero, List.push_toArray, List.append_toArray, List.nil_append, List.cons_append]
 gi_wp2_with (first
  | (gi_at_range; refine wpListIn_range_own _ rfl _ 86 rfl seqT 37 seqLawT Tryz.underlying86 _ b nn _ rfl hown ?_; intro w0 hrg0 hg0 hs0)
  | gi_in)
 go_frame
 gi_loopw [3] (fun _ wr => ∃ (left : Lit → Bool) (cnt : Nat) (ss : List Int), wr.ranges Tryz.prog seqT RC b W.heap.size nn D0 left cnt ∧ ss.length + cnt ≤ Maps.size D0 ∧ ColU D0 left ss ∧ J ss wr)
  (fun _ wr => wr.rangeLeft b W.heap.size)
 case atStart =>
  exact ⟨_, _, [], hrg0, by simp, ColU.start D0, hJ [] W w0 none h0 hg0 (fun r e => by cases e)⟩
 case round =>
  obtain ⟨left, cnt, ss, hrg, hcs, hC, hJs⟩ := hrel
  gi_wp2_with (first
   | (gi_at_next; refine wpListIn_next_ranges _ rfl _ rfl seqT seqLawT RC (Value.int .u16) id (fun key kl hk => by obtain ⟨x, hx, _⟩ := keyOf_seq hk; exact ⟨x, hx⟩) (fun v _ _ => ⟨v, rfl⟩) b W.heap.size nn _ _ _ rfl hrg ?_ ?_)
   | gi_in)
  ·intro hc0 hl0
   gi_wp2
   go_end0
   exact ⟨⟨_, rfl⟩, .inl ⟨ss, ⟨hC.1, fun x => by rw [hC.2 x, hl0]; simp⟩, hJs⟩⟩
  ·intro x c kl yd yp w2 cnt2 hkey hlk hv hat hrg2 hlt hg2 hs2 hen
   obtain ⟨x', ex, rfl⟩ := keyOf_seq hkey
   obtain rfl : x = x' := by injection ex
   have hJ2 : J ss w2 := hJ ss wr w2 (some W.heap.size) hJs hg2 (fun r e => by cases e; exact ⟨Nat.le_refl _, hrg.iter_walk⟩)
   obtain ⟨fn, tmps, assign, body, hy, hR⟩ := hY ss x w2 hJ2 (by omega)
   clear hs2
   gi_wp2
   refine hR.mono ?_
   have hC2 := hC.step hlk hat
   rintro e W3 (⟨rfl, hJ3, hk3⟩ | ⟨rfl, hJx3⟩)
   ·gi_wp2
    have hrg3 := hrg2.of_walks hk3
    go_roundw
    case rel => exact ⟨_, cnt2, ss ++ [x], hrg3, by simp; omega, hC2, hJ3⟩
    case measure => rw [hrg3.left_eq, hrg.left_eq]; exact hlt
   ·gi_wp2
    refine bodyPost_ret (results_none rfl _ _ _) rfl ?_
    exact ⟨⟨_, rfl⟩, .inr ⟨ss ++ [x], trivial, hJx3⟩⟩
theorem rkeys_calls (mb : Nat) (w : World) :
  Calls Tryz.prog 44 #[.map (some mb)] w fun e w' => e = .returned (.func (.func 93) #[] #[.pointer (some ⟨w.heap.size, 0, none⟩)]) ∧ w' = w.alloc (.cells #[.map (some mb)] 86) := by
 go_enter Tryz.func44, Tryz.ntmps44
 go_wp2_with fail
 go_ret
 exact ⟨rfl, rfl⟩
theorem rkeys_stops (F : Fence) (n : Nat) (h93 : F.fn 93) (hro : F.round = none) (hn : 1 ≤ n) (Bm b nn : Nat) (D0 : DataW Value) (w : World) (hBm : Bm < w.heap.size)
  (hm : w.cell? ⟨Bm, 0, none⟩ = some (.map (some b))) (hown : w.ownsMap Tryz.prog seqT RC b nn D0) :
  SeqStopsK F n Tryz.prog 93 #[.pointer (some ⟨Bm, 0, none⟩)] (fun x : Int => #[.int .u16 x]) KeepsWalks (fun ss => ss.Nodup ∧ ∀ x, x ∈ ss ↔ Maps.has D0 (.int .u16 x) = true) (fun _ => True) (Maps.size D0) w := fun l J Jx W hW hJ _ hY h0 => by
 have hown' : W.ownsMap Tryz.prog seqT RC b nn D0 := ownC_block hown (hW.block b hown.lt)
 exact rkeys1_in F n h93 hro hn l Bm b nn D0 J Jx hY W hJ ((hW.cell (p := ⟨Bm, 0, none⟩) hBm).trans hm) hown' h0
theorem u16_info3 : (Tryz.prog.info? 31).map (fun i => (i.zero, i.size, i.bytes)) = some (some (.int .u16 0), 1, 2) := by kernel_rfl
theorem rappend_calls (Bm b nn : Nat) (D0 : DataW Value) (hfew : Maps.size D0 ≤ 1000) (w : World) (bM : Boxed w Bm 86 (.map (some b))) (hown : w.ownsMap Tryz.prog seqT RC b nn D0) :
  Calls Tryz.prog 92 #[.slice none 0 0, .func (.func 93) #[] #[.pointer (some ⟨Bm, 0, none⟩)]] w fun e w' =>
   ∃ v, ∃ ys : List Int, e = .returned v ∧ w'.ownsRow w.heap.size seqT 1 v ys.length (ys.map (Value.int .u16)) ∧ (ys.Nodup ∧ ∀ x, x ∈ ys ↔ Maps.has D0 (.int .u16 x) = true) ∧ Below w.heap.size w w' := by
 refine (callsIn_wide (n := 5)).1 ?_
 have hro : Fence.wide.round = none := rfl
 refine callsIn_of_wp_marks Tryz.func92 rfl trivial ?_ hro
 simp only [Tryz.ntmps92, List.size_toArray, List.length_cons, List.length_nil, Nat.reduceAdd, Nat.reduceSub, Array.replicate_succ, Array.replicate_zero, List.push_toArray, List.append_toArray, List.nil_append, List.cons_append]
 gi_wp2
 have bO := Boxed.new w 97 (.slice none 0 0)
 have hlm := bM.lt
 obtain ⟨i0, hi, hz0, hz1, hz2⟩ := info_parts u16_info3
 have hB2 : Below w.heap.size w (w.alloc (.cells #[.slice none 0 0] 97)) := (Below.refl _ w).alloc (Nat.le_refl _) _
 refine wpIn_rangeFunc_ownG hro (by omega) (gf := 93) (lb := #[.pointer (some ⟨Bm, 0, none⟩)]) rfl trivial (enters_of Tryz.func93 kr rfl)
  (rkeys_stops Fence.wide 4 trivial hro (by omega) Bm b nn D0 _ (by first | (simp; done) | (simp; omega)) (bM.alloc _).cell (hown.alloc _)) walksK_t walksK_b (Below.refl _ _) (fun _ => rfl)
  (fun pre W => (∃ v, Boxed W w.heap.size 97 v ∧ W.ownsRow w.heap.size seqT 1 v pre.length (pre.map (Value.int .u16)) ∧ True) ∧ Below w.heap.size w W)
  (fun _ _ _ => False)
  (OwnFrom.and (Own.from (holdsRow_own w.heap.size w.heap.size 97 seqT 1 (fun pre : List Int => pre.length) (fun pre : List Int => pre.map (Value.int .u16)) (fun (pre : List Int) v => True)) _)
   (ownFrom_below (Nat.le_refl _) (by simp)))
  (fun _ _ _ _ _ hs _ _ => hs)
  ⟨⟨_, bO, World.ownsRow_nil _ _ _ _, trivial⟩, hB2⟩
  (fun x => { tmps := #[.slice none 0 0, .func (.func 93) #[] #[.pointer (some ⟨Bm, 0, none⟩)], .pointer (some ⟨w.heap.size, 0, none⟩), undef, .slice none 0 0, .int .u16 x,
   .func (.func 93) #[] #[.pointer (some ⟨Bm, 0, none⟩)], .int .u16 x, undef, undef, undef, undef, undef], defers := [] }) ?assign ?body ?done ?stop
 case assign =>
  intro l x W K hK
  gi_wp2
  exact hK
 case body =>
  rintro l pre x W ⟨⟨v, hv, hrow, _⟩, hB⟩ hlt
  have hc := hv.cell
  gi_wp2_with (gi_at_builtin; refine wpListIn_append_own _ rfl _ _ 97 rfl w.heap.size 31 i0 (.int .u16 0) 1 2 Tryz.underlying97 hi hz0 hz1 hz2 rfl (by decide) _ _ _ rfl (hrow.alloc _) ⟨W.heap.size, 0, none⟩ 1 1 [.int .u16 x] rfl rfl (cell_one_new _ _ _) (by simp [Value.oneCell']) (by unfold maxLen; omega) (by omega) (by have := hB.size; simp; omega) ?_; intro v' w2 hown' hgrow _; obtain ⟨g', cap', rfl⟩ := ownsRow_succ hown'; obtain ⟨hv1, hv2, hr2, hk2, hb2⟩ := hv.appended (by decide) hrow hB.size (Nat.le_refl _) hown' hgrow; have hc1 := hv1.cell; have hf1 := hv1.frozen)
  exact ⟨hk2.from _, hk2.walks, ⟨_, hv2, by simpa using hr2, trivial⟩, hB.trans hb2⟩
 case done =>
  rintro D ys W hD hS ⟨⟨v, hv, hrow, _⟩, hB⟩ hK
  have hc := hv.cell
  gi_wp2
  refine ⟨by simp, .inl ⟨_, _, rfl, run_takeDeferred hK, ?_⟩⟩
  have hb' := hB.trans (belowK_b (w := w) (Nat.le_refl _) W D _ (.deferred none) (by simp at hD; omega) hK rfl rfl)
  refine ⟨_, results_tmp rfl _ _ _, v, ys, rfl, ?_, hS, hb'⟩
  exact ownsRow_putObj hrow (.deferred none) hK rfl
 case stop =>
  rintro D c pre W _ _ h _
  exact h.elim
theorem rcollect_calls (Bm b nn : Nat) (D0 : DataW Value) (hfew : Maps.size D0 ≤ 1000) (w : World) (bM : Boxed w Bm 86 (.map (some b))) (hown : w.ownsMap Tryz.prog seqT RC b nn D0) :
  Calls Tryz.prog 43 #[.func (.func 93) #[] #[.pointer (some ⟨Bm, 0, none⟩)]] w fun e w' =>
   ∃ v, ∃ ys : List Int, e = .returned v ∧ w'.ownsRow w.heap.size seqT 1 v ys.length (ys.map (Value.int .u16)) ∧ (ys.Nodup ∧ ∀ x, x ∈ ys ↔ Maps.has D0 (.int .u16 x) = true) ∧ Below w.heap.size w w' := by
 have HR := ax (rappend_calls Bm b nn D0 hfew w bM hown)
 clear bM hown hfew
 go_enter Tryz.func43, Tryz.ntmps43
 go_wp2_with (go_at_call 92; refine HR.out.mono ?_; rintro e w1 ⟨v, ys, rfl, h1, h2, h3⟩; have H1 := ax (And.intro h1 (And.intro h2 h3)); clear h1 h2 h3)
 have hrs : (Tryz.f43).results = #[.tmp 2] := by kernel_rfl
 refine bodyPost_ret (results_tmp hrs _ _ _) rfl ?_
 exact ⟨v, ys, rfl, H1.out⟩
end
end Go.Proofs.YtajiggmeappfaaaGreatDoor.P
namespace Go.Proofs.YtajiggmeappfaaaGreatDoor.P
open Go.RowKit Go.Proofs.YtajiggmeappfaaaGreatDoorW.PrintWords Go.Proofs.YtajiggmeappfaaaGreatDoorW.PrintLast Go.Proofs.YtajiggmeappfaaaGreatDoorW.PrintMore
set_option maxRecDepth 100000
set_option maxHeartbeats 8000000
set_option linter.unusedVariables false
set_option linter.unusedSimpArgs false
-- YtajiggmeappfaaaGreatDoorPRMapc
theorem rkeys2_calls (mb : Nat) (w : World) :
  Calls Tryz.prog 44 #[.map (some mb)] w fun e w' => ∃ Bm, e = .returned (.func (.func 93) #[] #[.pointer (some ⟨Bm, 0, none⟩)]) ∧ w.heap.size ≤ Bm ∧ Boxed w' Bm 86 (.map (some mb)) ∧ Below w.heap.size w w' :=
 (rkeys_calls mb w).mono (fun e w' h => ⟨w.heap.size, h.1, Nat.le_refl _, by rw [h.2]; exact blk_new w _, by rw [h.2]; exact below_alloc (Below.refl _ _) _⟩)
theorem map_size : (Tryz.prog.info? 45).map (·.size) = some 2 := by kernel_rfl
theorem rof_calls {w1 : World} {first : Int} {b : Nat} (hb : b ≤ 6) {C : Nat → Bool} (hC : ∀ i, C i = true → b < i ∧ i < 7) {ys : List Int} (hn : ys.Nodup) (hm : ∀ x, x ∈ ys ↔ ∃ i, C i = true ∧ x = nm first i) :
  ∃ ms : List Nat, (∀ k, k ∈ ms ↔ 1 ≤ k ∧ C (b + k) = true) ∧ (∀ k ∈ ms, 1 ≤ k ∧ k ≤ 32) ∧ ys.length ≤ 20 ∧ ackmap_Of.f 100 (nm first b) ys = some (nm first b, ((ors ms : Nat) : Int), 0) := by
 obtain ⟨ms, hms⟩ : ∃ ms : List Nat, ms = ys.map fun x => ((x - nm first b) % 65536).toNat := ⟨_, rfl⟩
 have key : ∀ x ∈ ys, ∃ i, C i = true ∧ x = nm first i ∧ ((x - nm first b) % 65536).toNat = i - b := fun x hx => by
  obtain ⟨i, h1, h2⟩ := (hm x).1 hx
  have h3 := hC i h1
  refine ⟨i, h1, h2, ?_⟩
  rw [h2, ahead_nm first b i (by omega) (by omega)]
  omega
 have hmem : ∀ k, k ∈ ms ↔ 1 ≤ k ∧ C (b + k) = true := fun k => by
  rw [hms, List.mem_map]
  constructor
  ·rintro ⟨x, hx, rfl⟩
   obtain ⟨i, h1, h2, h3⟩ := key x hx
   have h4 := hC i h1
   rw [h3]
   exact ⟨by omega, by rw [show b + (i - b) = i by omega]; exact h1⟩
  ·rintro ⟨h1, h2⟩
   have hx := (hm (nm first (b + k))).2 ⟨b + k, h2, rfl⟩
   have h4 := hC _ h2
   refine ⟨_, hx, ?_⟩
   rw [ahead_nm first b (b + k) (by omega) (by omega)]
   omega
 have hrng : ∀ k ∈ ms, 1 ≤ k ∧ k ≤ 32 := fun k hk => by
  have h1 := (hmem k).1 hk
  have h2 := hC _ h1.2
  omega
 have hys : ys = ms.map (pl (nm first b)) := by
  rw [hms, List.map_map]
  conv => lhs; rw [← List.map_id ys]
  refine List.map_congr_left (fun x hx => ?_)
  obtain ⟨i, h1, h2, h3⟩ := key x hx
  have h4 := hC i h1
  show x = pl (nm first b) ((x - nm first b) % 65536).toNat
  rw [h3, pl_nm _ _ _ (by omega), h2]
  congr 1
  omega
 have hlen : ys.length ≤ 7 := by
  have := len_sub ys ((List.range 7).map (nm first)) hn (fun x hx => by
   obtain ⟨i, h1, h2, _⟩ := key x hx
   rw [h2]
   exact List.mem_map.2 ⟨i, List.mem_range.2 (hC i h1).2, rfl⟩)
  simpa using this
 refine ⟨ms, hmem, hrng, by omega, ?_⟩
 rw [hys]
 exact of_f (nm_rng first b) ms hrng (by rw [hms, List.length_map]; omega)
def rmap3.T : Bool × List (List Nat × List Nat) := (true, [([], []), ([0], [0]), ([1], [1]), ([2], [2]), ([], []), ([4], [4]), ([5], [5]), ([6], [6]), ([7], [7]), ([8, 8], [8]), ([3, 9, 9], [3, 9]), ([10], [10]), ([11], [11]), ([11], [11]), ([], []), ([14, 12, 10, 0, 1, 2, 3, 4, 5, 6, 7, 8, 9, 10, 11, 12, 14], [12, 14]), ([13, 15, 0, 1, 2, 3, 4, 5, 6, 7, 8, 9, 10, 11, 12, 13, 14, 15], [13])])
def rmap3.B : List Nat := [0, 1, 3, 7, 0, 16, 48, 112, 240, 496, 1023, 2047, 4095, 4095, 0, 24575, 65535]
theorem rmap3.tab : rtab .any (opsOf Tryz.f14 3) = rmap3.T := by kernel_rfl
theorem rmap3.bits : waitsOk rmap3.T.2 rmap3.B = true := by kernel_rfl
theorem rmap_calls {w : World} {S rb gp mp cm : Nat} {first : Int} {n : Nat} {Ms : Nat → List Int} {b : Nat} {C : Nat → Bool} {out : Value} {got : Nat} (h : RD w S rb gp mp cm first n Ms b C out got) (hCb : C b = false) :
  Calls Tryz.prog 14 #[.pointer (some ⟨rb, 0, none⟩)] w fun e w' => ∃ ms : List Nat, e = .returned (.agg #[.int .u16 (nm first b), .int .u32 ((ors ms : Nat) : Int)]) ∧ (∀ k, k ∈ ms ↔ 1 ≤ k ∧ C (b + k) = true) ∧ (∀ k ∈ ms, 1 ≤ k ∧ k ≤ 32) ∧ Below w.heap.size w w' := by
 obtain ⟨D, hD⟩ := h.own
 have hle := h.le
 have hC : ∀ i, C i = true → b < i ∧ i < 7 := fun i hi => by
  have h1 := h.ran i hi
  have : i ≠ b := fun e => by rw [e, hCb] at hi; cases hi
  omega
 have hba := below_alloc (Below.refl w.heap.size w) (.cells #[.int .u16 0, .int .u32 0] 45)
 have hbb := blk_new w (.cells #[.int .u16 0, .int .u32 0] 45)
 obtain ⟨b2, hb2⟩ : ∃ b2, b2 = w.heap.size := ⟨_, rfl⟩
 obtain ⟨w1, hw1⟩ : ∃ w1, w1 = w.alloc (.cells #[.int .u16 0, .int .u32 0] 45) := ⟨_, rfl⟩
 rw [← hw1] at hba hbb
 rw [← hb2] at hbb
 have hrb := (hba.block rb (blk_lt h.box)).trans h.box
 have hcm := ownC_block hD.own (hba.block cm hD.own.lt)
 obtain ⟨q, hq⟩ : ∃ q, q = nm first b := ⟨_, rfl⟩
 rw [← hq] at hrb
 have HSN := ax (show ∀ w', Below w1.heap.size w1 w' → w'.cell? ⟨rb, 3, none⟩ = some (.map (some cm)) ∧ w'.cell? ⟨rb, 1, none⟩ = some (.int .u16 q) from fun w' hb => ⟨blk_cell ((hb.block rb (blk_lt hrb)).trans hrb) 3, blk_cell ((hb.block rb (blk_lt hrb)).trans hrb) 1⟩)
 have HOW := ax (show ∀ w', Below w1.heap.size w1 w' → ownC w' cm (Maps.size D) D from fun w' hb => ownC_block hcm (hb.block cm hcm.lt))
 have HX2 := ax (show ∀ w', Below w1.heap.size w1 w' → w'.heap[b2]? = some (.cells #[.int .u16 0, .int .u32 0] 45 (0, 0)) from fun w' hb => (hb.block b2 (blk_lt hbb)).trans hbb)
 have HFW := ax (show Maps.size D ≤ 1000 from by rw [hD.siz]; have := cntC_le C; omega)
 have HHS := ax (fun x => hD.has x)
 have HB1 := ax hba
 have HW := ax (And.intro hw1 hb2)
 have HN := ax (And.intro hq (And.intro hC (show b ≤ 6 by omega)))
 have HB := ax (below_drew1 (Below.refl w1.heap.size w1))
 have hu := Tryz.underlying45
 clear h hD hle hC hCb hba hbb hb2 hw1 hrb hcm hq
 go_enter Tryz.func14, Tryz.ntmps14
 go_wp2_with fail
 rw [← HW.out.1, ← HW.out.2]
 refine start_ (n := 17) (S := (fun w' => w'.cell? ⟨rb, 3, none⟩ = some (.map (some cm)) ∧ w'.cell? ⟨rb, 1, none⟩ = some (.int .u16 q))) (ds := [15]) #[false, false, false, false, false, false, false, false, false, false, false, false, false, false, false, false, false] kr rfl rfl (HSN.out _ HB.out) (fun hHeld => ?_)
 refine with_tabW rmap3.tab rmap3.bits (fun HT_ HW_ => ?_)
 refine pu_ 0 9 HT_ ?_; refine pu_ 1 10 HT_ ?_; refine pu_ 2 11 HT_ ?_; refine tk_ 3 12 HT_ HW_ hHeld ?_; refine pu_ 4 13 HT_ ?_; refine pu_ 5 14 HT_ ?_; refine pu_ 6 15 HT_ ?_; refine tk_ 7 16 HT_ HW_ hHeld ?_
 refine two_ (i := 8) (j := 14) (Ni := some 17) (Nj := some 3) #[true, true, true, true, true, true, true, true, true, false, false, false, false, false, false, false, false] #[true, true, true, true, true, true, true, true, false, false, false, false, false, false, true, false, false] rfl rfl rfl rfl (two_of HT_.out kr) (by decide) (by decide) (fun K hK => ?_) (fun K hK => ?_)
 ·skip
  refine goes_ Tryz.func44 kr rfl #[.map (some cm)] (by rfl) rfl rfl gs_ ?_
  refine (rkeys2_calls cm _).mono ?_
  rintro e w3 ⟨Bm, rfl, hBl, hBx, hb⟩
  have HBM := ax hBx
  have HB := ax (below_step HB.out hb)
  try have HX := ax ((hb.block _ (blk_lt HX.out)).trans HX.out)
  clear hb hBl hBx
  refine ⟨_, rfl, ?_⟩
  refine hK.out _ _ (HSN.out _ HB.out) (fun hHeld => ?_)
  clear hK K
  refine norm_ (a' := ?_) ?_ ?_
  rotate_left
  ·show Act.put _ (some 17) _ = _
   simp only [Act.put, List.setIfInBounds_toArray, List.set_cons_zero, List.set_cons_succ, i64_w, i32_w]
   rfl
  refine two_ (i := 9) (j := 14) (Ni := some 18) (Nj := some 3) #[true, true, true, true, true, true, true, true, true, true, false, false, false, false, false, false, false] #[true, true, true, true, true, true, true, true, true, false, false, false, false, false, true, false, false] rfl rfl rfl rfl (two_of HT_.out kr) (by decide) (by decide) (fun K hK => ?_) (fun K hK => ?_)
  ·skip
   refine goes_ Tryz.func43 kr rfl #[.func (.func 93) #[] #[.pointer (some ⟨Bm, 0, none⟩)]] (by rfl) rfl rfl gs_ ?_
   refine (rcollect_calls Bm cm (Maps.size D) D HFW.out _ HBM.out (HOW.out _ HB.out)).mono ?_
   rintro e w4 ⟨vy, ys, rfl, h1, h2, hb⟩
   obtain ⟨Ay, cy, rfl, hcy, hry⟩ := own_reads_of_le (enc := Value.int .u16) (d := (0 : Int)) (show w4.ownsRow _ seqT 1 vy ys.length (encs (Value.int .u16) ys) from h1)
   have HRY := ax (And.intro hcy (Kd.C_of_reads (h1 := fun _ => rfl) hry))
   obtain ⟨ms, g1, g2, g3, g4⟩ := rof_calls (w1 := w4) (first := first) HN.out.2.2 HN.out.2.1 h2.1 (fun x => (h2.2 x).trans (HHS.out x))
   rw [← HN.out.1] at g4
   have HMS := ax (And.intro g1 (And.intro g2 g4))
   have HB := ax (below_step HB.out hb)
   try have HX := ax ((hb.block _ (blk_lt HX.out)).trans HX.out)
   obtain ⟨ly, hly⟩ : ∃ ly, ly = ys.length := ⟨_, rfl⟩
   have HLY := ax hly
   rw [← hly]
   clear hb h1 h2 hcy hry g1 g2 g3 g4 hly
   refine ⟨_, rfl, ?_⟩
   refine hK.out _ _ (HSN.out _ HB.out) (fun hHeld => ?_)
   clear hK K
   refine norm_ (a' := ?_) ?_ ?_
   rotate_left
   ·show Act.put _ (some 18) _ = _
    simp only [Act.put, List.setIfInBounds_toArray, List.set_cons_zero, List.set_cons_succ, i64_w, i32_w]
    rfl
   refine two_ (i := 10) (j := 14) (Ni := some 19) (Nj := some 3) #[true, true, true, true, true, true, true, true, true, true, true, false, false, false, false, false, false] #[true, true, true, true, true, true, true, true, true, true, false, false, false, false, true, false, false] rfl rfl rfl rfl (two_of HT_.out kr) (by decide) (by decide) (fun K hK => ?_) (fun K hK => ?_)
   ·skip
    refine goes_ Tryz.func42 kr rfl #[.int .u16 q, .slice Ay ly cy] (by rfl) rfl rfl gs_ ?_
    have hof := fun w' hC => ackmap_Of.calls 100 q Ay cy ys q ((ors ms : Nat) : Int) 0 w' hC HRY.out.1 HMS.out.2.2
    rw [← HLY.out] at hof
    refine (hof _ (by rw [HLY.out]; first | exact HRY.out.2 | exact HRY2.out)).mono ?_
    rintro e w5 ⟨rfl, hb⟩
    have HB := ax (below_step HB.out hb)
    try have HX := ax ((hb.block _ (blk_lt HX.out)).trans HX.out)
    clear hb hof
    refine ⟨_, rfl, ?_⟩
    refine hK.out _ _ (HSN.out _ HB.out) (fun hHeld => ?_)
    clear hK K
    refine norm_ (a' := ?_) ?_ ?_
    rotate_left
    ·show Act.put _ (some 19) _ = _
     simp only [Act.put, List.setIfInBounds_toArray, List.set_cons_zero, List.set_cons_succ, i64_w, i32_w]
     rfl
    refine pu_ 11 8 HT_ ?_; refine pu_ 12 20 HT_ ?_; refine pu_ 13 21 HT_ ?_
    refine on_ 14 HT_ fun K hK => ?_
    refine value_ (w1 := ?_) (v := ?_) (by rfl) rfl ?_ ?_
    rotate_left 2
    ·go_simp
     constructor
     ·rfl
     ·rfl
    refine gen_allocB HB.out (fun bx wx hbl hbx hbb hbw => ?_)
    have HX := ax hbx
    have HB := ax hbb
    have HXL := ax hbl
    try have HBM := ax ((hbw.block _ (blk_lt HBM.out)).trans HBM.out)
    try have HRY2 := ax (Kd.C_below HRY.out.2 hbw)
    clear hbl hbx hbb hbw
    refine hK.out _ _ (HSN.out _ HB.out) (fun hHeld => ?_)
    clear hK K
    refine norm_ (a' := ?_) ?_ ?_
    rotate_left
    ·show Act.put _ (some 3) _ = _
     simp only [Act.put, List.setIfInBounds_toArray, List.set_cons_zero, List.set_cons_succ, i64_w, i32_w]
     rfl
    refine last_ (i := 15) (N := none) #[true, true, true, true, true, true, true, true, true, true, true, true, true, true, true, true, false] rfl rfl (one_of HT_.out kr) (by decide) (fun K hK => ?_)
    rw [if_pos (by rfl)]
    have hx0 := blk_cell HX.out 0
    have hx1 := blk_cell HX.out 1
    have hf0 := blk_frozen HX.out 0
    have hf1 := blk_frozen HX.out 1
    unfold Oper.wp
    go_simp
    refine gen_put2 HX.out (fun w6 hp6 hx6 => ?_)
    have HX := ax hx6
    have HB := ax (HB.out.trans (hp6.below HXL.out))
    clear hx0 hx1 hf0 hf1 hp6 hx6
    refine hK.out _ _ ?_
    clear hK K
    refine pu_ 16 4 HT_ ?_
    refine done_ (done_of HT_.out kr) ?_
    clear hHeld HT_ HW_
    have hy0 := blk_cell HX.out 0
    have hy1 := blk_cell HX.out 1
    have hz := HX2.out _ HB.out
    have hz0 := blk_cell hz 0
    have hz1 := blk_cell hz 1
    have hg0 := blk_frozen hz 0
    have hg1 := blk_frozen hz 1
    go_wp2_with fail
    have hz7 := blk_put (blk_put hz 0 (.int .u16 q) rfl) 1 (.int .u32 ((ors ms : Nat) : Int)) rfl
    refine bodyPost_ret (results_cell_row rfl _ _ b2 45 #[.int .u16 q, .int .u32 ((ors ms : Nat) : Int)] (0, 0) _ rfl hz7 hu rfl map_size) rfl ?_
    have hbl : w.heap.size ≤ b2 := by rw [HW.out.2]; exact Nat.le_refl _
    exact ⟨ms, by rw [HN.out.1], HMS.out.1, HMS.out.2.1, ((below_step HB1.out HB.out).trans ((Put1.set b2 0 _ _).below hbl)).trans ((Put1.set b2 1 _ _).below hbl)⟩
   ·skip
    refine value_ (w1 := ?_) (v := ?_) (by rfl) rfl ?_ ?_
    rotate_left 2
    ·go_simp
     constructor
     ·rfl
     ·rfl
    refine gen_allocB HB.out (fun bx wx hbl hbx hbb hbw => ?_)
    have HX := ax hbx
    have HB := ax hbb
    have HXL := ax hbl
    try have HBM := ax ((hbw.block _ (blk_lt HBM.out)).trans HBM.out)
    try have HRY2 := ax (Kd.C_below HRY.out.2 hbw)
    clear hbl hbx hbb hbw
    refine hK.out _ _ (HSN.out _ HB.out) (fun hHeld => ?_)
    clear hK K
    refine norm_ (a' := ?_) ?_ ?_
    rotate_left
    ·show Act.put _ (some 3) _ = _
     simp only [Act.put, List.setIfInBounds_toArray, List.set_cons_zero, List.set_cons_succ, i64_w, i32_w]
     rfl
    refine on_ 10 HT_ fun K hK => ?_
    refine goes_ Tryz.func42 kr rfl #[.int .u16 q, .slice Ay ly cy] (by rfl) rfl rfl gs_ ?_
    have hof := fun w' hC => ackmap_Of.calls 100 q Ay cy ys q ((ors ms : Nat) : Int) 0 w' hC HRY.out.1 HMS.out.2.2
    rw [← HLY.out] at hof
    refine (hof _ (by rw [HLY.out]; first | exact HRY.out.2 | exact HRY2.out)).mono ?_
    rintro e w5 ⟨rfl, hb⟩
    have HB := ax (below_step HB.out hb)
    try have HX := ax ((hb.block _ (blk_lt HX.out)).trans HX.out)
    clear hb hof
    refine ⟨_, rfl, ?_⟩
    refine hK.out _ _ (HSN.out _ HB.out) (fun hHeld => ?_)
    clear hK K
    refine norm_ (a' := ?_) ?_ ?_
    rotate_left
    ·show Act.put _ (some 19) _ = _
     simp only [Act.put, List.setIfInBounds_toArray, List.set_cons_zero, List.set_cons_succ, i64_w, i32_w]
     rfl
    refine pu_ 11 8 HT_ ?_; refine pu_ 12 20 HT_ ?_; refine pu_ 13 21 HT_ ?_
    refine last_ (i := 15) (N := none) #[true, true, true, true, true, true, true, true, true, true, true, true, true, true, true, true, false] rfl rfl (one_of HT_.out kr) (by decide) (fun K hK => ?_)
    rw [if_pos (by rfl)]
    have hx0 := blk_cell HX.out 0
    have hx1 := blk_cell HX.out 1
    have hf0 := blk_frozen HX.out 0
    have hf1 := blk_frozen HX.out 1
    unfold Oper.wp
    go_simp
    refine gen_put2 HX.out (fun w6 hp6 hx6 => ?_)
    have HX := ax hx6
    have HB := ax (HB.out.trans (hp6.below HXL.out))
    clear hx0 hx1 hf0 hf1 hp6 hx6
    refine hK.out _ _ ?_
    clear hK K
    refine pu_ 16 4 HT_ ?_
    refine done_ (done_of HT_.out kr) ?_
    clear hHeld HT_ HW_
    have hy0 := blk_cell HX.out 0
    have hy1 := blk_cell HX.out 1
    have hz := HX2.out _ HB.out
    have hz0 := blk_cell hz 0
    have hz1 := blk_cell hz 1
    have hg0 := blk_frozen hz 0
    have hg1 := blk_frozen hz 1
    go_wp2_with fail
    have hz7 := blk_put (blk_put hz 0 (.int .u16 q) rfl) 1 (.int .u32 ((ors ms : Nat) : Int)) rfl
    refine bodyPost_ret (results_cell_row rfl _ _ b2 45 #[.int .u16 q, .int .u32 ((ors ms : Nat) : Int)] (0, 0) _ rfl hz7 hu rfl map_size) rfl ?_
    have hbl : w.heap.size ≤ b2 := by rw [HW.out.2]; exact Nat.le_refl _
    exact ⟨ms, by rw [HN.out.1], HMS.out.1, HMS.out.2.1, ((below_step HB1.out HB.out).trans ((Put1.set b2 0 _ _).below hbl)).trans ((Put1.set b2 1 _ _).below hbl)⟩
  ·skip
   refine value_ (w1 := ?_) (v := ?_) (by rfl) rfl ?_ ?_
   rotate_left 2
   ·go_simp
    constructor
    ·rfl
    ·rfl
   refine gen_allocB HB.out (fun bx wx hbl hbx hbb hbw => ?_)
   have HX := ax hbx
   have HB := ax hbb
   have HXL := ax hbl
   try have HBM := ax ((hbw.block _ (blk_lt HBM.out)).trans HBM.out)
   try have HRY2 := ax (Kd.C_below HRY.out.2 hbw)
   clear hbl hbx hbb hbw
   refine hK.out _ _ (HSN.out _ HB.out) (fun hHeld => ?_)
   clear hK K
   refine norm_ (a' := ?_) ?_ ?_
   rotate_left
   ·show Act.put _ (some 3) _ = _
    simp only [Act.put, List.setIfInBounds_toArray, List.set_cons_zero, List.set_cons_succ, i64_w, i32_w]
    rfl
   refine on_ 9 HT_ fun K hK => ?_
   refine goes_ Tryz.func43 kr rfl #[.func (.func 93) #[] #[.pointer (some ⟨Bm, 0, none⟩)]] (by rfl) rfl rfl gs_ ?_
   refine (rcollect_calls Bm cm (Maps.size D) D HFW.out _ HBM.out (HOW.out _ HB.out)).mono ?_
   rintro e w4 ⟨vy, ys, rfl, h1, h2, hb⟩
   obtain ⟨Ay, cy, rfl, hcy, hry⟩ := own_reads_of_le (enc := Value.int .u16) (d := (0 : Int)) (show w4.ownsRow _ seqT 1 vy ys.length (encs (Value.int .u16) ys) from h1)
   have HRY := ax (And.intro hcy (Kd.C_of_reads (h1 := fun _ => rfl) hry))
   obtain ⟨ms, g1, g2, g3, g4⟩ := rof_calls (w1 := w4) (first := first) HN.out.2.2 HN.out.2.1 h2.1 (fun x => (h2.2 x).trans (HHS.out x))
   rw [← HN.out.1] at g4
   have HMS := ax (And.intro g1 (And.intro g2 g4))
   have HB := ax (below_step HB.out hb)
   try have HX := ax ((hb.block _ (blk_lt HX.out)).trans HX.out)
   obtain ⟨ly, hly⟩ : ∃ ly, ly = ys.length := ⟨_, rfl⟩
   have HLY := ax hly
   rw [← hly]
   clear hb h1 h2 hcy hry g1 g2 g3 g4 hly
   refine ⟨_, rfl, ?_⟩
   refine hK.out _ _ (HSN.out _ HB.out) (fun hHeld => ?_)
   clear hK K
   refine norm_ (a' := ?_) ?_ ?_
   rotate_left
   ·show Act.put _ (some 18) _ = _
    simp only [Act.put, List.setIfInBounds_toArray, List.set_cons_zero, List.set_cons_succ, i64_w, i32_w]
    rfl
   refine on_ 10 HT_ fun K hK => ?_
   refine goes_ Tryz.func42 kr rfl #[.int .u16 q, .slice Ay ly cy] (by rfl) rfl rfl gs_ ?_
   have hof := fun w' hC => ackmap_Of.calls 100 q Ay cy ys q ((ors ms : Nat) : Int) 0 w' hC HRY.out.1 HMS.out.2.2
   rw [← HLY.out] at hof
   refine (hof _ (by rw [HLY.out]; first | exact HRY.out.2 | exact HRY2.out)).mono ?_
   rintro e w5 ⟨rfl, hb⟩
   have HB := ax (below_step HB.out hb)
   try have HX := ax ((hb.block _ (blk_lt HX.out)).trans HX.out)
   clear hb hof
   refine ⟨_, rfl, ?_⟩
   refine hK.out _ _ (HSN.out _ HB.out) (fun hHeld => ?_)
   clear hK K
   refine norm_ (a' := ?_) ?_ ?_
   rotate_left
   ·show Act.put _ (some 19) _ = _
    simp only [Act.put, List.setIfInBounds_toArray, List.set_cons_zero, List.set_cons_succ, i64_w, i32_w]
    rfl
   refine pu_ 11 8 HT_ ?_; refine pu_ 12 20 HT_ ?_; refine pu_ 13 21 HT_ ?_
   refine last_ (i := 15) (N := none) #[true, true, true, true, true, true, true, true, true, true, true, true, true, true, true, true, false] rfl rfl (one_of HT_.out kr) (by decide) (fun K hK => ?_)
   rw [if_pos (by rfl)]
   have hx0 := blk_cell HX.out 0
   have hx1 := blk_cell HX.out 1
   have hf0 := blk_frozen HX.out 0
   have hf1 := blk_frozen HX.out 1
   unfold Oper.wp
   go_simp
   refine gen_put2 HX.out (fun w6 hp6 hx6 => ?_)
   have HX := ax hx6
   have HB := ax (HB.out.trans (hp6.below HXL.out))
   clear hx0 hx1 hf0 hf1 hp6 hx6
   refine hK.out _ _ ?_
   clear hK K
   refine pu_ 16 4 HT_ ?_
   refine done_ (done_of HT_.out kr) ?_
   clear hHeld HT_ HW_
   have hy0 := blk_cell HX.out 0
   have hy1 := blk_cell HX.out 1
   have hz := HX2.out _ HB.out
   have hz0 := blk_cell hz 0
   have hz1 := blk_cell hz 1
   have hg0 := blk_frozen hz 0
   have hg1 := blk_frozen hz 1
   go_wp2_with fail
   have hz7 := blk_put (blk_put hz 0 (.int .u16 q) rfl) 1 (.int .u32 ((ors ms : Nat) : Int)) rfl
   refine bodyPost_ret (results_cell_row rfl _ _ b2 45 #[.int .u16 q, .int .u32 ((ors ms : Nat) : Int)] (0, 0) _ rfl hz7 hu rfl map_size) rfl ?_
   have hbl : w.heap.size ≤ b2 := by rw [HW.out.2]; exact Nat.le_refl _
   exact ⟨ms, by rw [HN.out.1], HMS.out.1, HMS.out.2.1, ((below_step HB1.out HB.out).trans ((Put1.set b2 0 _ _).below hbl)).trans ((Put1.set b2 1 _ _).below hbl)⟩
 ·skip
  refine value_ (w1 := ?_) (v := ?_) (by rfl) rfl ?_ ?_
  rotate_left 2
  ·go_simp
   constructor
   ·rfl
   ·rfl
  refine gen_allocB HB.out (fun bx wx hbl hbx hbb hbw => ?_)
  have HX := ax hbx
  have HB := ax hbb
  have HXL := ax hbl
  try have HBM := ax ((hbw.block _ (blk_lt HBM.out)).trans HBM.out)
  try have HRY2 := ax (Kd.C_below HRY.out.2 hbw)
  clear hbl hbx hbb hbw
  refine hK.out _ _ (HSN.out _ HB.out) (fun hHeld => ?_)
  clear hK K
  refine norm_ (a' := ?_) ?_ ?_
  rotate_left
  ·show Act.put _ (some 3) _ = _
   simp only [Act.put, List.setIfInBounds_toArray, List.set_cons_zero, List.set_cons_succ, i64_w, i32_w]
   rfl
  refine on_ 8 HT_ fun K hK => ?_
  refine goes_ Tryz.func44 kr rfl #[.map (some cm)] (by rfl) rfl rfl gs_ ?_
  refine (rkeys2_calls cm _).mono ?_
  rintro e w3 ⟨Bm, rfl, hBl, hBx, hb⟩
  have HBM := ax hBx
  have HB := ax (below_step HB.out hb)
  try have HX := ax ((hb.block _ (blk_lt HX.out)).trans HX.out)
  clear hb hBl hBx
  refine ⟨_, rfl, ?_⟩
  refine hK.out _ _ (HSN.out _ HB.out) (fun hHeld => ?_)
  clear hK K
  refine norm_ (a' := ?_) ?_ ?_
  rotate_left
  ·show Act.put _ (some 17) _ = _
   simp only [Act.put, List.setIfInBounds_toArray, List.set_cons_zero, List.set_cons_succ, i64_w, i32_w]
   rfl
  refine on_ 9 HT_ fun K hK => ?_
  refine goes_ Tryz.func43 kr rfl #[.func (.func 93) #[] #[.pointer (some ⟨Bm, 0, none⟩)]] (by rfl) rfl rfl gs_ ?_
  refine (rcollect_calls Bm cm (Maps.size D) D HFW.out _ HBM.out (HOW.out _ HB.out)).mono ?_
  rintro e w4 ⟨vy, ys, rfl, h1, h2, hb⟩
  obtain ⟨Ay, cy, rfl, hcy, hry⟩ := own_reads_of_le (enc := Value.int .u16) (d := (0 : Int)) (show w4.ownsRow _ seqT 1 vy ys.length (encs (Value.int .u16) ys) from h1)
  have HRY := ax (And.intro hcy (Kd.C_of_reads (h1 := fun _ => rfl) hry))
  obtain ⟨ms, g1, g2, g3, g4⟩ := rof_calls (w1 := w4) (first := first) HN.out.2.2 HN.out.2.1 h2.1 (fun x => (h2.2 x).trans (HHS.out x))
  rw [← HN.out.1] at g4
  have HMS := ax (And.intro g1 (And.intro g2 g4))
  have HB := ax (below_step HB.out hb)
  try have HX := ax ((hb.block _ (blk_lt HX.out)).trans HX.out)
  obtain ⟨ly, hly⟩ : ∃ ly, ly = ys.length := ⟨_, rfl⟩
  have HLY := ax hly
  rw [← hly]
  clear hb h1 h2 hcy hry g1 g2 g3 g4 hly
  refine ⟨_, rfl, ?_⟩
  refine hK.out _ _ (HSN.out _ HB.out) (fun hHeld => ?_)
  clear hK K
  refine norm_ (a' := ?_) ?_ ?_
  rotate_left
  ·show Act.put _ (some 18) _ = _
   simp only [Act.put, List.setIfInBounds_toArray, List.set_cons_zero, List.set_cons_succ, i64_w, i32_w]
   rfl
  refine on_ 10 HT_ fun K hK => ?_
  refine goes_ Tryz.func42 kr rfl #[.int .u16 q, .slice Ay ly cy] (by rfl) rfl rfl gs_ ?_
  have hof := fun w' hC => ackmap_Of.calls 100 q Ay cy ys q ((ors ms : Nat) : Int) 0 w' hC HRY.out.1 HMS.out.2.2
  rw [← HLY.out] at hof
  refine (hof _ (by rw [HLY.out]; first | exact HRY.out.2 | exact HRY2.out)).mono ?_
  rintro e w5 ⟨rfl, hb⟩
  have HB := ax (below_step HB.out hb)
  try have HX := ax ((hb.block _ (blk_lt HX.out)).trans HX.out)
  clear hb hof
  refine ⟨_, rfl, ?_⟩
  refine hK.out _ _ (HSN.out _ HB.out) (fun hHeld => ?_)
  clear hK K
  refine norm_ (a' := ?_) ?_ ?_
  rotate_left
  ·show Act.put _ (some 19) _ = _
   simp only [Act.put, List.setIfInBounds_toArray, List.set_cons_zero, List.set_cons_succ, i64_w, i32_w]
   rfl
  refine pu_ 11 8 HT_ ?_; refine pu_ 12 20 HT_ ?_; refine pu_ 13 21 HT_ ?_
  refine last_ (i := 15) (N := none) #[true, true, true, true, true, true, true, true, true, true, true, true, true, true, true, true, false] rfl rfl (one_of HT_.out kr) (by decide) (fun K hK => ?_)
  rw [if_pos (by rfl)]
  have hx0 := blk_cell HX.out 0
  have hx1 := blk_cell HX.out 1
  have hf0 := blk_frozen HX.out 0
  have hf1 := blk_frozen HX.out 1
  unfold Oper.wp
  go_simp
  refine gen_put2 HX.out (fun w6 hp6 hx6 => ?_)
  have HX := ax hx6
  have HB := ax (HB.out.trans (hp6.below HXL.out))
  clear hx0 hx1 hf0 hf1 hp6 hx6
  refine hK.out _ _ ?_
  clear hK K
  refine pu_ 16 4 HT_ ?_
  refine done_ (done_of HT_.out kr) ?_
  clear hHeld HT_ HW_
  have hy0 := blk_cell HX.out 0
  have hy1 := blk_cell HX.out 1
  have hz := HX2.out _ HB.out
  have hz0 := blk_cell hz 0
  have hz1 := blk_cell hz 1
  have hg0 := blk_frozen hz 0
  have hg1 := blk_frozen hz 1
  go_wp2_with fail
  have hz7 := blk_put (blk_put hz 0 (.int .u16 q) rfl) 1 (.int .u32 ((ors ms : Nat) : Int)) rfl
  refine bodyPost_ret (results_cell_row rfl _ _ b2 45 #[.int .u16 q, .int .u32 ((ors ms : Nat) : Int)] (0, 0) _ rfl hz7 hu rfl map_size) rfl ?_
  have hbl : w.heap.size ≤ b2 := by rw [HW.out.2]; exact Nat.le_refl _
  exact ⟨ms, by rw [HN.out.1], HMS.out.1, HMS.out.2.1, ((below_step HB1.out HB.out).trans ((Put1.set b2 0 _ _).below hbl)).trans ((Put1.set b2 1 _ _).below hbl)⟩
-- YtajiggmeappfaaaGreatDoorPKMsgs
structure Msgs (w : World) (A : Option Addr) (ms : List (List Int)) : Prop where
 len : ms.length ≤ 9223372036854775807
 at_ : ∀ i (h : i < ms.length), ∃ a Ai ci, A = some a ∧ w.cell? (a.add i) = some (.slice Ai ms[i].length ci) ∧ Kd.C (Kd.int .u8) w Ai ms[i].length ms[i] ∧ ms[i].length ≤ ci ∧ byt ms[i]
theorem Msgs.below {w w' : World} {A : Option Addr} {ms : List (List Int)} (h : Msgs w A ms) (hb : Below w.heap.size w w') : Msgs w' A ms := by
 refine ⟨h.len, fun i hi => ?_⟩
 obtain ⟨a, Ai, ci, h1, h2, h3, h4⟩ := h.at_ i hi
 exact ⟨a, Ai, ci, h1, (hb.cell (World.block_lt_of_cell? w _ h2)).trans h2, Kd.C_below h3 hb, h4⟩
theorem u64_small (n : Nat) (h : n ≤ 1000) : IntKind.u64.wrap (n : Int) = (n : Int) := by unfold IntKind.wrap; simp [IntKind.signed, IntKind.bits]; omega
theorem u64_in (x : Int) : 0 ≤ IntKind.u64.wrap x := by unfold IntKind.wrap; simp [IntKind.signed, IntKind.bits]; omega
theorem key_of (x : Int) (n : Nat) (h : 0 < n) (hn : n ≤ 1000) : ∃ k : Nat, wrap64 (Int.tmod (IntKind.u64.wrap x) (n : Int)) = (k : Int) ∧ k < n := by
 have h0 := u64_in x
 have h1 : Int.tmod (IntKind.u64.wrap x) (n : Int) = IntKind.u64.wrap x % (n : Int) := Int.tmod_eq_emod_of_nonneg h0
 have h2 := Int.emod_nonneg (IntKind.u64.wrap x) (show (n : Int) ≠ 0 by omega)
 have h3 := Int.emod_lt_of_pos (IntKind.u64.wrap x) (show (0 : Int) < (n : Int) by omega)
 rw [h1]
 generalize IntKind.u64.wrap x % (n : Int) = y at h2 h3
 refine ⟨y.toNat, ?_, by omega⟩
 unfold wrap64; omega
-- YtajiggmeappfaaaGreatDoorPHPre
abbrev kMp : Kd (Int × Int) := Kd.pair (Kd.int .u16) (Kd.int .u32)
abbrev mpC (x : Int × Int) : List Value := [.int .u16 x.1, .int .u32 x.2]
theorem mp_info : (Tryz.prog.info? 45).map (fun i => (i.zero, i.size, i.bytes)) = some (some (.agg #[.int .u16 0, .int .u32 0]), 2, 8) := by kernel_rfl
theorem kMp_M (w : World) (base : Nat) (ok : Nat → Prop) (x : Int × Int) : kMp.M w base ok x (mpC x) := ⟨[.int .u16 x.1], [.int .u32 x.2], rfl, rfl, rfl⟩
theorem kMp_of {w : World} {x : Int × Int} {cs : List Value} (h : kMp.K w x cs) : cs = mpC x := by
 obtain ⟨c0, c1, rfl, h0, h1⟩ := h
 have e0 : c0 = [.int .u16 x.1] := h0
 have e1 : c1 = [.int .u32 x.2] := h1
 rw [e0, e1]; rfl
theorem mp_blk {w : World} {base : Nat} {ok : Nat → Prop} {v : Value} {L : List (Int × Int)} (h : Kd.R kMp 45 w base ok v L) (hl : 0 < L.length) : ∃ b c, v = .slice (some ⟨b, 0, none⟩) L.length c := by
 obtain ⟨_, inner, hown, hr⟩ := h
 rcases hown.2 with ⟨hv, hz⟩ | ⟨b, cap, cur, hv, _⟩
 ·omega
 ·exact ⟨b, cap, hv⟩
theorem mp_at {w : World} {base b c : Nat} {ok : Nat → Prop} {L : List (Int × Int)} (h : Kd.R kMp 45 w base ok (.slice (some ⟨b, 0, none⟩) L.length c) L) (i : Nat) (hi : i < L.length) : w.cell? ⟨b, i * 2, none⟩ = some (.int .u16 L[i].1) ∧ w.cell? ⟨b, i * 2 + 1, none⟩ = some (.int .u32 L[i].2) := by
 obtain ⟨ad, e, hcell⟩ := (Kd.R_reads' h).2.2.2.2 (by omega)
 injection e with e
 subst e
 obtain ⟨cs, hcs, hK, hc⟩ := hcell i _ (List.getElem?_eq_getElem hi)
 have e2 := kMp_of hK
 subst e2
 have h0 := hc 0 (.int .u16 L[i].1) rfl
 have h1 := hc 1 (.int .u32 L[i].2) rfl
 have e3 : kMp.sz = 2 := rfl
 rw [e3] at h0 h1
 constructor
 ·have e4 : (⟨b, 0, none⟩ : Addr).add (i * 2 + 0) = ⟨b, i * 2, none⟩ := by rw [add_at]; simp
  rw [e4] at h0; exact h0
 ·have e4 : (⟨b, 0, none⟩ : Addr).add (i * 2 + 1) = ⟨b, i * 2 + 1, none⟩ := by rw [add_at]; simp
  rw [e4] at h1; exact h1
theorem R_keepM {w w' : World} {base : Nat} {e : TypeId} {v : Value} {xs : List (Int × Int)} (h : Kd.R kMp e w base (fun _ => True) v xs) (hb : ∀ k, v.ownBlock = some k → w'.heap[k]? = w.heap[k]?) : Kd.R kMp e w' base (fun _ => True) v xs :=
 Kd.R_mono (Kd.R_step (show Kd.R kMp e w base (fun k => v.ownBlock = some k) v xs from ⟨fun _ hk => hk, by
  obtain ⟨_, inner, h1, h2⟩ := h
  exact ⟨inner, h1, h2.imp_ (fun x c hm => hm)⟩⟩) (fun k ok _ => hb k ok)) (fun _ _ => trivial)
theorem SD.start {w : World} {S sb g mp : Nat} {first : Int} {Ms : Nat → List Int} {v : Value} {L : List Nat} (h : SN w S sb g mp first Ms v L) {n : Nat} (hn : L.length = n) (h0 : 0 < n) (h6 : n ≤ 6) (hb : ∀ i, i < n → byt (Ms i) ∧ (Ms i).length ≤ 5) :
  ∃ gk, SD w S sb g mp gk first n 0 Ms (fun i => L.getD i 0) (fun _ => none) (fun _ => false) (fun _ => 0) 0 (fun _ => .slice none 0 0) [] (fun _ => False) := by
 have hrow : rowX (fun i => L.getD i 0) 0 n = L := by
  apply List.ext_getElem
  ·rw [rowX_len, hn, Nat.sub_zero]
  ·intro i h1 h2
   rw [rowX_get, Nat.zero_add, List.getD_eq_getElem?_getD, List.getElem?_eq_getElem h2]; rfl
 have hgo : ∀ i, i < n → ∃ x, L[i]? = some x ∧ L.getD i 0 = x := fun i hi => ⟨L[i]'(by omega), List.getElem?_eq_getElem (by omega), by rw [List.getD_eq_getElem?_getD, List.getElem?_eq_getElem (by omega)]; rfl⟩
 have hr0 := h.row
 obtain ⟨_, inner, hown, hr⟩ := h.row
 rcases hown.2 with ⟨hv, hz⟩ | ⟨gk, cap, cur, hv, hbg, hg, hnc, _⟩
 ·omega
 subst hv
 have hbox := h.box
 have hreads := (Kd.R_reads' hr0).2.2
 refine ⟨gk, ⟨⟨Nat.zero_le _, h6⟩, hb, ⟨0, cap, 0, 0, ?_, ?_, by omega, by omega⟩, fun i _ hi => ?_, h.wh, fun i j _ hi _ hj e => ?_, fun i j k _ _ _ _ e => (by cases e), ⟨h.lo, fun i _ hi => ?_, fun i k _ _ e => (by cases e)⟩, fun p hp => (by cases hp), fun i _ _ _ e => (by cases e), fun i hi => hi.elim, fun i hi => hi.elim⟩⟩
 ·rw [hrow]; exact hbox
 ·rw [hrow]
  refine ⟨⟨cur, hg⟩, hnc, by omega, fun i hi => ?_⟩
  obtain ⟨ad, e, hcell⟩ := hreads.2.2 (by omega)
  injection e with e
  subst e
  obtain ⟨c, hc, hK, hcc⟩ := hcell i _ (List.getElem?_eq_getElem hi)
  have hcK : c = [encP L[i]] := hK
  have := hcc 0 (encP L[i]) (by rw [hcK]; rfl)
  have e4 : (⟨gk, 0, none⟩ : Addr).add (i * kPt.sz + 0) = ⟨gk, 0 + i, none⟩ := by rw [add_at]; simp [kPt, Kd.scalar]
  rw [e4] at this
  exact this
 ·obtain ⟨x, hx, e⟩ := hgo i hi
  obtain ⟨_, he⟩ := h.en i x hx
  show EN w (L.getD i 0) _ _ _ _ _
  rw [e]
  exact he
 ·obtain ⟨x, hx, e1⟩ := hgo i hi
  obtain ⟨y, hy, e2⟩ := hgo j hj
  have e' : L.getD i 0 = L.getD j 0 := e
  rw [e1, e2] at e'
  subst e'
  have hil : i < L.length := by omega
  exact (List.getElem?_inj hil h.nd).1 (hx.trans hy.symm)
 ·obtain ⟨x, hx, e⟩ := hgo i hi
  show S ≤ L.getD i 0
  rw [e]
  exact (h.en i x hx).1
theorem RD.lower {w : World} {S S' rb gp mp cm : Nat} {first : Int} {n : Nat} {Ms : Nat → List Int} {b : Nat} {C : Nat → Bool} {out : Value} {got : Nat} (h : RD w S' rb gp mp cm first n Ms b C out got) (hS : S ≤ S') : RD w S rb gp mp cm first n Ms b C out got := by
 obtain ⟨es, h1, h2⟩ := h.out_.row
 exact ⟨h.le, h.box, h.po, h.ne, h.own, h.ran, ⟨es, Kd.Q_lower h1 hS, h2⟩, by have := h.low; omega⟩
theorem RD.ren {w : World} {S rb gp mp cm : Nat} {first : Int} {n : Nat} {Ms : Nat → List Int} {b : Nat} {C : Nat → Bool} {out : Value} {got : Nat} (h : RD w S rb gp mp cm first n Ms b C out got) {k : Nat} {cs : Array Value} {T : TypeId} (hk : w.heap[k]? = some (Obj.cells cs T (0, 0))) : k ≠ mp ∧ k ≠ cm := by
 constructor
 ·rintro rfl
  obtain ⟨es, cl, hm⟩ := own_lt h.po.own
  rw [hk] at hm; cases hm
 ·rintro rfl
  obtain ⟨D, hD⟩ := h.own
  obtain ⟨es, cl, hm⟩ := ownC_map hD.own
  rw [hk] at hm; cases hm
theorem SD.ren {w : World} {S sb g mp gk : Nat} {first : Int} {n lo : Nat} {Ms : Nat → List Int} {X : Nat → Nat} {Q : Nat → Option Nat} {ak : Nat → Bool} {T : Nat → Int} {now : Int} {V : Nat → Value} {ts : List (Int × Int)} {late : Nat → Prop} (h : SD w S sb g mp gk first n lo Ms X Q ak T now V ts late) {k : Nat} {cs : Array Value} {t : TypeId} (hk : w.heap[k]? = some (Obj.cells cs t (0, 0))) : k ≠ mp := fun e => h.not_mp hk (by simp [e])
theorem RD.beside {w w' : World} {S rb gp mp cm m : Nat} {first : Int} {n : Nat} {Ms : Nat → List Int} {b : Nat} {C : Nat → Bool} {out : Value} {got : Nat} (h : RD w S rb gp mp cm first n Ms b C out got) (hk : KT sTs [m] S w w') (h1 : m ≠ mp) (h2 : m ≠ cm) (hm : ∃ (es : Array MapEntry) (cl : Nat), w.heap[m]? = some (Obj.map es cl)) : RD w' S rb gp mp cm first n Ms b C out got := by
 refine h.keep (fun k hkk => hk.block k ?_ (fun hF => ?_))
 ·rcases hkk with rfl | rfl | ⟨cs, T, hc, _⟩
  ·exact h.mp_lt.1
  ·exact h.mp_lt.2
  ·exact blk_lt hc
 ·rcases hF.2 with hF | ⟨cs', T', hc', hT'⟩
  ·rw [List.mem_singleton] at hF
   subst hF
   rcases hkk with e | e | ⟨cs, T, hc, _⟩
   ·exact h1 e
   ·exact h2 e
   ·obtain ⟨es, cl, hm⟩ := hm
    rw [hc] at hm; cases hm
  ·rcases hkk with e | e | ⟨cs, T, hc, hT⟩
   ·subst e; exact (h.ren hc').1 rfl
   ·subst e; exact (h.ren hc').2 rfl
   ·rw [hc] at hc'; injection hc' with hc'; injection hc' with _ hc'; subst hc'
    revert hT hT'
    simp only [List.mem_cons, List.not_mem_nil, or_false]
    rintro (rfl | rfl | rfl | rfl) <;> decide
theorem SD.beside {w w' : World} {S sb g mp gk : Nat} {first : Int} {n lo : Nat} {Ms : Nat → List Int} {X : Nat → Nat} {Q : Nat → Option Nat} {ak : Nat → Bool} {T : Nat → Int} {now : Int} {V : Nat → Value} {ts : List (Int × Int)} {late : Nat → Prop} (h : SD w S sb g mp gk first n lo Ms X Q ak T now V ts late)
  {rb gp mr cm : Nat} {n' : Nat} {b : Nat} {C : Nat → Bool} {out : Value} {got : Nat} (hr : RD w S rb gp mr cm first n' Ms b C out got) (h1 : mp ≠ mr) (h2 : mp ≠ cm) {F : Nat → Prop} (hF : ∀ k, F k → k = mr ∨ k = cm ∨ k = rb ∨ out.ownBlock = some k) (hk : Keep F w w') : SD w' S sb g mp gk first n lo Ms X Q ak T now V ts late := by
 refine h.keep (fun k hkk => hk.block k ?_ (fun hf => ?_))
 ·rcases hkk with rfl | ⟨cs, T, hc, _⟩
  ·exact h.mp_lt
  ·exact blk_lt hc
 ·rcases hkk with e | ⟨cs, T, hc, hT⟩
  ·subst e
   obtain ⟨D, hD, _⟩ := h.wh.own
   obtain ⟨es, cl, hm⟩ := ownT_map hD
   rcases hF k hf with e | e | e | e
   ·exact h1 e
   ·exact h2 e
   ·subst e; rw [hr.box] at hm; cases hm
   ·obtain ⟨_, cs', hc'⟩ := hr.out_.typed k e
    rw [hc'] at hm; cases hm
  ·rcases hF k hf with e | e | e | e
   ·exact (hr.ren hc).1 e
   ·exact (hr.ren hc).2 e
   ·subst e
    have hb := hr.box
    unfold RCV at hb
    rw [hc] at hb; injection hb with hb; injection hb with _ hb; subst hb
    revert hT; decide
   ·obtain ⟨_, cs', hc'⟩ := hr.out_.typed k e
    rw [hc] at hc'; injection hc' with hc'; injection hc' with _ hc'; subst hc'
    revert hT; decide
theorem SD.map_ {w : World} {S sb g mp gk : Nat} {first : Int} {n lo : Nat} {Ms : Nat → List Int} {X : Nat → Nat} {Q : Nat → Option Nat} {ak : Nat → Bool} {T : Nat → Int} {now : Int} {V : Nat → Value} {ts : List (Int × Int)} {late : Nat → Prop} (h : SD w S sb g mp gk first n lo Ms X Q ak T now V ts late) : ∃ (es : Array MapEntry) (cl : Nat), w.heap[mp]? = some (Obj.map es cl) := by
 obtain ⟨D, hD, _⟩ := h.wh.own
 exact ownT_map hD
theorem kept0_calls {w : World} {sb g : Nat} {base : Int} {lv rn : Int} (h : SNB w sb base (.slice none 0 0) g lv rn) :
  Calls Tryz.prog 10 #[.pointer (some ⟨sb, 0, none⟩)] w fun e w' => e = .returned (.int .i64 0) ∧ Below w.heap.size w w' := by
 have hc : w.cell? ⟨sb, 4, none⟩ = some (.slice none 0 0) := blk_cell h 4
 clear h
 go_enter Tryz.func10, Tryz.ntmps10
 go_wp2_with fail
 go_ret
 exact ⟨rfl, Below.refl _ _⟩
abbrev Rcv (b : Nat) (C : Nat → Bool) (i : Nat) : Prop := i < b ∨ C i = true
structure HI (first : Int) (n t lo b : Nat) (Q : Nat → Option Nat) (ak C : Nat → Bool) (ts : List (Int × Int)) (hist : List (Int × Int)) : Prop where
 lob : lo ≤ b
 cb : C b = false
 ack : ∀ i, lo ≤ i → i < n → ak i = true → Rcv b C i
 tried : ∀ i, lo ≤ i → i < n → Rcv b C i → (Q i).isSome = true
 unack : lo < n → ak lo = false
 old : ∀ h ∈ hist, ∃ (bm : Nat) (ms : List Nat), h = (nm first bm, ((ors ms : Nat) : Int)) ∧ bm ≤ b ∧ (∀ k ∈ ms, 1 ≤ k ∧ k ≤ 32 ∧ bm + k < n) ∧ ∀ i, HasM bm ms i → Rcv b C i
 phi : lo < n → (Q lo = none ∧ t + 17 * (n - lo) ≤ 148) ∨ ∃ tt : Int, (nm first lo, tt) ∈ ts ∧ tt + 17 * ((n : Int) - lo) ≤ 148
theorem HI.start (first : Int) (n : Nat) (hn : n ≤ 6) : HI first n 0 0 0 (fun _ => none) (fun _ => false) (fun _ => false) [] [] := by
 refine ⟨Nat.le_refl _, rfl, fun i _ _ h => ?_, fun i _ _ h => ?_, fun _ => rfl, fun x hx => ?_, fun _ => .inl ⟨rfl, by omega⟩⟩
 ·cases h
 ·rcases h with h | h
  ·omega
  ·cases h
 ·cases hx
structure HST (w : World) (S sb g mp gk rb gp mr cm : Nat) (first : Int) (n : Nat) (Ms : Nat → List Int) (X : Nat → Nat) (t lo b : Nat) (Q : Nat → Option Nat) (ak : Nat → Bool) (V : Nat → Value) (ts : List (Int × Int)) (C : Nat → Bool) (out hv : Value) (hist : List (Int × Int)) : Prop where
 sd : SD w S sb g mp gk first n lo Ms X Q ak (fun _ => (t : Int)) t V ts (fun _ => False)
 rd : RD w S rb gp mr cm first n Ms b C out b
 his : Kd.R kMp 45 w S (fun _ => True) hv hist
 hi : HI first n t lo b Q ak C ts hist
 len : hist.length = t
theorem HST.below {w w' : World} {S sb g mp gk rb gp mr cm : Nat} {first : Int} {n : Nat} {Ms : Nat → List Int} {X : Nat → Nat} {t lo b : Nat} {Q : Nat → Option Nat} {ak : Nat → Bool} {V : Nat → Value} {ts : List (Int × Int)} {C : Nat → Bool} {out hv : Value} {hist : List (Int × Int)} (h : HST w S sb g mp gk rb gp mr cm first n Ms X t lo b Q ak V ts C out hv hist) (hb : Below w.heap.size w w') : HST w' S sb g mp gk rb gp mr cm first n Ms X t lo b Q ak V ts C out hv hist :=
 ⟨h.sd.below hb, h.rd.below hb, Kd.R_below h.his hb, h.hi, h.len⟩
structure IN (w : World) (S rb gp mr cm : Nat) (first : Int) (n : Nat) (Ms : Nat → List Int) (b : Nat) (C : Nat → Bool) (is : List Nat) (B0 B1 b2 : Nat) (C2 : Nat → Bool) (out2 : Value) : Prop where
 rd : RD w S rb gp mr cm first n Ms b2 C2 out2 b
 le : b ≤ b2
 cb : C2 b2 = false
 mono : ∀ i, Rcv b C i → Rcv b2 C2 i
 from_ : ∀ i, Rcv b2 C2 i → Rcv b C i ∨ i ∈ is
 own : ∀ k, out2.ownBlock = some k → k < B0 ∨ B1 ≤ k
 size : B1 ≤ w.heap.size
theorem IN.below {w w' : World} {S rb gp mr cm : Nat} {first : Int} {n : Nat} {Ms : Nat → List Int} {b : Nat} {C : Nat → Bool} {is : List Nat} {B0 B1 b2 : Nat} {C2 : Nat → Bool} {out2 : Value} (h : IN w S rb gp mr cm first n Ms b C is B0 B1 b2 C2 out2) (hb : Below w.heap.size w w') : IN w' S rb gp mr cm first n Ms b C is B0 B1 b2 C2 out2 :=
 ⟨h.rd.below hb, h.le, h.cb, h.mono, h.from_, h.own, Nat.le_trans h.size hb.size⟩
theorem IN.data {w w' : World} {S rb gp mr cm : Nat} {first : Int} {n : Nat} {Ms : Nat → List Int} {b : Nat} {C : Nat → Bool} {is : List Nat} {B0 B1 b2 : Nat} {C2 : Nat → Bool} {out2 : Value} (h : IN w S rb gp mr cm first n Ms b C is B0 B1 b2 C2 out2) {j b3 : Nat} (hj : j ∈ is) {C3 : Nat → Bool} {out3 : Value}
  (h1 : RD w' S rb gp mr cm first n Ms b3 C3 out3 b) (h2 : b2 ≤ b3) (h3 : C3 b3 = false) (h4 : ∀ i, (i < b3 ∨ C3 i = true) ↔ (i < b2 ∨ C2 i = true ∨ i = j)) (h5 : ∀ k, out3.ownBlock = some k → out2.ownBlock = some k ∨ w.heap.size ≤ k) (h6 : w.heap.size ≤ w'.heap.size) :
  IN w' S rb gp mr cm first n Ms b C is B0 B1 b3 C3 out3 ∧ Rcv b3 C3 j ∧ ∀ i, Rcv b2 C2 i → Rcv b3 C3 i := by
 have hm : ∀ i, Rcv b2 C2 i → Rcv b3 C3 i := fun i hi => (h4 i).2 (hi.elim .inl (fun h => .inr (.inl h)))
 have hs := h.size
 have hle := h.le
 refine ⟨⟨h1, by omega, h3, fun i hi => hm i (h.mono i hi), fun i hi => ?_, fun k hk => ?_, by omega⟩, (h4 j).2 (.inr (.inr rfl)), hm⟩
 ·rcases (h4 i).1 hi with h7 | h7 | h7
  ·exact h.from_ i (.inl h7)
  ·exact h.from_ i (.inr h7)
  ·exact .inr (h7 ▸ hj)
 ·rcases h5 k hk with h7 | h7
  ·exact h.own k h7
  ·exact .inr (by omega)
theorem PRT.str {w : World} {v : Value} {P : List Int} (h : PRT w v P) : (convert 37 9 v).run Tryz.prog w = .ok (.string (strOfNums P)) w := by
 obtain ⟨A, c, rfl, hC, _⟩ := h
 exact Kd.C_string Tryz.underlying37 Tryz.underlying5 Tryz.underlying9 hC
theorem HI.next {first : Int} {n t lo b lo' b' : Nat} {Q Q' : Nat → Option Nat} {ak ak' C C' : Nat → Bool} {ts ts' ts'' hist : List (Int × Int)} {is : List Nat} {bm0 : Nat} {ms0 : List Nat} (hn6 : n ≤ 6) (h : HI first n t lo b Q ak C ts hist)
  (hnd : (ts.map (·.1)).Nodup) (htim : ∀ p ∈ ts, (t : Int) < p.2) (hqt : ∀ tt, lo < n → (nm first lo, tt) ∈ ts → (Q lo).isSome = true) (hQ : ∀ i, (Q i).isSome = true → (Q' i).isSome = true) (hisQ : ∀ i ∈ is, (Q' i).isSome = true) (hsent : lo < n → lo ∈ is ∨ ∃ tt, (nm first lo, tt) ∈ ts ∧ (nm first lo, tt) ∈ ts') (htim' : ∀ p ∈ ts', (t : Int) + 1 < p.2)
  (hbb : b ≤ b') (hC' : C' b' = false) (hmono : ∀ i, Rcv b C i → Rcv b' C' i) (hfrom : ∀ i, Rcv b' C' i → Rcv b C i ∨ i ∈ is) (hCn : ∀ i, C' i = true → b' ≤ i ∧ i < n) {ms : List Nat} (hms : ∀ k, k ∈ ms ↔ 1 ≤ k ∧ C' (b' + k) = true) (hms32 : ∀ k ∈ ms, 1 ≤ k ∧ k ≤ 32)
  (hH : ∀ i, HasM bm0 ms0 i → Rcv b' C' i) (hlo : lo ≤ lo') (hlon : lo' ≤ n) (hak : ∀ i, lo ≤ i → i < n → (ak' i = true ↔ ak i = true ∨ HasM bm0 ms0 i)) (hall : ∀ i, lo ≤ i → i < lo' → ak' i = true) (hun : lo' < n → ak' lo' = false) (htk : ∀ i tt, i ≤ 100 → (nm first i, tt) ∈ ts' → ak' i = false → (nm first i, tt) ∈ ts'')
  (htim'' : ∀ p ∈ ts'', p.2 ≤ (t : Int) + 1 + 16) (hhas'' : lo' < n → (Q' lo').isSome = true → ∃ tt, (nm first lo', tt) ∈ ts'')
  (hlz : t < 30 ∨ ((∀ i ∈ is, Rcv b' C' i) ∧ bm0 = b' ∧ ms0 = ms)) :
  HI first n (t + 1) lo' b' Q' ak' C' ts'' (hist ++ [(nm first b', ((ors ms : Nat) : Int))]) := by
 have hHm : ∀ i, HasM b' ms i ↔ Rcv b' C' i := fun i => by
  constructor
  ·rintro (h1 | ⟨h1, h2⟩)
   ·exact .inl h1
   ·have := ((hms _).1 h2).2
    rw [show b' + (i - b') = i by omega] at this
    exact .inr this
  ·rintro (h1 | h1)
   ·exact .inl h1
   ·have h2 := hCn i h1
    have : i ≠ b' := fun e => by rw [e, hC'] at h1; cases h1
    exact .inr ⟨h2.1, (hms _).2 ⟨by omega, by rw [show b' + (i - b') = i by omega]; exact h1⟩⟩
 have hack : ∀ i, lo ≤ i → i < n → ak' i = true → Rcv b' C' i := fun i h1 h2 h3 => ((hak i h1 h2).1 h3).elim (fun h4 => hmono i (h.ack i h1 h2 h4)) (hH i)
 have hlob : lo' ≤ b' := by
  rcases Nat.lt_or_ge b' lo' with c | c
  ·have h1 : lo ≤ b' := by have := h.lob; omega
   have h2 := hack b' h1 (by omega) (hall b' h1 c)
   rcases h2 with h2 | h2
   ·omega
   ·rw [hC'] at h2; cases h2
  ·exact c
 refine ⟨hlob, hC', fun i h1 h2 h3 => hack i (by omega) h2 h3, fun i h1 h2 h3 => ?_, hun, fun x hx => ?_, fun hl => ?_⟩
 ·rcases hfrom i h3 with h4 | h4
  ·exact hQ i (h.tried i (by omega) h2 h4)
  ·exact hisQ i h4
 ·rcases List.mem_append.1 hx with hx | hx
  ·obtain ⟨bm, ms1, e, h1, h2, h3⟩ := h.old x hx
   exact ⟨bm, ms1, e, by omega, h2, fun i hi => hmono i (h3 i hi)⟩
  ·rw [List.mem_singleton] at hx
   exact ⟨b', ms, hx, Nat.le_refl _, fun k hk => ⟨(hms32 k hk).1, (hms32 k hk).2, (hCn _ ((hms k).1 hk).2).2⟩, fun i hi => (hHm i).1 hi⟩
 ·
  have hnew : t + 1 + 17 * (n - lo') ≤ 148 → (t : Int) + 1 + 16 + 17 * ((n : Int) - lo') ≤ 148 → (Q' lo' = none ∧ t + 1 + 17 * (n - lo') ≤ 148) ∨ ∃ tt : Int, (nm first lo', tt) ∈ ts'' ∧ tt + 17 * ((n : Int) - lo') ≤ 148 := fun h1 h2 => by
   cases hq : Q' lo' with
   | none => exact .inl ⟨rfl, h1⟩
   | some q =>
    obtain ⟨tt, ht⟩ := hhas'' hl (by rw [hq]; rfl)
    have := htim'' _ ht
    exact .inr ⟨tt, ht, by simp only at this; omega⟩
  rcases hlz with hz | ⟨hz1, hz2, hz3⟩
  ·exact hnew (by omega) (by omega)
  ·have hln : lo < n := by omega
   have hphi : t + 17 * (n - lo) ≤ 148 := by
    rcases h.phi hln with ⟨_, h1⟩ | ⟨tt, h1, h2⟩
    ·exact h1
    ·have := htim _ h1
     simp only at this
     omega
   subst hz2; subst hz3
   by_cases c : lo < lo'
   ·exact hnew (by omega) (by omega)
   ·have e : lo' = lo := by omega
    subst e
    have hua := hun hln
    rcases hsent hln with h1 | ⟨tt, h1, h2⟩
    ·have h3 := (hHm lo').2 (hz1 lo' h1)
     have h4 := (hak lo' (Nat.le_refl _) hln).2 (.inr h3)
     rw [hua] at h4; cases h4
    ·have h3 := htk lo' tt (by omega) h2 hua
     refine .inr ⟨tt, h3, ?_⟩
     rcases h.phi hln with ⟨h4, _⟩ | ⟨tt', h4, h5⟩
     ·have := hqt tt hln h1
      rw [h4] at this; cases this
     ·rw [fst_one hnd h1 h4]; exact h5
-- YtajiggmeappfaaaGreatDoorPHLaw
section
section
attribute [local go_sem] run_index_arr
def hands38.T : Bool × List (List Nat × List Nat) := (true, [([], []), ([], []), ([0, 1], [0, 1]), ([2], [2]), ([3], [3]), ([4, 3], [3, 4]), ([3], [3]), ([3], [3]), ([6, 7, 3], [3, 6, 7]), ([8, 3], [3, 8]), ([9, 3, 3], [3, 9]), ([10, 3], [3, 10]), ([5, 11, 3], [3, 5, 11]), ([3, 12], [3, 12])])
def hands38.B : List Nat := [0, 0, 3, 7, 15, 31, 15, 15, 207, 463, 975, 1999, 4095, 8191]
theorem hands38.tab : rtab .any (opsOf Tryz.f3 38) = hands38.T := by kernel_rfl
theorem hands38.bits : waitsOk hands38.T.2 hands38.B = true := by kernel_rfl
theorem lawHands.walk {w : World} (first : Int) (hfw : (Lit.int .u16 first).wf = true) (A0 : Option Addr) (c0 : Nat) (ms : List (List Int)) (hms : Msgs w A0 ms)
  (A1 : Option Addr) (c1 : Nat) (l1 : List Int) (hr1 : Kd.C (Kd.int .i64) w A1 l1.length l1) (hc1 : l1.length ≤ c1) (hw1 : ∀ x ∈ l1, (Lit.int .i64 x).wf = true) (_w : World) (hT : TP w := by assumption) :
  Calls Tryz.prog 3 #[.int .u16 first, .slice A0 ms.length c0, .slice A1 l1.length c1] w fun e w' => e = .returned (.bool true) ∧ Below w.heap.size w w' := by
 have HT := ax hT
 have HM := ax hms
 have HR1 := ax hr1
 have hf : 0 ≤ first ∧ first ≤ 65535 := by
  simp [Lit.wf, IntKind.signed, IntKind.bits, IntKind.min, IntKind.max] at hfw; omega
 have hf0 : nm first 0 = first := by unfold nm; omega
 have HF := ax (And.intro hf hf0)
 have HN := ax (show l1.length ≤ 9223372036854775807 by
  have r := Kd.reads_of_C (enc := Value.int .i64) (d := (0 : Int)) (h1 := fun _ => rfl) hr1
  have := r.2.1
  omega)
 obtain ⟨nm_, hnm⟩ : ∃ n, n = min ms.length 6 := ⟨_, rfl⟩
 have hif : (if (6 : Int) < (ms.length : Int) then (6 : Int) else (ms.length : Int)) = (nm_ : Int) := by split <;> omega
 have HNM := ax (show nm_ ≤ ms.length ∧ nm_ ≤ 6 by omega)
 obtain ⟨Ms, hMs⟩ : ∃ Ms : Nat → List Int, Ms = fun i => (ms.getD i []).take 5 := ⟨_, rfl⟩
 have HMs := ax hMs
 have hby : ∀ i, i < nm_ → byt (Ms i) ∧ (Ms i).length ≤ 5 := fun i hi => by
  obtain ⟨a, Ai, ci, _, _, _, _, hb⟩ := hms.at_ i (by omega)
  have e : Ms i = (ms[i]'(by omega)).take 5 := by rw [hMs]; simp only [List.getD_eq_getElem?_getD]; rw [List.getElem?_eq_getElem (by omega)]; rfl
  rw [e]
  exact ⟨fun y hy => hb y (List.mem_of_mem_take hy), by rw [List.length_take]; omega⟩
 have HBY := ax hby
 have HTS := ax hT.lt
 clear hT hms hr1 hc1 hw1 hfw hf hf0 hnm hMs hby
 go_enter Tryz.func3, Tryz.ntmps3
 go_wp2_with (first
  | (go_at_call 5; refine Aside0.out ?_)
  | fail)
 refine ax ?_
 have hba := below_alloc (Below.refl w.heap.size w) (.cells #[.int .i64 3, .int .i64 8, .int .i64 2] 26)
 have hbb := blk_new w (.cells #[.int .i64 3, .int .i64 8, .int .i64 2] 26)
 obtain ⟨b7, hb7⟩ : ∃ b7, b7 = w.heap.size := ⟨_, rfl⟩
 obtain ⟨w1, hw1⟩ : ∃ w1, w1 = w.alloc (.cells #[.int .i64 3, .int .i64 8, .int .i64 2] 26) := ⟨_, rfl⟩
 rw [← hw1] at hba hbb ⊢
 rw [← hb7] at hbb ⊢
 have HB1 := ax hba
 have HX1 := ax hbb
 clear hba hbb hw1 hb7
 refine (snew_calls (w := w1) first).mono ?_
 rintro e w2 ⟨sb, g, mp, rfl, hsb, hwh, hsl, hb2⟩
 have hx2 := (hb2.block b7 (blk_lt HX1.out)).trans HX1.out
 have h70 := blk_cell hx2 0
 have h71 := blk_cell hx2 1
 have h72 := blk_cell hx2 2
 have HB2 := ax (below_step HB1.out hb2)
 have HS2 := ax (show SN w2 w.heap.size sb g mp first Ms (.slice none 0 0) [] from ⟨by rw [HF.out.2]; exact hsb, Kd.R_nil _ _ _ _ _, fun i x hx => by simp at hx, List.nodup_nil, hwh.lower HB1.out.size, Nat.le_trans HB1.out.size hsl⟩)
 clear hx2 hsb hwh hsl hb2
 go_wp2_with (first
  | (go_at_call 6; refine Aside0.out ?_)
  | fail)
 refine ax ?_
 refine (rnew_calls (w := w2) first HF.out.1 nm_ HNM.out.2 Ms).mono ?_
 rintro e w3 ⟨rb, gp, mr, cm, rfl, hrd, hb3⟩
 have HS3 := ax (show SN w3 w.heap.size sb g mp first Ms (.slice none 0 0) [] from ⟨(hb3.block sb (blk_lt HS2.out.box)).trans HS2.out.box, Kd.R_nil _ _ _ _ _, fun i x hx => by simp at hx, List.nodup_nil, HS2.out.wh.below hb3, HS2.out.lo⟩)
 have HNE := ax (show mp ≠ mr ∧ mp ≠ cm from by
  have h1 := HS2.out.wh.ne.2.2.1
  have h2 := hrd.low
  omega)
 have HRD3 := ax (hrd.lower HB2.out.size)
 have HB3 := ax (below_step HB2.out hb3)
 have HST := ax (shuttletop_stands.calls true w3 stands_ok)
 clear hrd hb3 h70 h71 h72 HS2
 go_wp2_with (first
  | (go_at_call 7; refine Aside0.out ?_)
  | fail)
 refine ax ?_
 refine HST.out.mono ?_
 rintro e w4 ⟨rfl, hb⟩
 have HS4 := ax (show SN w4 w.heap.size sb g mp first Ms (.slice none 0 0) [] from ⟨(hb.block sb (blk_lt HS3.out.box)).trans HS3.out.box, Kd.R_nil _ _ _ _ _, fun i x hx => by simp at hx, List.nodup_nil, HS3.out.wh.below hb, HS3.out.lo⟩)
 have HRD4 := ax (HRD3.out.below hb)
 have HB4 := ax (below_step HB3.out hb)
 have hn6 : nm_ ≤ 6 := HNM.out.2
 clear hb HST HRD3 HS3
 go_wp2_with fail
 go_loopw [13] (fun v13 wr => ∃ (i : Nat) (v : Value) (L : List Nat), v13 = .int .i64 (i : Int) ∧ i ≤ nm_ ∧ Aside0 (L.length = i ∧ (i = 0 → v = .slice none 0 0)) ∧ Aside0 (SN wr w.heap.size sb g mp first Ms v L) ∧ Aside0 (RD wr w.heap.size rb gp mr cm first nm_ Ms 0 (fun _ => false) (.slice none 0 0) 0) ∧ Aside0 (Below w.heap.size w wr)) (fun v13 _ => nm_ - (intOf v13).toNat)
 case atStart => exact ⟨0, .slice none 0 0, [], by simp, by omega, ⟨rfl, fun _ => rfl⟩, HS4, HRD4, HB4⟩
 case round =>
  clear HS4 HRD4 HB4
  obtain ⟨i, v, L, rfl, hi, HL, HS, HRD, HB⟩ := hrel
  by_cases hlt : i < nm_
  ·have hlb : decide ((i : Int) < (nm_ : Int)) = true := decide_eq_true (by omega)
   have hi0 : (0 : Int) ≤ (i : Int) := by omega
   have hin : (i : Int) < (nm_ : Int) := by omega
   have him : (i : Int) < (ms.length : Int) := by have := HNM.out.1; omega
   have HI := ax hlt
   obtain ⟨am, Ak, ck, rfl, hcm, hmC, hmc, hmb⟩ := (HM.out.below HB.out).at_ i (by have := HNM.out.1; omega)
   obtain ⟨mk, hmk⟩ : ∃ mk, mk = ms[i]'(by have := HNM.out.1; omega) := ⟨_, rfl⟩
   rw [← hmk] at hcm hmC hmc hmb
   have HC := ax (shuttletop_cut.calls Ak ck mk 5 (mk.take 5) wr hmC hmc (cut_f mk))
   have hMsi : Ms i = mk.take 5 := by
    rw [HMs.out, hmk]; simp only [List.getD_eq_getElem?_getD]; rw [List.getElem?_eq_getElem (by have := HNM.out.1; omega)]; rfl
   have HMM := ax (show byt (mk.take 5) ∧ (mk.take 5).length ≤ 5 from by rw [← hMsi]; exact HBY.out i hlt)
   obtain ⟨M, hM⟩ : ∃ M, M = mk.take 5 := ⟨_, rfl⟩
   rw [← hM] at HC HMM hMsi
   have HMI := ax hMsi
   clear hlt hi hmC hmc hmb hmk hM hMsi
   go_wp2_with (first
    | (go_at_call 9; refine Aside0.out ?_)
    | fail)
   refine ax ?_
   refine HC.out.mono ?_
   rintro e w5 ⟨v11, rfl, hv, hb⟩
   obtain ⟨A11, c11, rfl⟩ := Kd.R_slice hv
   have HS5 := ax (show SN w5 w.heap.size sb g mp first Ms v L from ⟨(hb.block sb (blk_lt HS.out.box)).trans HS.out.box, Kd.R_below HS.out.row hb, fun j x hx => ⟨(HS.out.en j x hx).1, (HS.out.en j x hx).2.keep (fun k cs hk => by
    rcases hk with ⟨hk, _⟩ | ⟨hk, _⟩ | hk <;> exact hb.block k (blk_lt hk))⟩, HS.out.nd, HS.out.wh.below hb, HS.out.lo⟩)
   have HRD5 := ax (HRD.out.below hb)
   have HB5 := ax (below_step HB.out hb)
   have HSE := ax (ssend_calls (TP_of HT.out HB5.out) HS5.out HB5.out.size (by have := HL.out.1; have := HI.out; omega) (M := M) (by rw [HL.out.1]; exact HMI.out) (Kd.R_reads' hv).2.2 (Kd.R_reads' hv).2.1 HMM.out.1 HMM.out.2)
   obtain ⟨lm, hlm⟩ : ∃ lm, lm = M.length := ⟨_, rfl⟩
   rw [← hlm] at HSE ⊢
   clear hv hb hlm HC hcm HS HRD HB
   go_wp2_with (go_at_call 8; refine HSE.out.mono ?_; rintro e w6 ⟨rfl, v', x, hs6, hb6, hk6⟩; have H6 := ax (And.intro hs6 (And.intro hb6 hk6)); clear hs6 hb6 hk6)
   go_roundw
   case rel =>
    refine ⟨i + 1, v', L ++ [x], by simp, by have := HI.out; omega, ⟨by rw [List.length_append, HL.out.1]; rfl, fun e => by omega⟩, ⟨H6.out.1⟩, ⟨HRD5.out.keep (fun k hk => H6.out.2.2.block k ?_ (fun e => ?_))⟩, ⟨HB5.out.trans H6.out.2.1⟩⟩
    ·rcases hk with rfl | rfl | ⟨cs, T, hc, _⟩
     ·exact HRD5.out.mp_lt.1
     ·exact HRD5.out.mp_lt.2
     ·exact blk_lt hc
    ·have hbl : ∃ (cs : Array Value) (T : TypeId), w5.heap[k]? = some (Obj.cells cs T (0, 0)) ∧ (T = 82 ∨ T = 93) := by
      rcases e with e | e
      ·subst e; exact ⟨_, _, HS5.out.box, .inl rfl⟩
      ·obtain ⟨cs, hc⟩ := Kd.R_typed HS5.out.row k e
       exact ⟨cs, _, hc, .inr rfl⟩
     obtain ⟨cs, T, hc, hT⟩ := hbl
     rcases hk with e2 | e2 | ⟨cs', T', hc', hT'⟩
     ·exact (HRD5.out.ren hc).1 e2
     ·exact (HRD5.out.ren hc).2 e2
     ·rw [hc] at hc'; injection hc' with hc'; injection hc' with _ hc'; subst hc'
      revert hT'
      rcases hT with rfl | rfl <;> decide
   case measure => simp [intOf]; omega
  ·have hlb : decide ((i : Int) < (nm_ : Int)) = false := decide_eq_false (by omega)
   have hnl : ¬ (i : Int) < (nm_ : Int) := by omega
   have HLN := ax (show L.length = nm_ from by have := HL.out.1; omega)
   clear hlt
   by_cases hn0 : nm_ = 0
   ·have hi0 : i = 0 := by omega
    have hv0 := HL.out.2 hi0
    subst hv0
    subst hn0
    have HSB := ax HS.out.box
    have e0 : i = 0 := hi0
    subst e0
    clear HL HS HRD HLN hi hi0
    go_wp2_with fail
    go_loopw [16, 14] (fun v16 v14 wz => v16 = .int .i64 0 ∧ v14 = .int .i64 0 ∧ Aside0 (SNB wz sb (nm first 0) (.slice none 0 0) g 0 0) ∧ Aside0 (Below w.heap.size w wz)) (fun _ _ _ => 0)
    case atStart => exact ⟨rfl, rfl, HSB, HB⟩
    case round =>
     clear HSB HB
     obtain ⟨rfl, rfl, HSB, HB⟩ := hrel
     have HPL := ax (plus_calls first 0 0 0 rfl (by decide))
     rw [HF.out.2] at HPL
     have HBS := ax (fun w' (hb : Below wr.heap.size wr w') => sbase_calls ((hb.block sb (blk_lt HSB.out)).trans HSB.out))
     rw [HF.out.2] at HBS
     go_wp2_with (first
      | (go_at_call 10; first
       | (refine (kept0_calls ((HB6.out.block sb (blk_lt HSB.out)).trans HSB.out)).mono ?_; rintro e w7 ⟨rfl, hb⟩; have HB7 := ax (below_step HB6.out hb); clear hb)
       | (refine (kept0_calls HSB.out).mono ?_; rintro e w6 ⟨rfl, hb⟩; have HB6 := ax hb; clear hb))
      | (go_at_call 17; refine (HBS.out _ HB7.out).mono ?_; rintro e w8 ⟨rfl, hb⟩; have HB8 := ax (below_step HB7.out hb); clear hb)
      | (go_at_call 18; refine (HPL.out _).mono ?_; rintro e w9 ⟨rfl, hb⟩; have HB9 := ax (below_step HB8.out hb); clear hb)
      | fail)
     have hrs : (Tryz.f3).results = #[.tmp 6] := by kernel_rfl
     refine bodyPost_ret (results_tmp hrs _ _ _) rfl ?_
     exact ⟨by simp, below_step HB.out HB9.out⟩
   ·obtain ⟨gk, hsd0⟩ := SD.start HS.out HLN.out (by omega) hn6 HBY.out
    obtain ⟨X, hX⟩ : ∃ X : Nat → Nat, X = fun i => L.getD i 0 := ⟨_, rfl⟩
    rw [← hX] at hsd0
    have HST0 := ax (show HST wr w.heap.size sb g mp gk rb gp mr cm first nm_ Ms X 0 0 0 (fun _ => none) (fun _ => false) (fun _ => .slice none 0 0) [] (fun _ => false) (.slice none 0 0) (.slice none 0 0) [] from ⟨hsd0, HRD.out, Kd.R_nil _ _ _ _ _, HI.start first nm_ hn6, rfl⟩)
    clear HL HS HLN HRD hsd0 hX hi
    go_wp2_with fail
    go_loopw [16, 14, 15] (fun v16 v14 v15 wz => ∃ (t lo b : Nat) (Q : Nat → Option Nat) (ak : Nat → Bool) (V : Nat → Value) (ts : List (Int × Int)) (C : Nat → Bool) (out : Value) (hist : List (Int × Int)), v16 = .int .i64 (t : Int) ∧ t ≤ 200 ∧ v14 = .int .i64 (b : Int) ∧ Aside0 (HST wz w.heap.size sb g mp gk rb gp mr cm first nm_ Ms X t lo b Q ak V ts C out v15 hist) ∧ Aside0 (Below w.heap.size w wz)) (fun v16 _ _ _ => 200 - (intOf v16).toNat)
    case atStart => exact ⟨0, 0, 0, _, _, _, _, _, _, _, rfl, by omega, rfl, HST0, HB⟩
    case round =>
     clear HST0 HB
     obtain ⟨t, lo, b, Q, ak, V, ts, C, out, hist, rfl, ht, rfl, HST_, HB⟩ := hrel
     by_cases hlt : t < 200
     ·have htb : decide ((t : Int) < 200) = true := decide_eq_true (by omega)
      have hti : (t : Int) < 200 := by omega
      obtain ⟨off, cap, lv, rn, hsb, hkr, _⟩ := HST_.out.sd.box
      have hkp := kept_calls hsb
      rw [rowX_len] at hkp
      obtain ⟨m, hm⟩ : ∃ m, m = nm_ - lo := ⟨_, rfl⟩
      rw [← hm] at hkp
      have HKP := ax hkp
      have HT_ := ax hlt
      by_cases hlo : lo < nm_
      ·have hm0 : (0 : Int) < (m : Int) := by omega
       have HLO := ax hlo
       clear hkp hsb hkr hm hlt ht hlo
       go_wp2_with (first
        | (go_at_call 10; refine HKP.out.mono ?_; rintro e w5 ⟨rfl, hb⟩; have HS5 := ax (HST_.out.below hb); have HB5 := ax (below_step HB.out hb); clear hb)
        | (go_at_call 11; refine Aside0.out ?_)
        | fail)
       refine ax ?_
       refine (stick_calls HS5.out.sd ⟨by omega, by have := HT_.out; omega⟩ HB5.out.size HS5.out.hi.unack).mono ?_
       rintro e w6 ⟨vl, es, is, Q1, V1, ts1, rfl, hrow, hel, hsent, his, hsd, hmono, hkt, hprog⟩
       have hrd6 := HS5.out.rd.beside hkt HNE.out.1 HNE.out.2 HS5.out.sd.map_
       have hhis6 := R_keepM HS5.out.his (fun k hk => by
        obtain ⟨cs, hc⟩ := Kd.R_typed HS5.out.his k hk
        exact hkt.typed hc (by decide) (by have := HS5.out.sd.ren hc; simpa using this))
       obtain ⟨Al, cl, rfl⟩ := Kd.R_slice hrow
       obtain ⟨nl, hnl⟩ : ∃ nl, nl = es.length := ⟨_, rfl⟩
       rw [← hnl] at hrow ⊢
       have HB6 := ax (HB5.out.trans (hkt.below HB5.out.size (fun k hk => hk.1)))
       have HTK := ax (And.intro hsd (And.intro hrd6 (And.intro hhis6 (And.intro hsent (And.intro his (And.intro hmono hprog))))))
       have HRW := ax hrow
       have HSZ := ax (And.intro hnl (And.intro hel hkt.size))
       have hnl12 : nl ≤ 12 := by omega
       clear hsd hrd6 hhis6 hrow hel hsent his hmono hkt hprog hnl
       have HOW := ax (show (∀ k, out.ownBlock = some k → k < w5.heap.size) ∧ ∀ k, (Value.slice Al nl cl).ownBlock = some k → w5.heap.size ≤ k ∧ k < w6.heap.size from ⟨fun k hk => by
        obtain ⟨_, cs, hc⟩ := HS5.out.rd.out_.typed k hk
        exact blk_lt hc, fun k hk => ⟨Kd.R_base HRW.out k hk, by
        obtain ⟨cs, hc⟩ := Kd.R_typed HRW.out k hk
        exact blk_lt hc⟩⟩)
       go_upto_region 18 with (fail)
       go_cut [18] from 76 to 83 (fun vz wx => (∃ z : Bool, vz = .bool z ∧ (z = true → t < l1.length ∧ t < 30)) ∧ w6 = wx)
       case first =>
        by_cases ca : t < l1.length
        ·have hca : decide ((t : Int) < (l1.length : Int)) = true := decide_eq_true (by omega)
         have hca' : (t : Int) < (l1.length : Int) := by omega
         by_cases cb : t < 30
         ·have hcb : decide ((t : Int) < 30) = true := decide_eq_true (by omega)
          have hcb' : (t : Int) < 30 := by omega
          go_wp2_with fail
          go_meet
          exact ⟨⟨true, rfl, fun _ => ⟨ca, cb⟩⟩, rfl⟩
         ·have hcb : decide ((t : Int) < 30) = false := decide_eq_false (by omega)
          have hcb' : ¬ (t : Int) < 30 := by omega
          go_wp2_with fail
          go_meet
          exact ⟨⟨false, rfl, fun h => by cases h⟩, rfl⟩
        ·have hca : decide ((t : Int) < (l1.length : Int)) = false := decide_eq_false (by omega)
         have hca' : ¬ (t : Int) < (l1.length : Int) := by omega
         go_wp2_with fail
         go_meet
         exact ⟨⟨false, rfl, fun h => by cases h⟩, rfl⟩
       case rest =>
        obtain ⟨⟨z, rfl, hz⟩, rfl⟩ := hcut
        have HZ := ax hz
        clear hz
        go_upto_block 4 with (fail)
        go_cut [] from 84 to 122 (fun wx => ∃ (b2 : Nat) (C2 : Nat → Bool) (out2 : Value), Aside0 (IN wx w.heap.size rb gp mr cm first nm_ Ms b C is w5.heap.size w6.heap.size b2 C2 out2) ∧ Aside0 (z = false → ∀ j ∈ is, Rcv b2 C2 j) ∧ Aside0 (SD wx w.heap.size sb g mp gk first nm_ lo Ms X Q1 ak (fun _ => (t : Int) + 1) ((t : Int) + 1) V1 ts1 (fun _ => False)) ∧ Aside0 (Kd.R kMp 45 wx w.heap.size (fun _ => True) u15 hist) ∧ Aside0 (Below w.heap.size w wx))
        case first =>
         go_wp2_with fail
         go_loopw [19] (fun v19 wz => ∃ (i : Nat) (b2 : Nat) (C2 : Nat → Bool) (out2 : Value), v19 = .int .i64 (i : Int) ∧ i ≤ nl ∧ Aside0 (IN wz w.heap.size rb gp mr cm first nm_ Ms b C is w5.heap.size w6.heap.size b2 C2 out2) ∧ Aside0 (z = false → ∀ k j, k < i → is[k]? = some j → Rcv b2 C2 j) ∧ Aside0 (SD wz w.heap.size sb g mp gk first nm_ lo Ms X Q1 ak (fun _ => (t : Int) + 1) ((t : Int) + 1) V1 ts1 (fun _ => False)) ∧ Aside0 (Kd.R kMp 45 wz w.heap.size (fun _ => True) u15 hist) ∧ Aside0 (SENT wz first Ms es is) ∧ Aside0 (Kd.R kSl 37 wz w5.heap.size (fun _ => True) (.slice Al nl cl) es) ∧ Aside0 (Below w.heap.size w wz)) (fun v19 _ => nl - (intOf v19).toNat)
         case atStart => exact ⟨0, b, C, out, rfl, by omega, ⟨HTK.out.2.1, Nat.le_refl _, HS5.out.hi.cb, fun _ h => h, fun _ h => .inl h, fun k hk => .inl (HOW.out.1 k hk), Nat.le_refl _⟩, ⟨fun _ k j hk => by omega⟩, ⟨HTK.out.1⟩, ⟨HTK.out.2.2.1⟩, ⟨HTK.out.2.2.2.1⟩, HRW, HB6⟩
         case round =>
          obtain ⟨i2, b2, C2, out2, rfl, hi2, HIN, HNL, HSD, HHI, HSE, HRL, HBB⟩ := hrel
          by_cases hl2 : i2 < nl
          ·have hlb2 : decide ((i2 : Int) < (nl : Int)) = true := decide_eq_true (by omega)
           have hi20 : (0 : Int) ≤ (i2 : Int) := by omega
           have hi2n : (i2 : Int) < (nl : Int) := by omega
           have HI2 := ax hl2
           have hwn : IntKind.u64.wrap (nl : Int) = (nl : Int) := u64_small nl (by omega)
           have hnz : ¬ (nl : Int) = 0 := by omega
           clear hl2
           go_upto_if 91 with (fail)
           go_cut [20] from 92 to 109 (fun vk wx => (∃ k : Nat, vk = .int .i64 (k : Int) ∧ k < nl ∧ (z = false → k = i2)) ∧ wr = wx)
           case first =>
            cases z with
            | false =>
             go_wp2_with fail
             go_meet
             exact ⟨⟨i2, rfl, HI2.out, fun _ => rfl⟩, rfl⟩
            | true =>
             obtain ⟨ht1, ht2⟩ := HZ.out rfl
             have ht0 : (0 : Int) ≤ (t : Int) := by omega
             have htl : (t : Int) < (l1.length : Int) := by omega
             obtain ⟨ad1, hA1, hcx0⟩ := ReadsOf.at_ (Kd.reads_of_C (enc := Value.int .i64) (d := (0 : Int)) (h1 := fun _ => rfl) (Kd.C_below HR1.out HBB.out)) (t : Int) ht0 htl
             subst hA1
             rw [Int.toNat_natCast] at hcx0
             obtain ⟨x0, hx0⟩ : ∃ x0, x0 = rdOf 0 l1 (t : Int) := ⟨_, rfl⟩
             rw [← hx0] at hcx0
             obtain ⟨k, hk, hkn⟩ := key_of (wrap64 (x0 + (i2 : Int))) nl (by omega) (by omega)
             clear ht1 ht2 hx0
             by_cases h3 : x0.tmod 3 = 0
             ·go_wp2_with fail
              exact ⟨⟨i2 + 1, b2, C2, out2, by simp, by have := HI2.out; omega, HIN, ⟨fun h => by cases h⟩, HSD, HHI, HSE, HRL, HBB⟩, by have := HI2.out; simp [intOf]; omega⟩
             ·go_wp2_with fail
              go_meet
              exact ⟨⟨k, rfl, hkn, fun h => by cases h⟩, rfl⟩
           case rest =>
            obtain ⟨⟨k, rfl, hkl, hkz⟩, rfl⟩ := hcut
            have hk0 : (0 : Int) ≤ (k : Int) := by omega
            have hkn : (k : Int) < (nl : Int) := by omega
            have hke : k < es.length := by have := HSZ.out.1; omega
            have hki : k < is.length := by rw [HSE.out.len]; exact hke
            obtain ⟨adl, rfl, hcx0⟩ := ReadsOf.at_ (Kd.reads_of_C (enc := encS) (d := ((0, 0, 0) : Nat × Nat × Nat)) (h1 := fun _ => rfl) (Kd.R_reads' HRL.out).2.2) (k : Int) hk0 (by omega)
            rw [Int.toNat_natCast] at hcx0
            obtain ⟨e0, he0⟩ : ∃ e0, e0 = es[k] := ⟨_, rfl⟩
            obtain ⟨j, hj⟩ : ∃ j, j = is[k] := ⟨_, rfl⟩
            have hcx : wr.cell? (adl.add k) = some (encS e0) := by
             have e : rdOf (0, 0, 0) es (k : Int) = e0 := by rw [he0]; simp [rdOf, hke]
             rw [e] at hcx0; exact hcx0
            obtain ⟨fl, fx, fv, hprt, hdf⟩ := HSE.out.frm k e0 j (by rw [he0]; exact List.getElem?_eq_getElem hke) (by rw [hj]; exact List.getElem?_eq_getElem hki)
            obtain ⟨Af, cf, hev, hfC, hfc, _⟩ := hprt
            have hjm : j ∈ is := by rw [hj]; exact List.getElem_mem hki
            have HJ := ax (show j ∈ is ∧ is[k]? = some j ∧ (z = false → k = i2) ∧ fv < 4 from ⟨hjm, by rw [hj]; exact List.getElem?_eq_getElem hki, hkz, hdf.v4⟩)
            have hrd := readd_calls hfC hfc hdf
            rw [← hev] at hrd
            obtain ⟨ln, hln⟩ : ∃ ln, ln = (Ms j).length := ⟨_, rfl⟩
            obtain ⟨mb, hmb⟩ : ∃ mb, mb = nb ln := ⟨_, rfl⟩
            obtain ⟨q, hq⟩ : ∃ q, q = nm first j := ⟨_, rfl⟩
            rw [← hln, ← hmb, ← hq] at hrd
            have HRD := ax hrd
            have HV := ax (And.intro hln (And.intro hmb (And.intro hq hdf.len)))
            clear hkl hkz hcx0 he0 hj hke hki hdf hev hfC hfc hjm hrd hln hmb hq
            go_wp2_with (first
             | (go_at_call 12; refine Aside0.out ?_)
             | fail)
            refine ax ?_
            refine HRD.out.mono ?_
            rintro e w8 ⟨A8, rfl, hpc, hbd, hb⟩
            have HIN8 := ax (HIN.out.below hb)
            have HSD8 := ax (HSD.out.below hb)
            have HHI8 := ax (Kd.R_below HHI.out hb)
            have HSE8 := ax (HSE.out.same (fun k cs hk => hb.block k (blk_lt hk)))
            have HRL8 := ax (Kd.R_below HRL.out hb)
            have HBB8 := ax (below_step HBB.out hb)
            have HPC8 := ax hpc
            have HBD8 := ax (show ∀ d, A8 = some d → d.block < w8.heap.size ∧ d.block ≠ mr from fun d hd => ⟨(hbd d hd).2, by have := (hbd d hd).1; have := HIN.out.rd.mp_lt.1; omega⟩)
            clear hpc hbd hb HRD HIN HSD HHI HSE HRL HBB hcx
            go_wp2_with (first
             | (refine wpList_store_row rfl 47 (.tmp 21) (.tmp 116) rfl w8.heap.size (fr 1 q fv ln (.slice A8 mb mb)) rfl rfl 47 _ (blk_new w8 _) fr_size rfl (fr_one 1 q fv ln A8 mb mb) ?_; refine Aside0.out ?_)
             | fail)
            refine ax ?_
            have hba := below_alloc (Below.refl w8.heap.size w8) (.cells (f0 0 0 0 0) 47)
            have hbb := setRow_heap (w8.alloc (.cells (f0 0 0 0 0) 47)) w8.heap.size _ (fr 1 q fv ln (.slice A8 mb mb)) _ _ (blk_new w8 (.cells (f0 0 0 0 0) 47))
            have hbs := below_setRow hba (Nat.le_refl _) (fr 1 q fv ln (.slice A8 mb mb))
            obtain ⟨b21, hb21⟩ : ∃ b21, b21 = w8.heap.size := ⟨_, rfl⟩
            obtain ⟨w9, hw9⟩ : ∃ w9, w9 = (w8.alloc (.cells (f0 0 0 0 0) 47)).setRow w8.heap.size (fr 1 q fv ln (.slice A8 mb mb)) := ⟨_, rfl⟩
            rw [← hw9] at hbs hbb
            show wpList _ _ _ _ _ ((w8.alloc (.cells (f0 0 0 0 0) 47)).setRow w8.heap.size (fr 1 q fv ln (.slice A8 mb mb)))
            rw [← hw9]
            rw [← hb21] at hbb ⊢
            have HIN9 := ax (HIN8.out.below hbs)
            have HSD9 := ax (HSD8.out.below hbs)
            have HHI9 := ax (Kd.R_below HHI8.out hbs)
            have HSE9 := ax (HSE8.out.same (fun k cs hk => hbs.block k (blk_lt hk)))
            have HRL9 := ax (Kd.R_below HRL8.out hbs)
            have HBB9 := ax (below_step HBB8.out hbs)
            have HX9 := ax hbb
            have hjr := HTK.out.2.2.2.2.1 j HJ.out.1
            have hda := rdata_calls (w := w9) (TP_of HT.out HBB9.out) HTS.out HIN9.out.rd HIN9.out.cb (i := j) (fun i hi => HBY.out i hi) hjr.2.1 (by have h1 := HIN9.out.le; have h2 := HS5.out.hi.lob; omega) (v := fv) HJ.out.2.2.2 (A := A8) (P := vp (code (bitsM (Ms j))) fv mb) (by rw [HV.out.2.1, HV.out.1]) (Kd.C_below HPC8.out hbs) (fun d hd => ⟨by have := (HBD8.out d hd).1; have := hbs.size; omega, (HBD8.out d hd).2⟩)
            rw [← HV.out.1, ← HV.out.2.1, ← HV.out.2.2.1] at hda
            have HDA := ax hda
            have hu := Tryz.underlying47
            clear hba hbb hbs hb21 hw9 HIN8 HSD8 HHI8 HSE8 HRL8 HBB8 HPC8 HBD8 hjr hda
            go_wp2_with (first
             | (refine wpList_load_row rfl 47 (.tmp 21) rfl b21 rfl 47 (fr 1 q fv ln (.slice A8 mb mb)) (0, 0) _ HX9.out hu rfl fr_size ?_)
             | (go_at_call 13; refine Aside0.out ?_)
             | fail)
            refine ax ?_
            refine HDA.out.mono ?_
            rintro e w10 ⟨r10, rfl, b3, C3, out3, h1, h2, h3, h4, h5, h6⟩
            have HDN := ax (HIN9.out.data HJ.out.1 h1 h2 h3 h4 h6 h5.size)
            have hin9 := HIN9.out
            have h55 : Same5 w9 w10 := Same5.of_keep h5 (fun k cs hk hc => by
             rcases hk with e | e | e | e
             ·exact (hin9.rd.ren hc).1 e
             ·subst e
              have hb := hin9.rd.box
              exact two_types hc hb (by decide)
             ·exact (hin9.rd.ren hc).2 e
             ·obtain ⟨_, cs', hc'⟩ := hin9.rd.out_.typed k e
              exact two_types hc hc' (by decide))
            have HSD10 := ax (HSD9.out.beside hin9.rd HNE.out.1 HNE.out.2 (fun k hk => by
             rcases hk with e | e | e | e
             ·exact .inl e
             ·exact .inr (.inr (.inl e))
             ·exact .inr (.inl e)
             ·exact .inr (.inr (.inr e))) h5)
            have HHI10 := ax (R_keepM HHI9.out (fun k hk => by
             obtain ⟨cs, hc⟩ := Kd.R_typed HHI9.out k hk
             exact h5.block k (blk_lt hc) (fun e => by
              rcases e with e | e | e | e
              ·exact (hin9.rd.ren hc).1 e
              ·subst e; exact two_types hc hin9.rd.box (by decide)
              ·exact (hin9.rd.ren hc).2 e
              ·obtain ⟨_, cs', hc'⟩ := hin9.rd.out_.typed k e
               exact two_types hc hc' (by decide))))
            have HRL10 := ax (R_keepS HRL9.out (fun k hk => by
             obtain ⟨cs, hc⟩ := Kd.R_typed HRL9.out k hk
             exact h5.block k (blk_lt hc) (fun e => by
              rcases e with e | e | e | e
              ·exact (hin9.rd.ren hc).1 e
              ·subst e; exact two_types hc hin9.rd.box (by decide)
              ·exact (hin9.rd.ren hc).2 e
              ·have g1 := hin9.own k e
               have g2 := HOW.out.2 k hk
               omega)))
            have HSE10 := ax (HSE9.out.same h55)
            have HBB10 := ax (HBB9.out.trans (h5.below HBB9.out.size (fun k hk => by
             have hl := hin9.rd.low
             rcases hk with e | e | e | e
             ·subst e; exact hl.2.2.1
             ·subst e; exact hl.1
             ·subst e; exact hl.2.2.2
             ·exact (hin9.rd.out_.typed k e).1)))
            clear h1 h2 h3 h4 h5 h6 hin9 h55 HDA HIN9 HSD9 HHI9 HRL9 HSE9 HBB9
            go_wp2_with fail
            refine ⟨⟨i2 + 1, b3, C3, out3, by simp, by have := HI2.out; omega, ⟨HDN.out.1⟩, ⟨fun hz k' j' hk' hj' => ?_⟩, HSD10, HHI10, HSE10, HRL10, HBB10⟩, by have := HI2.out; simp [intOf]; omega⟩
            by_cases c : k' < i2
            ·exact HDN.out.2.2 j' (HNL.out hz k' j' c hj')
            ·have e1 : k' = i2 := by omega
             have e2 := HJ.out.2.2.1 hz
             rw [e1, ← e2, HJ.out.2.1] at hj'
             injection hj' with hj'
             rw [← hj']; exact HDN.out.2.1
          ·have hlb2 : decide ((i2 : Int) < (nl : Int)) = false := decide_eq_false (by omega)
           have hnl2 : ¬ (i2 : Int) < (nl : Int) := by omega
           go_wp2_with fail
           go_meet
           refine ⟨b2, C2, out2, HIN, ⟨fun hz j hj => ?_⟩, HSD, HHI, HBB⟩
           obtain ⟨k, hk, e⟩ := List.mem_iff_getElem.1 hj
           exact HNL.out hz k j (by have h1 := HSE.out.len; have h2 := HSZ.out.1; omega) (by rw [List.getElem?_eq_getElem hk, e])
        case rest =>
         obtain ⟨b2, C2, out2, HIN, HNL, HSD, HHI, HBB⟩ := hcut
         have HMP := ax (rmap_calls HIN.out.rd HIN.out.cb)
         obtain ⟨q2, hq2⟩ : ∃ q2, q2 = nm first b2 := ⟨_, rfl⟩
         rw [← hq2] at HMP
         have HQ2 := ax hq2
         have HLN := ax (show (hist.length + 1) * 8 ≤ 140737488355328 from by have h1 := HS5.out.len; have h2 := HT_.out; omega)
         clear hq2
         go_wp2_with (first
          | (go_at_call 14; refine Aside0.out ?_)
          | fail)
         refine ax ?_
         refine HMP.out.mono ?_
         rintro e w11 ⟨ms2, rfl, hm1, hm2, hb⟩
         have HIN11 := ax (HIN.out.below hb)
         have HSD11 := ax (HSD.out.below hb)
         have HHI11 := ax (Kd.R_below HHI.out hb)
         have HBB11 := ax (below_step HBB.out hb)
         obtain ⟨or2, hor2⟩ : ∃ or2 : Int, or2 = ((ors ms2 : Nat) : Int) := ⟨_, rfl⟩
         rw [← hor2]
         have HMS := ax (And.intro hor2 (And.intro hm1 hm2))
         clear hor2 hm1 hm2 hb HIN HSD HHI HBB HMP
         go_wp2_with ((with_reducible refine gate_builtin (b := .append) (xs := #[.tmp 123, .tmp 126]) rfl ?_); at_builtin; refine Kd.R_append kMp (w0 := w11) w.heap.size rfl (.tmp 123) (.tmp 126) 39 45 (.agg #[.int .u16 0, .int .u32 0]) 8 rfl Tryz.underlying39 mp_info rfl (by decide) (by decide) u15 hist (q2, or2) (mpC (q2, or2)) (fun _ => True) (fun _ => False) rfl (by first | rfl | (go_simp; done) | (go_simp; rfl)) (kMp_M w11 _ _ (q2, or2)) (fun _ hk => hk.elim) (fun _ _ => trivial) HHI11.out (Below.refl _ _) HBB11.out.size HLN.out ?_; intro v15 w12 ho hbl hg hat; refine Aside0.out ?_)
         refine ax ?_
         have hty : ∀ (k : Nat) (cs : Array Value) (T : TypeId), w11.heap[k]? = some (.cells cs T (0, 0)) → T ≠ 45 → w12.heap[k]? = w11.heap[k]? := fun k cs T hk hT => hg.block k (blk_lt hk) (fun e => by
          obtain ⟨cs', hc'⟩ := Kd.R_typed HHI11.out k e.symm
          exact two_types hk hc' hT)
         have hmap : ∀ k : Nat, (∃ (es : Array MapEntry) (cl : Nat), w11.heap[k]? = some (Obj.map es cl)) → w12.heap[k]? = w11.heap[k]? := fun k ⟨es', cl', hm⟩ => hg.block k (blk_lt hm) (fun e => by
          obtain ⟨cs', hc'⟩ := Kd.R_typed HHI11.out k e.symm
          rw [hc'] at hm; cases hm)
         have hrd12 := HIN11.out.rd.keep (w' := w12) (fun k hk => by
          rcases hk with e | e | ⟨cs, T, hc, hT⟩
          ·subst e; exact hmap k (own_lt HIN11.out.rd.po.own)
          ·subst e
           obtain ⟨D, hD⟩ := HIN11.out.rd.own
           exact hmap k (ownC_map hD.own)
          ·exact hty k cs T hc (fun e => by subst e; revert hT; decide))
         have HIN12 := ax (show IN w12 w.heap.size rb gp mr cm first nm_ Ms b C is w5.heap.size w6.heap.size b2 C2 out2 from ⟨hrd12, HIN11.out.le, HIN11.out.cb, HIN11.out.mono, HIN11.out.from_, HIN11.out.own, Nat.le_trans HIN11.out.size hg.size⟩)
         have HSD12 := ax (HSD11.out.keep (w' := w12) (fun k hk => by
          rcases hk with e | ⟨cs, T, hc, hT⟩
          ·subst e; exact hmap k HSD11.out.map_
          ·exact hty k cs T hc (fun e => by subst e; revert hT; decide)))
         have HBB12 := ax (HBB11.out.trans hbl)
         obtain ⟨b15, c15, e15⟩ := mp_blk ho (by simp)
         subst e15
         have hat := fun i hi => mp_at ho i hi
         have HHI12 := ax ho
         obtain ⟨th, hth⟩ : ∃ th, th = hist.length := ⟨_, rfl⟩
         have hlen : (hist ++ [(q2, or2)]).length = th + 1 := by rw [List.length_append, hth]; rfl
         have hl0 := hat th (by rw [hlen]; omega)
         have hge : (hist ++ [(q2, or2)])[th]'(by rw [hlen]; omega) = (q2, or2) := by
          rw [List.getElem_append_right (by omega)]; simp [hth]
         rw [hge] at hl0
         have hl1 := hl0.2
         have hl2 := hl0.1
         rw [hlen]
         have HTH := ax (And.intro hth hlen)
         have hth2 : th < 200 := by have h1 := HS5.out.len; have h2 := HT_.out; omega
         clear hty hmap hrd12 ho hbl hg hat hth hlen hl0 hge HIN11 HSD11 HHI11 HBB11
         go_upto_if 134 with (fail)
         have hba := below_alloc (Below.refl w12.heap.size w12) (.cells #[.int .u16 q2, .int .u32 or2] 45)
         have hbb := blk_new w12 (.cells #[.int .u16 q2, .int .u32 or2] 45)
         obtain ⟨b23, hb23⟩ : ∃ b23, b23 = w12.heap.size := ⟨_, rfl⟩
         obtain ⟨w13, hw13⟩ : ∃ w13, w13 = w12.alloc (.cells #[.int .u16 q2, .int .u32 or2] 45) := ⟨_, rfl⟩
         rw [← hw13] at hba hbb ⊢
         rw [← hb23] at hbb ⊢
         have HBA := ax hba
         have HX13 := ax hbb
         have HBN := ax hb23
         clear hba hbb hb23 hw13 hl1 hl2
         go_cut [] from 135 to 147 (fun wx => (∃ x, x ∈ hist ++ [(q2, or2)] ∧ wx.heap[b23]? = some (.cells #[.int .u16 x.1, .int .u32 x.2] 45 (0, 0)) ∧ (z = false → x = (q2, or2))) ∧ Aside0 (Put1 b23 w13 wx))
         case first =>
          cases z with
          | false =>
           go_wp2_with fail
           go_meet
           exact ⟨⟨(q2, or2), by simp, HX13.out, fun _ => rfl⟩, ⟨Put1.refl _ _⟩⟩
          | true =>
           obtain ⟨ht1, ht2⟩ := HZ.out rfl
           have ht0 : (0 : Int) ≤ (t : Int) := by omega
           have htl : (t : Int) < (l1.length : Int) := by omega
           obtain ⟨ad1, hA1, hcx0⟩ := ReadsOf.at_ (Kd.reads_of_C (enc := Value.int .i64) (d := (0 : Int)) (h1 := fun _ => rfl) (Kd.C_below HR1.out (below_step HBB12.out HBA.out))) (t : Int) ht0 htl
           subst hA1
           rw [Int.toNat_natCast] at hcx0
           obtain ⟨x0, hx0⟩ : ∃ x0, x0 = rdOf 0 l1 (t : Int) := ⟨_, rfl⟩
           rw [← hx0] at hcx0
           obtain ⟨k, hk, hkn⟩ := key_of x0 (th + 1) (by omega) (by omega)
           rw [show ((th + 1 : Nat) : Int) = (th : Int) + 1 from by omega] at hk
           have hwn2 := u64_small (th + 1) (by omega)
           rw [show ((th + 1 : Nat) : Int) = (th : Int) + 1 from by omega] at hwn2
           have hnz2 : ¬ (th : Int) + 1 = 0 := by omega
           have hk0 : (0 : Int) ≤ (k : Int) := by omega
           have hkt : (k : Int) < (th : Int) + 1 := by omega
           have hkl : k < (hist ++ [(q2, or2)]).length := by rw [HTH.out.2]; omega
           have hat := mp_at (Kd.R_below HHI12.out HBA.out) k hkl
           obtain ⟨x, hx⟩ : ∃ x, x = (hist ++ [(q2, or2)])[k] := ⟨_, rfl⟩
           rw [← hx] at hat
           have HXM := ax (show x ∈ hist ++ [(q2, or2)] from by rw [hx]; exact List.getElem_mem _)
           have ha1 := hat.1
           have ha2 := hat.2
           have hy0 := blk_cell HX13.out 0
           have hy1 := blk_cell HX13.out 1
           have hf0 := blk_frozen HX13.out 0
           have hf1 := blk_frozen HX13.out 1
           clear ht1 ht2 hx0 hx hat hkl hkn
           go_wp2_with fail
           go_meet
           exact ⟨⟨x, HXM.out, blk_put (blk_put HX13.out 0 _ rfl) 1 _ rfl, fun h => by cases h⟩, ⟨(Put1.set b23 0 w13 _).trans (Put1.set b23 1 _ _)⟩⟩
         case rest =>
          obtain ⟨⟨x, hxm, hxb, hxz⟩, HPT⟩ := hcut
          have hb14 : Below w12.heap.size w12 wc := HBA.out.trans (HPT.out.below (by rw [HBN.out]; exact Nat.le_refl _))
          have HIN14 := ax (HIN12.out.below hb14)
          have HSD14 := ax (HSD12.out.below hb14)
          have HHI14 := ax (Kd.R_below HHI12.out hb14)
          have HBB14 := ax (below_step HBB12.out hb14)
          have hin := HIN14.out
          have hms2 := HMS.out
          have hle2 := hin.rd.le
          have hfx : ∃ (bm : Nat) (msx : List Nat), x = (nm first bm, ((ors msx : Nat) : Int)) ∧ bm ≤ b2 ∧ (∀ k ∈ msx, 1 ≤ k ∧ k ≤ 32 ∧ bm + k < nm_) ∧ (∀ i, HasM bm msx i → Rcv b2 C2 i) ∧ (z = false → bm = b2 ∧ msx = ms2) := by
           have hnew : x = (q2, or2) → ∃ (bm : Nat) (msx : List Nat), x = (nm first bm, ((ors msx : Nat) : Int)) ∧ bm ≤ b2 ∧ (∀ k ∈ msx, 1 ≤ k ∧ k ≤ 32 ∧ bm + k < nm_) ∧ (∀ i, HasM bm msx i → Rcv b2 C2 i) ∧ (z = false → bm = b2 ∧ msx = ms2) := fun e => by
            refine ⟨b2, ms2, by rw [e, HQ2.out, hms2.1], Nat.le_refl _, fun k hk => ⟨(hms2.2.2 k hk).1, (hms2.2.2 k hk).2, (hin.rd.ran _ ((hms2.2.1 k).1 hk).2).2⟩, fun i hi => ?_, fun _ => ⟨rfl, rfl⟩⟩
            rcases hi with hi | ⟨hi, hi2⟩
            ·exact .inl hi
            ·have := ((hms2.2.1 _).1 hi2).2
             rw [show b2 + (i - b2) = i by omega] at this
             exact .inr this
           cases hzz : z with
           | false => exact hzz ▸ hnew (hxz hzz)
           | true =>
            rcases List.mem_append.1 hxm with hx | hx
            ·obtain ⟨bm, msx, e, h1, h2, h3⟩ := HS5.out.hi.old x hx
             exact ⟨bm, msx, e, by have := hin.le; omega, h2, fun i hi => hin.mono i (h3 i hi), fun h => by cases h⟩
            ·exact hzz ▸ hnew (List.mem_singleton.1 hx)
          obtain ⟨bm, msx, hxe, hbm, hmx, hrc, hzx⟩ := hfx
          have HMX := ax (And.intro hbm (And.intro hmx (And.intro hrc hzx)))
          obtain ⟨x1, hx1⟩ : ∃ x1, x1 = nm first bm := ⟨_, rfl⟩
          obtain ⟨x2, hx2⟩ : ∃ x2 : Int, x2 = ((ors msx : Nat) : Int) := ⟨_, rfl⟩
          have hac := sacked_calls HSD14.out (by have := HT_.out; omega) (b := bm) (by omega) msx hmx (fun i h1 h2 h3 => by
           rcases hin.from_ i (hrc i h3) with h4 | h4
           ·exact HTK.out.2.2.2.2.2.1 i (HS5.out.hi.tried i h1 h2 h4)
           ·exact (HTK.out.2.2.2.2.1 i h4).2.2.2) HBB14.out.size
          rw [← hx1, ← hx2] at hac
          have HAC := ax hac
          have hc0 : wc.cell? ⟨b23, 0, none⟩ = some (.int .u16 x1) := by rw [hx1]; rw [hxe] at hxb; exact blk_cell hxb 0
          have hc1 : wc.cell? ⟨b23, 1, none⟩ = some (.int .u32 x2) := by rw [hx2]; rw [hxe] at hxb; exact blk_cell hxb 1
          clear hxm hxb hxz HPT hb14 hin hms2 hle2 hxe hbm hmx hrc hzx hx1 hx2 hac HIN12 HSD12 HHI12 HBB12
          go_wp2_with (first
           | (go_at_call 15; refine Aside0.out ?_)
           | fail)
          refine ax ?_
          refine HAC.out.mono ?_
          rintro e w15 ⟨rfl, lo2, ak2, V2, ts2, g1, g2, g3, g4, g5, g6, g7⟩
          have HIN15 := ax (HIN14.out.rd.beside g7 HNE.out.1 HNE.out.2 HSD14.out.map_)
          have HHI15 := ax (R_keepM HHI14.out (fun k hk => by
           obtain ⟨cs, hc⟩ := Kd.R_typed HHI14.out k hk
           exact g7.typed hc (by decide) (by have := HSD14.out.ren hc; simpa using this)))
          have HBB15 := ax (HBB14.out.trans (g7.below HBB14.out.size (fun k hk => hk.1)))
          have HSD15 := ax g2
          have hbase := HIN14.out
          have HNX := ax (show HI first nm_ (t + 1) lo2 b2 Q1 ak2 C2 ts2 (hist ++ [(nm first b2, ((ors ms2 : Nat) : Int))]) from
           HI.next hn6 HS5.out.hi (ts := ts) (ts' := ts1) (is := is) (bm0 := bm) (ms0 := msx) HS5.out.sd.wh.nd
            (fun p hp => by obtain ⟨_, _, _, _, _, _, _, h, _⟩ := HS5.out.sd.tim p hp; exact h)
            (fun tt hl ht => by
             obtain ⟨i', h1, h2, h3, h4, h5, h6, _⟩ := HS5.out.sd.tim _ ht
             have := nm_inj (by omega) (by omega) (show nm first lo = nm first i' from h4)
             rw [this]; exact h6)
            HTK.out.2.2.2.2.2.1 (fun i hi => (HTK.out.2.2.2.2.1 i hi).2.2.2) HTK.out.2.2.2.2.2.2
            (fun p hp => by obtain ⟨_, _, _, _, _, _, _, h, _⟩ := HTK.out.1.tim p hp; exact h)
            hbase.le hbase.cb hbase.mono hbase.from_ hbase.rd.ran HMS.out.2.1 HMS.out.2.2 HMX.out.2.2.1 g1 g2.le.1 g3 g4 g5 (fun i tt h1 h2 h3 => g6 i tt h1 h2 h3)
            (fun p hp => by obtain ⟨_, _, _, _, _, _, _, _, h⟩ := g2.tim p hp; omega)
            (fun hl hq => by
             rcases g2.has lo2 (Nat.le_refl _) hl (g5 hl) hq with h | h
             ·exact h.elim
             ·exact h)
            (by
             cases hzz : z with
             | true => exact .inl (HZ.out hzz).2
             | false => exact .inr ⟨HNL.out hzz, (HMX.out.2.2.2 hzz).1, (HMX.out.2.2.2 hzz).2⟩))
          rw [← HQ2.out, ← HMS.out.1] at HNX
          clear g1 g2 g3 g4 g5 g6 g7 hbase HAC HIN14 HHI14 HSD14 HBB14 hc0 hc1
          go_wp2_with fail
          go_loopw [14] (fun v14 wz => ∃ (got : Nat) (out3 : Value), v14 = .int .i64 (got : Int) ∧ Aside0 (RD wz w.heap.size rb gp mr cm first nm_ Ms b2 C2 out3 got) ∧ Aside0 (SD wz w.heap.size sb g mp gk first nm_ lo2 Ms X Q1 ak2 (fun _ => (t : Int) + 1) ((t : Int) + 1) V2 ts2 (fun _ => False)) ∧ Aside0 (Kd.R kMp 45 wz w.heap.size (fun _ => True) (.slice (some ⟨b15, 0, none⟩) (th + 1) c15) (hist ++ [(q2, or2)])) ∧ Aside0 (Below w.heap.size w wz)) (fun _ wz => outOf wz rb)
          case atStart => exact ⟨b, out2, rfl, HIN15, HSD15, ⟨by rw [← HTH.out.2]; exact HHI15.out⟩, HBB15⟩
          case round =>
           clear HIN15 HSD15 HHI15 HBB15
           obtain ⟨got, out3, rfl, HRD, HSD, HHI, HBB⟩ := hrel
           have hle3 := HRD.out.le
           by_cases hgb : got < b2
           ·have HPO := ax (rpoll_some HRD.out hgb)
            have hgn : ¬ (got : Int) ≥ (nm_ : Int) := by omega
            have hgn2 : (got : Int) < (nm_ : Int) := by omega
            have hgd : decide ((nm_ : Int) ≤ (got : Int)) = false := decide_eq_false (by omega)
            have hgd2 : decide (nm_ ≤ got) = false := decide_eq_false (by omega)
            have hgn3 : ¬ nm_ ≤ got := by omega
            have hg0 : (0 : Int) ≤ (got : Int) := by omega
            have hgm : (got : Int) < (ms.length : Int) := by have := HNM.out.1; omega
            have HG := ax (show got < b2 ∧ got < nm_ ∧ got < ms.length from ⟨hgb, by omega, by have := HNM.out.1; omega⟩)
            clear hle3 hgb
            go_wp2_with (first
             | (go_at_call 16; refine Aside0.out ?_)
             | fail)
            refine ax ?_
            refine HPO.out.mono ?_
            rintro e w16 ⟨vb, out4, rfl, hpr, hrd, hown, hkp16⟩
            obtain ⟨Ab, cb, hvb, hbC, hbc, hbt⟩ := hpr
            have HPR := ax (show PRT w16 vb (Ms got) from ⟨Ab, cb, hvb, hbC, hbc, hbt⟩)
            obtain ⟨lb, hlb_⟩ : ∃ lb, lb = (Ms got).length := ⟨_, rfl⟩
            rw [← hlb_] at hvb
            subst hvb
            have HRD16 := ax hrd
            have HLB := ax hlb_
            have HSD16 := ax (HSD.out.beside HRD.out HNE.out.1 HNE.out.2 (F := fun k => k = rb) (fun k hk => .inr (.inr (.inl hk))) hkp16)
            have HHI16 := ax (R_keepM HHI.out (fun k hk => by
             obtain ⟨cs, hc⟩ := Kd.R_typed HHI.out k hk
             exact hkp16.block k (blk_lt hc) (fun e => by
              have e : k = rb := e
              subst e; exact two_types hc HRD.out.box (by decide))))
            have HBB16 := ax (HBB.out.trans (hkp16.below HBB.out.size (fun k hk => by
             have hk : k = rb := hk
             subst hk; exact HRD.out.low.1)))
            have HOL := ax (outOf_eq HRD.out)
            obtain ⟨am, Ak, ck, hA0, hcm0, hmC, hmc, hmb⟩ := (HM.out.below HBB16.out).at_ got HG.out.2.2
            subst hA0
            obtain ⟨mk, hmk⟩ : ∃ mk, mk = ms[got]'HG.out.2.2 := ⟨_, rfl⟩
            rw [← hmk] at hcm0 hmC hmc hmb
            have hMsg : Ms got = mk.take 5 := by
             rw [HMs.out, hmk]; simp only [List.getD_eq_getElem?_getD]; rw [List.getElem?_eq_getElem HG.out.2.2]; rfl
            obtain ⟨lk, hlk⟩ : ∃ lk, lk = mk.length := ⟨_, rfl⟩
            have HC := ax (show ∀ w', Below w16.heap.size w16 w' → Calls Tryz.prog 9 #[.slice Ak lk ck, .int .i64 5] w' fun e w'' => ∃ v, e = .returned v ∧ PRT w'' v (Ms got) ∧ Below w'.heap.size w' w'' from fun w' hb => by
             rw [hlk]
             refine (shuttletop_cut.calls Ak ck mk 5 (mk.take 5) w' (Kd.C_below hmC hb) hmc (cut_f mk)).mono ?_
             rintro e w'' ⟨v, rfl, hv, hb2⟩
             exact ⟨v, rfl, by rw [hMsg]; exact PRT.of_R hv, hb2⟩)
            have HSN := ax (show ∀ w', Below w16.heap.size w16 w' → PRT w' (.slice Ab lb cb) (Ms got) ∧ w'.cell? (am.add got) = some (.slice Ak lk ck) from fun w' hb => ⟨HPR.out.below hb, by rw [hlk]; exact (hb.cell (World.block_lt_of_cell? w16 _ hcm0)).trans hcm0⟩)
            have HB := ax (below_drew1 (Below.refl w16.heap.size w16))
            clear hbC hbc hbt hrd hlb_ hown hkp16 hcm0 hmC hmc hmb hmk hMsg hlk HRD HSD HHI HBB HPO
            go_wp2_with fail
            refine start_ (n := 14) (S := (fun w' => PRT w' (.slice Ab lb cb) (Ms got) ∧ w'.cell? (am.add got) = some (.slice Ak lk ck))) (ds := []) #[false, false, false, false, false, false, false, false, false, false, false, false, false, false] kr rfl rfl (HSN.out _ HB.out) (fun hHeld => ?_)
            refine with_tabW hands38.tab hands38.bits (fun HT_ HW_ => ?_)
            refine pu_ 0 159 HT_ ?_; refine pu_ 1 160 HT_ ?_; refine pu_ 2 161 HT_ ?_; refine pu_ 3 162 HT_ ?_; refine pu_ 4 163 HT_ ?_
            refine take_ (i := 5) (N := some 164) (v := ?_) (a' := ?_) #[true, true, true, true, true, true, false, false, false, false, false, false, false, false] rfl rfl (take_ofW HT_.out HW_.out kr) (fun _ _ _ h => h) (Or.inl ⟨by rfl, ?_⟩) hHeld ?_ ?_
            rotate_left
            ·rintro w' ⟨s0, s1⟩
             have hcv := s0.str; go_simp; with_reducible rfl
            rotate_left
            ·simp only [Act.put, List.setIfInBounds_toArray, List.set_cons_zero, List.set_cons_succ, i64_w, i32_w]
             rfl
            refine pu_ 6 165 HT_ ?_; refine pu_ 7 166 HT_ ?_; refine pu_ 8 167 HT_ ?_; refine tk_ 9 168 HT_ HW_ hHeld ?_
            refine on_ 10 HT_ fun K hK => ?_
            refine goes_ Tryz.func9 kr rfl #[.slice Ak lk ck, .int .i64 5] (by rfl) rfl rfl gs_ ?_
            refine (HC.out _ HB.out).mono ?_
            rintro e w17 ⟨v17, rfl, hp17, hb17⟩
            have HP17 := ax hp17
            have HB := ax (below_step HB.out hb17)
            clear hp17 hb17
            refine ⟨_, rfl, ?_⟩
            refine hK.out _ _ (HSN.out _ HB.out) (fun hHeld => ?_)
            clear hK K
            refine norm_ (a' := ?_) ?_ ?_
            rotate_left
            ·show Act.put _ (some 169) _ = _
             simp only [Act.put, List.setIfInBounds_toArray, List.set_cons_zero, List.set_cons_succ, i64_w, i32_w]
             rfl
            refine on_ 11 HT_ fun K hK => ?_
            have hcv2 := HP17.out.str
            refine value_ (w1 := ?_) (v := ?_) (by rfl) rfl ?_ ?_
            rotate_left 2
            ·go_simp
             constructor
             ·rfl
             ·rfl
            refine hK.out _ _ (HSN.out _ HB.out) (fun hHeld => ?_)
            clear hK K
            refine norm_ (a' := ?_) ?_ ?_
            rotate_left
            ·show Act.put _ (some 170) _ = _
             simp only [Act.put, List.setIfInBounds_toArray, List.set_cons_zero, List.set_cons_succ, i64_w, i32_w]
             rfl
            refine pu_ 12 171 HT_ ?_; refine pu_ 13 172 HT_ ?_
            refine done_ (done_of HT_.out kr) ?_
            clear hHeld HT_ HW_
            go_wp2_with fail
            exact ⟨⟨got + 1, out4, by simp, ⟨HRD16.out.below HB.out⟩, ⟨HSD16.out.below HB.out⟩, ⟨Kd.R_below HHI16.out HB.out⟩, ⟨below_step HBB16.out HB.out⟩⟩, by rw [outOf_eq (HRD16.out.below HB.out), HOL.out]; have h1 := HG.out; have h2 := HRD16.out.le; omega⟩
           ·have hge : got = b2 := by omega
            subst hge
            have HPO := ax (rpoll_none HRD.out)
            clear hle3 hgb
            go_wp2_with (go_at_call 16; refine HPO.out.mono ?_; rintro e w16 ⟨rfl, hb⟩; have HB16 := ax hb; clear hb)
            have e1 : ((t + 1 : Nat) : Int) = (t : Int) + 1 := by omega
            have hsd9 := HSD.out.below HB16.out
            rw [← e1] at hsd9
            have ht2 := HT_.out
            refine ⟨⟨t + 1, lo2, got, Q1, ak2, V2, ts2, C2, out3, hist ++ [(q2, or2)], by simp, by omega, rfl, ⟨⟨hsd9, HRD.out.below HB16.out, Kd.R_below HHI.out HB16.out, HNX.out, ?_⟩⟩, ⟨below_step HBB.out HB16.out⟩⟩, by simp [intOf]; omega⟩
            have h1 := HTH.out
            have h2 := HS5.out.len
            omega
      ·have hle := HST_.out.sd.le
       have hrl := HST_.out.rd.le
       have hlb2 := HST_.out.hi.lob
       obtain rfl : nm_ = lo := by omega
       obtain rfl : nm_ = b := by omega
       obtain ⟨off, cap, lv, rn, hsb, hkr, _⟩ := HST_.out.sd.box
       have HKW := ax (show ∀ w', Below wr.heap.size wr w' → Calls Tryz.prog 10 #[.pointer (some ⟨sb, 0, none⟩)] w' fun e w'' => e = .returned (.int .i64 0) ∧ Below w'.heap.size w' w'' from fun w' hb => by
        have h := kept_calls ((hb.block sb (blk_lt hsb)).trans hsb)
        rw [rowX_len, Nat.sub_self] at h
        exact h)
       have HBW := ax (show ∀ w', Below wr.heap.size wr w' → Calls Tryz.prog 17 #[.pointer (some ⟨sb, 0, none⟩)] w' fun e w'' => e = .returned (.int .u16 (nm first nm_)) ∧ Below w'.heap.size w' w'' from fun w' hb => sbase_calls ((hb.block sb (blk_lt hsb)).trans hsb))
       have hpl := plus_calls first 0 nm_ (nm_ : Int) rfl (by omega)
       rw [HF.out.2, Nat.zero_add] at hpl
       have HPL := ax hpl
       have HBc := ax (Below.refl wr.heap.size wr)
       have HBQ := HB
       clear hsb hkr hpl hle hrl hlb2 HST_ HB
       go_wp2_with (first
        | (go_at_call 10; refine (HKW.out _ HBc.out).mono ?_; rintro e w21 ⟨rfl, hb⟩; have HBc := ax (below_step HBc.out hb); clear hb)
        | (go_at_call 17; refine (HBW.out _ HBc.out).mono ?_; rintro e w22 ⟨rfl, hb⟩; have HBc := ax (below_step HBc.out hb); clear hb)
        | (go_at_call 18; refine (HPL.out _).mono ?_; rintro e w23 ⟨rfl, hb⟩; have HBc := ax (below_step HBc.out hb); clear hb)
        | fail)
       have hrs : (Tryz.f3).results = #[.tmp 6] := by kernel_rfl
       refine bodyPost_ret (results_tmp hrs _ _ _) rfl ?_
       exact ⟨by simp, below_step HBQ.out HBc.out⟩
     ·have hle := HST_.out.sd.le
      have hrl := HST_.out.rd.le
      have hlb2 := HST_.out.hi.lob
      have hln : ¬ lo < nm_ := fun hl => by
       rcases HST_.out.hi.phi hl with ⟨_, h1⟩ | ⟨tt, h1, h2⟩
       ·omega
       ·obtain ⟨_, _, _, _, _, _, _, h, _⟩ := HST_.out.sd.tim _ h1
        simp only at h
        omega
      have htb : decide ((t : Int) < 200) = false := decide_eq_false (by omega)
      have hti : ¬ (t : Int) < 200 := by omega
      obtain rfl : nm_ = lo := by omega
      obtain rfl : nm_ = b := by omega
      obtain ⟨off, cap, lv, rn, hsb, hkr, _⟩ := HST_.out.sd.box
      have HKW := ax (show ∀ w', Below wr.heap.size wr w' → Calls Tryz.prog 10 #[.pointer (some ⟨sb, 0, none⟩)] w' fun e w'' => e = .returned (.int .i64 0) ∧ Below w'.heap.size w' w'' from fun w' hb => by
       have h := kept_calls ((hb.block sb (blk_lt hsb)).trans hsb)
       rw [rowX_len, Nat.sub_self] at h
       exact h)
      have HBW := ax (show ∀ w', Below wr.heap.size wr w' → Calls Tryz.prog 17 #[.pointer (some ⟨sb, 0, none⟩)] w' fun e w'' => e = .returned (.int .u16 (nm first nm_)) ∧ Below w'.heap.size w' w'' from fun w' hb => sbase_calls ((hb.block sb (blk_lt hsb)).trans hsb))
      have hpl := plus_calls first 0 nm_ (nm_ : Int) rfl (by omega)
      rw [HF.out.2, Nat.zero_add] at hpl
      have HPL := ax hpl
      have HBc := ax (Below.refl wr.heap.size wr)
      have HBQ := HB
      clear hsb hkr hpl hle hrl hlb2 HST_ HB
      go_wp2_with (first
       | (go_at_call 10; refine (HKW.out _ HBc.out).mono ?_; rintro e w21 ⟨rfl, hb⟩; have HBc := ax (below_step HBc.out hb); clear hb)
       | (go_at_call 17; refine (HBW.out _ HBc.out).mono ?_; rintro e w22 ⟨rfl, hb⟩; have HBc := ax (below_step HBc.out hb); clear hb)
       | (go_at_call 18; refine (HPL.out _).mono ?_; rintro e w23 ⟨rfl, hb⟩; have HBc := ax (below_step HBc.out hb); clear hb)
       | fail)
      have hrs : (Tryz.f3).results = #[.tmp 6] := by kernel_rfl
      refine bodyPost_ret (results_tmp hrs _ _ _) rfl ?_
      exact ⟨by simp, below_step HBQ.out HBc.out⟩
end
end
end Go.Proofs.YtajiggmeappfaaaGreatDoor.P
namespace Go.Proofs.YtajiggmeappfaaaGreatDoor.P
open Go.RowKit Go.Proofs.YtajiggmeappfaaaGreatDoorW.PrintWords Go.Proofs.YtajiggmeappfaaaGreatDoorW.PrintLast Go.Proofs.YtajiggmeappfaaaGreatDoorW.PrintMore
open Go.RowKit Go.ChangeShapes Go.WideShapes Go.Deep Go.ChangeAt Go.Proofs.YtajiggmeappfaaaGreatDoorW.PrintWords Go.Proofs.YtajiggmeappfaaaGreatDoorW.PrintLast Go.Proofs.YtajiggmeappfaaaGreatDoorW.PrintMore
set_option maxRecDepth 100000
set_option maxHeartbeats 8000000
set_option linter.unusedVariables false
set_option linter.unusedSimpArgs false
-- YtajiggmeappfaaaGreatDoorPMsgRow
theorem list_of {α : Type} {p : Nat → α → Prop} (n : Nat) (h : ∀ i, i < n → ∃ x, p i x) : ∃ l : List α, l.length = n ∧ ∀ i (hi : i < l.length), p i l[i] := by
 induction n with
 | zero => exact ⟨[], rfl, fun i hi => absurd hi (by simp)⟩
 | succ n ih =>
  obtain ⟨l, hl, hp⟩ := ih (fun i hi => h i (by omega))
  obtain ⟨x, hx⟩ := h n (by omega)
  refine ⟨l ++ [x], by simp [hl], fun i hi => ?_⟩
  rw [List.length_append, List.length_singleton] at hi
  by_cases e : i < l.length
  ·rw [List.getElem_append_left e]; exact hp i e
  ·have : i = n := by omega
   subst this
   rw [List.getElem_append_right (by omega)]
   simpa [hl] using hx
theorem open_text {H : Type} {enc : TypeId × Value → H} {W : World} {base fuel : Nat} {held : Bool} {v : Value} {y : DataW H × List MemPlace}
  (h : DataW.trod enc Tryz.prog W base (fun _ => true) held fuel 37 [v] = some y) :
  ∃ l : List Int, ∃ A c, v = .slice A l.length c ∧ Kd.C (Kd.int .u8) W A l.length l ∧ l.length ≤ c ∧ byt l := by
 rcases open_ints Tryz.underlying37 Tryz.underlying5 kr h with ⟨hcs, _⟩ | ⟨x, len, cap, zs, hcs, _, hl, hm, hz, _, hcell, hwz⟩
 ·injection hcs with hcs
  subst hcs
  exact ⟨[], none, 0, rfl, Kd.C_of_reads (enc := Value.int .u8) (d := (0 : Int)) (h1 := fun _ => rfl) ⟨rfl, by simp, fun h => absurd h (Nat.lt_irrefl 0)⟩, Nat.le_refl _, fun x hx => nomatch hx⟩
 ·injection hcs with hcs
  subst hcs
  have hz' : zs.length = cap := by simpa using hz
  obtain ⟨l, e, hr, hm2, hw, hc⟩ := ReadsInt.ofRowC (a := some x) (len := len) (cap := cap) (k := .u8) (w := W) (zs := zs) (.inr ⟨x, rfl, hl, hm, hz', hcell, hwz⟩)
  subst e
  exact ⟨l, some x, cap, rfl, Kd.C_of_reads (d := (0 : Int)) (h1 := fun _ => rfl) hr, hc, u8_of_wf hw⟩
theorem open_msgs {H : Type} {enc : TypeId × Value → H} {W : World} {base : Nat} {held : Bool} {a : Option Addr} {len cap : Nat} {d : DataW H} {ps : List MemPlace}
  (h : DataW.Trod enc Tryz.prog W base (fun _ => true) held 23 (.slice a len cap) d ps) :
  ∃ ms : List (List Int), len = ms.length ∧ Msgs W a ms := by
 obtain ⟨fuel, hf⟩ := h
 rcases open_slice1 Tryz.underlying23 kr hf with ⟨hcs, _⟩ | ⟨x, l, c, m, n, V, D, Pl, hcs, _, hl, hm, hmm, _, hc⟩
 ·simp [Value.cells] at hcs
  obtain ⟨rfl, rfl, rfl⟩ := hcs
  exact ⟨[], rfl, ⟨by simp, fun i hi => absurd hi (by simp)⟩⟩
 ·simp [Value.cells] at hcs
  obtain ⟨rfl, rfl, rfl⟩ := hcs
  have hlm : len ≤ m := by rw [hmm]; split <;> omega
  obtain ⟨L, hL, hp⟩ := list_of (p := fun i (q : List Int) => ∃ A c, W.cell? (x.add i) = some (.slice A q.length c) ∧ Kd.C (Kd.int .u8) W A q.length q ∧ q.length ≤ c ∧ byt q) len (fun i hi => by
   obtain ⟨h0, t0⟩ := hc i (by omega)
   obtain ⟨q, A, c, rfl', h1, h2, h3⟩ := open_text t0
   exact ⟨q, A, c, by rw [h0, rfl'], h1, h2, h3⟩)
  refine ⟨L, hL.symm, ⟨by unfold maxLen at hm; omega, fun i hi => ?_⟩⟩
  obtain ⟨A, c, h1, h2, h3, h4⟩ := hp i hi
  exact ⟨x, A, c, rfl, h1, h2, h3, h4⟩
end Go.Proofs.YtajiggmeappfaaaGreatDoor.P
