/- Texts of this seat, one behind the other (merge.py): the walks of the functions that the law ShuttlePools uses, and plain words on what they come to. No condition. -/
import Derived.Laws.BytesArg
import Derived.RangeFuncNested
import Derived.RangeFuncBound
import Derived.RangeFuncCalls
import Derived.RangeFuncLeaves
import Derived.RangeFuncBox
import Derived.Shelf.Abstract
import Derived.WalkKit
import Derived.OwnWalkIn
import Derived.TacticsInMore
import Derived.LoopNIn
import Derived.LoopIn
import Derived.Maps.AppendAt
import Derived.Test.YtknanbnjbilciaaGreatDoorWLast
import Derived.Deep.DrawnRows
import Derived.Test.YtknanbnjbilciaaGreatDoorXMShuttlePools1
namespace Go.Proofs.YtknanbnjbilciaaGreatDoor.P
open Go.RowKit Go.Proofs.YtknanbnjbilciaaGreatDoorW.PrintWords Go.Proofs.YtknanbnjbilciaaGreatDoorW.PrintLast Go.Proofs.YtknanbnjbilciaaGreatDoorW.PrintMore
-- YtknanbnjbilciaaGreatDoorP98
section
attribute [local go_sem] max2_int min2_int max_two min_two max_three min_three max_four min_four
set_option linter.unusedVariables false
set_option linter.unusedSimpArgs false

/-! ### soft_Clip: function 88 -/
def soft_Clip.f (a0 : Int) : Option (Int) := some (mx (mn a0 31) (-31))
set_option maxHeartbeats 8000000 in
set_option maxRecDepth 100000 in
theorem soft_Clip.calls (a0 : Int) (r : Int) (w : World) (h : soft_Clip.f a0 = some r) :
    Calls Tryz.prog 88 #[.int .i64 a0] w fun e w' => e = .returned (.int .i64 r) ∧ Drawn0 w w' := by
  have H : (some (mx (mn a0 31) (-31))) = some r := h
  clear h
  obtain ⟨ji2, hji2⟩ : ∃ j_ : Int, (mn a0 31) = j_ := ⟨_, rfl⟩
  replace H : (some (mx (ji2) (-31))) = some r := by first | (rw [hji2] at H; exact H) | (simp only [hji2] at H ⊢; exact H)
  (try (have hji2h : ji2 ≤ 31 := by (rw [← hji2]; unfold mn; (repeat' split) <;> omega)))
  (try (have hji2g : ji2 ≤ 64 := by omega))
  have hji2_ : (if 31 < a0 then 31 else a0) = ji2 := hji2
  obtain ⟨ji3, hji3⟩ : ∃ j_ : Int, (mx (ji2) (-31)) = j_ := ⟨_, rfl⟩
  replace H : (some ji3) = some r := by first | (rw [hji3] at H; exact H) | (simp only [hji3] at H ⊢; exact H)
  have hji3_ : (if (ji2) < (-31) then (-31) else (ji2)) = ji3 := hji3
  obtain rfl := Option.some.inj H
  go_enter Tryz.func88, Tryz.ntmps88
  go_wp2
  go_ret
  exact ⟨by first | rfl | (simp; done) | (simp only [← hji2, ← hji3] <;> (first | rfl | simp)) | (simp [*]; done), by repeat (first | exact Drawn0.refl _ | apply Drawn0.step)⟩
end
-- YtknanbnjbilciaaGreatDoorP105
section
attribute [local go_sem] max2_int min2_int max_two min_two max_three min_three max_four min_four
set_option linter.unusedVariables false
set_option linter.unusedSimpArgs false

/-! ### viterbi_Decode_1: function 91 -/
def viterbi_Decode_1.f (a0 : Int) : Option (Bool) := (soft_Clip.f a0).bind fun t299 => (some (a0 != t299))
set_option maxHeartbeats 8000000 in
set_option maxRecDepth 100000 in
theorem viterbi_Decode_1.calls (a0 : Int) (r : Bool) (w : World) (h : viterbi_Decode_1.f a0 = some r) :
    Calls Tryz.prog 91 #[.int .i64 a0] w fun e w' => e = .returned (.bool r) ∧ Drawn0 w w' := by
  have H : ((soft_Clip.f a0).bind fun t299 => (some (a0 != t299))) = some r := h
  clear h
  replace H := Option.bind_eq_some_iff.mp H
  obtain ⟨t299, A20, H⟩ := H
  replace H : (some (a0 != t299)) = some r := H
  have A2 := Aside0.mk A20
  clear A20
  obtain rfl := Option.some.inj H
  go_enter Tryz.func91, Tryz.ntmps91
  go_wp2_with (first | ((with_reducible refine gate_callee (f := 88) rfl ?_); refine goesL_ (some 5) rfl rfl Tryz.func88 (by kernel_rfl) rfl #[.int .i64 a0] rfl (by (try simp only [List.map_toArray, List.map_cons, List.map_nil]); first | done | rfl | (simp only [List.length_drop, List.length_take]; rfl)) ?_; (with_reducible refine (soft_Clip.calls a0 t299 _ A2.out).mono ?_); rintro e w' ⟨rfl, ⟨nd, rfl⟩⟩; refine ⟨_, rfl, ?_⟩))
  go_ret
  exact ⟨by first | rfl | (simp; done) | (simp [*]; done), by repeat (first | exact Drawn0.refl _ | apply Drawn0.step)⟩
end
-- YtknanbnjbilciaaGreatDoorP106
section
attribute [local go_sem] max2_int min2_int max_two min_two max_three min_three max_four min_four
set_option linter.unusedVariables false
set_option linter.unusedSimpArgs false

/-! ### slices_IndexFunc_int_int: function 107 -/
def slices_IndexFunc_int_int.l0 : Nat → List Int → Int → Int → Option (Int)
  | 0, _, _, _ => none
  | k + 1, x0, x7, x8 => if x8 < x7 then (if 0 ≤ x8 then (if x8 < (x0.length : Int) then ((viterbi_Decode_1.f (rd x0 x8)).bind fun t301 => (if t301 = true then (some x8) else (slices_IndexFunc_int_int.l0 k x0 x7 (wrap64 (x8 + 1))))) else (none)) else (none)) else (some (-1))
def slices_IndexFunc_int_int.f (k : Nat) (l0 : List Int)  : Option (Int) := slices_IndexFunc_int_int.l0 k l0 (l0.length : Int) 0
theorem slices_IndexFunc_int_int.mono_l : ∀ k, (∀ y0 y1 y2, LeO (slices_IndexFunc_int_int.l0 k y0 y1 y2) (slices_IndexFunc_int_int.l0 (k + 1) y0 y1 y2))
  | 0 => fun _ _ _ r h => by simp [slices_IndexFunc_int_int.l0] at h
  | k + 1 => by
    have ih0 := slices_IndexFunc_int_int.mono_l k
    · intro y0 y1 y2
      unfold slices_IndexFunc_int_int.l0
      repeat' first
      | (with_reducible exact ih0 _ _ _)
      | (with_reducible exact LeO.refl _)
      | (with_reducible exact LeO.none _)
      | (with_reducible refine LeO.ite ?_ ?_)
      | (with_reducible refine LeO.bind ?_ (fun _ => ?_))
      | exact ih0 _ _ _
      | exact LeO.none _
      | refine LeO.ite ?_ ?_
      | refine LeO.bind ?_ (fun _ => ?_)
theorem slices_IndexFunc_int_int.mono : ∀ a0 k, LeO (slices_IndexFunc_int_int.f k a0) (slices_IndexFunc_int_int.f (k + 1) a0) := by
  intro a0 k
  have ih0 := slices_IndexFunc_int_int.mono_l k
  unfold slices_IndexFunc_int_int.f
  repeat' first
      | (with_reducible exact ih0 _ _ _)
      | (with_reducible exact LeO.refl _)
      | (with_reducible exact LeO.none _)
      | (with_reducible refine LeO.ite ?_ ?_)
      | (with_reducible refine LeO.bind ?_ (fun _ => ?_))
      | exact ih0 _ _ _
      | exact LeO.none _
      | refine LeO.ite ?_ ?_
      | refine LeO.bind ?_ (fun _ => ?_)
set_option maxHeartbeats 8000000 in
set_option maxRecDepth 100000 in
theorem slices_IndexFunc_int_int.calls (k : Nat) (A0 : Option Addr) (c0 : Nat) (l0 : List Int)  (r : Int) (w : World) (hr0 : Kd.C (Kd.int .i64) w A0 l0.length l0) (hc0 : l0.length ≤ c0) (h : slices_IndexFunc_int_int.f k l0 = some r) :
    Calls Tryz.prog 107 #[.slice A0 l0.length c0, .func (.func 91) #[] #[]] w fun e w' => e = .returned (.int .i64 r) ∧ Drawn0 w w' := by
  have HR0 := Aside0.mk hr0
  have HC0 := Aside0.mk hc0
  clear hr0 hc0
  have H : (slices_IndexFunc_int_int.l0 k l0 (l0.length : Int) 0) = some r := h
  clear h
  have H' := Aside0.mk H
  clear H
  go_enter Tryz.func107, Tryz.ntmps107
  go_wp2
  go_loopg [8] k (fun kq v8 w' => ∃ (x8_1 : Int), v8 = .int .i64 x8_1 ∧ Aside0 (slices_IndexFunc_int_int.l0 kq l0 (l0.length : Int) x8_1 = some r) ∧ Aside0 (kq ≤ k) ∧ Drawn0 w w')
  case atStart => exact ⟨(0), (by first | rfl | (simp; done) | (simp [*]; done)), H', ⟨Nat.le_refl _⟩, by repeat (first | exact Drawn0.refl _ | apply Drawn0.step)⟩
  case round =>
    clear H'
    try clear c1
    try clear p2
    obtain ⟨x8_1, rfl, HA, HK1, ⟨m1, rfl⟩⟩ := hrel
    cases gk with
    | zero => exact absurd HA.out (by simp [slices_IndexFunc_int_int.l0])
    | succ k1 =>
      have H := HA.out
      clear HA
      simp only [slices_IndexFunc_int_int.l0] at H
      by_cases c3 : x8_1 < (l0.length : Int)
      · rw [if_pos c3] at H
        have c3b0 : decide (x8_1 < (l0.length : Int)) = true := decide_eq_true c3
        clear c3
        by_cases c4 : 0 ≤ x8_1
        · rw [if_pos c4] at H
          have c4b0 : decide (0 ≤ x8_1) = true := decide_eq_true c4
          clear c4
          by_cases c5 : x8_1 < (l0.length : Int)
          · rw [if_pos c5] at H
            have c5b0 : decide (x8_1 < (l0.length : Int)) = true := decide_eq_true c5
            clear c5
            replace H := Option.bind_eq_some_iff.mp H
            obtain ⟨t301, A60, H⟩ := H
            replace H : (if t301 = true then (some x8_1) else (slices_IndexFunc_int_int.l0 k1 l0 (l0.length : Int) (wrap64 (x8_1 + 1)))) = some r := H
            have A6 := Aside0.mk A60
            clear A60
            by_cases c7 : t301 = true
            · subst c7
              have H1 : (some x8_1) = some r := by rw [if_pos rfl] at H; exact H
              clear H
              have H := H1
              clear H1
              obtain rfl := Option.some.inj H
              have p300 : 0 ≤ (x8_1 : Int) := of_decide_eq_true (by first | (with_reducible assumption) | assumption)
              have q300 : x8_1 < (l0.length : Int) := of_decide_eq_true (by first | (with_reducible assumption) | assumption)
              obtain ⟨ad300, e300, hx300_0⟩ := Kd.at_int HR0.out x8_1 p300 q300
              cases e300
              replace p300 := eq_true p300
              replace q300 := eq_true q300
              go_wp2_with (first | (go_at_call 91; (with_reducible refine (viterbi_Decode_1.calls (rd l0 x8_1) true _ A6.out).mono ?_); rintro e w' ⟨rfl, ⟨nd, rfl⟩⟩))
              go_ret
              exact ⟨by first | rfl | (simp; done) | (simp [*]; done), by repeat (first | exact Drawn0.refl _ | apply Drawn0.step)⟩
            · replace c7 := Bool.eq_false_iff.mpr c7
              subst c7
              have H1 : (slices_IndexFunc_int_int.l0 k1 l0 (l0.length : Int) (wrap64 (x8_1 + 1))) = some r := by rw [if_neg (show ¬ (false = true) by decide)] at H; exact H
              clear H
              have H := H1
              clear H1
              have H' := Aside0.mk H
              clear H
              have p300 : 0 ≤ (x8_1 : Int) := of_decide_eq_true (by first | (with_reducible assumption) | assumption)
              have q300 : x8_1 < (l0.length : Int) := of_decide_eq_true (by first | (with_reducible assumption) | assumption)
              obtain ⟨ad300, e300, hx300_0⟩ := Kd.at_int HR0.out x8_1 p300 q300
              cases e300
              replace p300 := eq_true p300
              replace q300 := eq_true q300
              go_wp2_with (first | (go_at_call 91; (with_reducible refine (viterbi_Decode_1.calls (rd l0 x8_1) false _ A6.out).mono ?_); rintro e w' ⟨rfl, ⟨nd, rfl⟩⟩))
              go_roundg k1
              case measure => have := HK1.out; omega
              case rel => exact ⟨(wrap64 (x8_1 + 1)), (by first | rfl | (simp; done) | (simp [*]; done)), H', ⟨by have := HK1.out; omega⟩, by repeat (first | exact Drawn0.refl _ | apply Drawn0.step)⟩
          · rw [if_neg c5] at H
            exact absurd H (by simp)
        · rw [if_neg c4] at H
          exact absurd H (by simp)
      · rw [if_neg c3] at H
        have c3b0 : decide (x8_1 < (l0.length : Int)) = false := decide_eq_false c3
        clear c3
        obtain rfl := Option.some.inj H
        go_wp2
        go_ret
        exact ⟨by first | rfl | (simp; done) | (simp [*]; done), by repeat (first | exact Drawn0.refl _ | apply Drawn0.step)⟩
end
-- YtknanbnjbilciaaGreatDoorP107
section
attribute [local go_sem] max2_int min2_int max_two min_two max_three min_three max_four min_four
set_option linter.unusedVariables false
set_option linter.unusedSimpArgs false

/-! ### slices_ContainsFunc_int_int: function 90 -/
def slices_ContainsFunc_int_int.f (k : Nat) (l0 : List Int)  : Option (Bool) := (slices_IndexFunc_int_int.f k l0).bind fun t302 => (some (decide (t302 ≥ 0)))
theorem slices_ContainsFunc_int_int.mono : ∀ a0 k, LeO (slices_ContainsFunc_int_int.f k a0) (slices_ContainsFunc_int_int.f (k + 1) a0) := by
  intro a0 k
  unfold slices_ContainsFunc_int_int.f
  repeat' first
      | (with_reducible exact slices_IndexFunc_int_int.mono _ _)
      | (with_reducible exact LeO.refl _)
      | (with_reducible exact LeO.none _)
      | (with_reducible refine LeO.ite ?_ ?_)
      | (with_reducible refine LeO.bind ?_ (fun _ => ?_))
      | exact slices_IndexFunc_int_int.mono _ _
      | exact LeO.none _
      | refine LeO.ite ?_ ?_
      | refine LeO.bind ?_ (fun _ => ?_)
set_option maxHeartbeats 8000000 in
set_option maxRecDepth 100000 in
theorem slices_ContainsFunc_int_int.calls (k : Nat) (A0 : Option Addr) (c0 : Nat) (l0 : List Int)  (r : Bool) (w : World) (hr0 : Kd.C (Kd.int .i64) w A0 l0.length l0) (hc0 : l0.length ≤ c0) (h : slices_ContainsFunc_int_int.f k l0 = some r) :
    Calls Tryz.prog 90 #[.slice A0 l0.length c0, .func (.func 91) #[] #[]] w fun e w' => e = .returned (.bool r) ∧ Drawn0 w w' := by
  have HR0 := Aside0.mk hr0
  have HC0 := Aside0.mk hc0
  clear hr0 hc0
  have H : ((slices_IndexFunc_int_int.f k l0).bind fun t302 => (some (decide (t302 ≥ 0)))) = some r := h
  clear h
  replace H := Option.bind_eq_some_iff.mp H
  obtain ⟨t302, A30, H⟩ := H
  replace H : (some (decide (t302 ≥ 0))) = some r := H
  have A3 := Aside0.mk A30
  clear A30
  obtain rfl := Option.some.inj H
  go_enter Tryz.func90, Tryz.ntmps90
  go_wp2_with (first | ((with_reducible refine gate_callee (f := 107) rfl ?_); refine goesL_ (some 7) rfl rfl Tryz.func107 (by kernel_rfl) rfl #[.slice A0 l0.length c0, .func (.func 91) #[] #[]] rfl (by (try simp only [List.map_toArray, List.map_cons, List.map_nil]); first | done | rfl | (simp only [List.length_drop, List.length_take]; rfl)) ?_; (with_reducible refine (slices_IndexFunc_int_int.calls k _ _ l0  t302 _ ?side1 ?side2 A3.out).mono ?_); (case side1 => repeat (first | exact HR0.out | (with_reducible refine Kd.C_alloc ?_ _) | (with_reducible refine Kd.C_drewN ?_ _) | (with_reducible refine Kd.C_drew ?_))); (case side2 => exact HC0.out); rintro e w' ⟨rfl, ⟨nd, rfl⟩⟩; refine ⟨_, rfl, ?_⟩))
  go_ret
  exact ⟨by first | rfl | (simp; done) | (simp [*]; done), by repeat (first | exact Drawn0.refl _ | apply Drawn0.step)⟩
end
end Go.Proofs.YtknanbnjbilciaaGreatDoor.P
namespace Go.Proofs.YtknanbnjbilciaaGreatDoor.P
open Go Go.Proofs Go.RowKit Go.Proofs.YtknanbnjbilciaaGreatDoorW.PrintWords Go.Proofs.YtknanbnjbilciaaGreatDoorW.PrintLast Go.Proofs.YtknanbnjbilciaaGreatDoorW.PrintMore
set_option linter.unusedVariables false
set_option linter.unusedSimpArgs false
-- YtknanbnjbilciaaGreatDoorPVDec
theorem clip_f {x : Int} (h : -31 ≤ x ∧ x ≤ 31) : soft_Clip.f x = some x := by
  unfold soft_Clip.f
  refine congrArg some ?_
  have e1 : Go.Proofs.YtknanbnjbilciaaGreatDoorW.PrintWords.mn x 31 = x := by unfold Go.Proofs.YtknanbnjbilciaaGreatDoorW.PrintWords.mn; split <;> omega
  rw [e1]
  unfold Go.Proofs.YtknanbnjbilciaaGreatDoorW.PrintWords.mx; split <;> omega
theorem iindex_l0 (l : List Int) (hl : l.length ≤ 100000) (hb : ∀ x ∈ l, -31 ≤ x ∧ x ≤ 31) (d : Nat) : ∀ k i : Nat, i + d = l.length → d < k →
    slices_IndexFunc_int_int.l0 k l (l.length : Int) (i : Int) = some (-1) := by
  induction d with
  | zero =>
    intro k i hi hk
    obtain ⟨k, rfl⟩ := pred hk
    rw [slices_IndexFunc_int_int.l0.eq_2, if_neg (by omega)]
  | succ d ih =>
    intro k i hi hk
    obtain ⟨k, rfl⟩ := pred hk
    have hlt : i < l.length := by omega
    have hn := ih k (i + 1) (by omega) (by omega)
    have hx := clip_f (hb l[i] (List.getElem_mem hlt))
    rw [slices_IndexFunc_int_int.l0.eq_2, if_pos (by omega), if_pos (by omega), if_pos (by omega), rd_get l i hlt]
    unfold viterbi_Decode_1.f
    rw [hx, Option.bind_some, Option.bind_some, if_neg (by simp), wrap_succ i (by omega)]
    exact hn
theorem contains_f (l : List Int) (hl : l.length ≤ 100000) (hb : ∀ x ∈ l, -31 ≤ x ∧ x ≤ 31) : slices_ContainsFunc_int_int.f (l.length + 1) l = some false := by
  unfold slices_ContainsFunc_int_int.f slices_IndexFunc_int_int.f
  rw [show slices_IndexFunc_int_int.l0 (l.length + 1) l (l.length : Int) 0 = some (-1) from iindex_l0 l hl hb l.length (l.length + 1) 0 (by omega) (by omega), Option.bind_some]
  rfl
def dec10.T : Bool × List (List Nat × List Nat) := (true, [([], []), ([], []), ([], []), ([0, 1, 2], [0, 1, 2]), ([], []), ([4], [4]), ([5], [5]), ([6], [6]), ([3, 3, 0, 1, 2, 3], [3]), ([7, 8, 0, 1, 2, 3, 4, 5, 6, 7, 8], [7]), ([9, 0, 1, 2, 3, 4, 5, 6, 7, 8, 9], [])])
def dec10.B : List Nat := [0, 0, 0, 7, 0, 16, 48, 112, 15, 511, 1023]
theorem dec10.tab : rtab .any (opsOf Tryz.f61 10) = dec10.T := by kernel_rfl
theorem dec10.bits : waitsOk dec10.T.2 dec10.B = true := by kernel_rfl
set_option maxRecDepth 100000 in
set_option maxHeartbeats 8000000 in
theorem vdecode_calls {w : World} (hT : TP w) {A : Option Addr} {c : Nat} {L : List Int} (hL : Kd.C (Kd.int .i64) w A L.length L) (hc : L.length ≤ c) (n : Nat) (hN : L.length = 4 * (n + 6)) (hn : n ≤ 1000) (hLb : ∀ j, -31 ≤ L.getD j 0 ∧ L.getD j 0 ≤ 31) (b : List Nat) (hA : Alone (fun j => L.getD j 0) (n + 6) n b) :
    Calls Tryz.prog 61 #[.slice A (4 * (n + 6)) c] w fun e w' => ∃ v sc, e = .returned (.tuple #[v, sc, .int .i64 0]) ∧ Kd.R (Kd.int .u8) 5 w' w.heap.size (fun _ => True) v (toI (b.take n)) ∧ Below w.heap.size w w' := by
  have HT := Aside0.mk hT
  have HL := Aside0.mk hL
  have HCC := Aside0.mk hc
  have HLB := Aside0.mk hLb
  have HAL := Aside0.mk hA
  have HCF := Aside0.mk (contains_f L (by omega) (fun x hx => by
    obtain ⟨j, hj, rfl⟩ := List.getElem_of_mem hx
    have h := hLb j
    rw [List.getD_eq_getElem?_getD, List.getElem?_eq_getElem hj] at h
    exact h))
  obtain ⟨N, hNd⟩ : ∃ N, N = n + 6 := ⟨_, rfl⟩
  rw [← hNd] at hN ⊢
  rw [← hNd] at HAL
  have HNN := Aside0.mk (And.intro hNd (And.intro hN hn))
  have hq : Int.tdiv ((4 * N : Nat) : Int) 4 = (N : Int) := by rw [Int.tdiv_eq_ediv_of_nonneg (by omega)]; omega
  have hr : Int.tmod ((4 * N : Nat) : Int) 4 = 0 := by rw [Int.tmod_eq_emod_of_nonneg (by omega)]; omega
  have hNb : (N : Int) ≤ 1006 := by omega
  have hsub : (N : Int) - 6 = (n : Int) := by omega
  have hn0 : ¬ (n : Int) < 0 := by omega
  have hn1 : ¬ (n : Int) > 4096 := by omega
  have HST := Aside0.mk (fun w => conv_Steps.calls 0 6 w (by unfold conv_Steps.f; rw [if_neg (by decide)]; exact congrArg some (by unfold wrap64; decide)))
  clear hT hL hc hLb hA hN hn hNd
  go_enter Tryz.func61, Tryz.ntmps61
  go_wp2_with (first
    | (go_at_call 65; refine Aside0.out ?_)
    | fail)
  refine Aside0.mk ?_
  refine (HST.out w).mono ?_
  rintro e w1 ⟨rfl, hd⟩
  have HB1 := Aside0.mk hd.below
  clear hd HST
  have hcf := slices_ContainsFunc_int_int.calls (L.length + 1) A c L false w1 (Kd.C_below HL.out HB1.out) HCC.out HCF.out
  rw [HNN.out.2.1] at hcf
  have HCN := Aside0.mk hcf
  clear hcf
  go_wp2_with (first
    | (go_at_call 90; refine Aside0.out ?_)
    | fail)
  refine Aside0.mk ?_
  refine HCN.out.mono ?_
  rintro e w2 ⟨rfl, hd⟩
  have HB2 := Aside0.mk (below_step HB1.out hd.below)
  have HBU := Aside0.mk (build_calls (TP_of HT.out HB2.out))
  clear hd HCN HB1
  go_wp2_with (first
    | (go_at_call 92; refine Aside0.out ?_)
    | fail)
  refine Aside0.mk ?_
  refine HBU.out.mono ?_
  rintro e w3 ⟨C, rfl, hC, hb⟩
  have HB3 := Aside0.mk (below_step HB2.out hb)
  have HG := Aside0.mk hC
  have HCS := Aside0.mk hC.1
  clear hb hC HBU HB2
  go_wp2_with (first
    | (refine wpList_store_row rfl 166 (.tmp 6) (.tmp 32) rfl w3.heap.size C rfl rfl 166 _ (blk_new w3 _) (by rw [HCS.out]; exact g_size) (by rw [HCS.out]; exact zG) HG.out.one ?_; refine Aside0.out ?_)
    | fail)
  refine Aside0.mk ?_
  have hba := below_alloc (Below.refl w3.heap.size w3) (.cells Tryz.zeroCells166 166)
  have hbb := setRow_heap (w3.alloc (.cells Tryz.zeroCells166 166)) w3.heap.size _ C _ _ (blk_new w3 (.cells Tryz.zeroCells166 166))
  have hbs := below_setRow hba (Nat.le_refl _) C
  obtain ⟨a6, ha6⟩ : ∃ a6, a6 = w3.heap.size := ⟨_, rfl⟩
  obtain ⟨w4, hw4⟩ : ∃ w4, w4 = (w3.alloc (.cells Tryz.zeroCells166 166)).setRow w3.heap.size C := ⟨_, rfl⟩
  rw [← hw4] at hbs hbb ⊢
  have HB4 := Aside0.mk (below_step HB3.out hbs)
  rw [← ha6] at hbb ⊢
  have HE4 := Aside0.mk (show EB w4 a6 128 from ⟨C, hbb, HG.out.1, fun q j hq hj => HG.out.2 q j hq hj⟩)
  clear hba hbb hbs ha6 hw4 HB3 HG HCS
  have hco := columns_calls (w := w4) (A := A) (c := c) (L := L) (Kd.C_below HL.out HB4.out) HCC.out N n HNN.out.2.1 (by have := HNN.out; omega) HLB.out (by have := HNN.out; omega) HE4.out
  have HCO := Aside0.mk hco
  clear hco
  go_wp2_with (first
    | (go_at_call 93; refine Aside0.out ?_)
    | fail)
  refine Aside0.mk ?_
  refine HCO.out.mono ?_
  rintro e w5 ⟨v, rfl, hv⟩
  obtain ⟨H, Q, cc, rfl, hH, hQ, hci, hb⟩ := hv
  have hd : Below w5.heap.size w5 w5.drew := below_drew1 (Below.refl _ _)
  have HB5 := Aside0.mk (below_step (below_step HB4.out hb) hd)
  have HE5 := Aside0.mk (EB.below' (EB.below' HE4.out hb) hd)
  have HQ5 := Aside0.mk (show w5.drew.heap[H]? = some (.cells (ints Q) 174 (0, 0)) from (hd.block H (blk_lt hQ)).trans hQ)
  have HCI := Aside0.mk hci
  have htc := trace_calls (w := w5.drew) (A := A) (c := c) (L := L) (Kd.C_below HL.out HB5.out) HCC.out N n HNN.out.2.1 (by have := HNN.out; omega) HLB.out (by have := HNN.out; omega) HE5.out HQ5.out HCI.out b HAL.out (cc := cc)
  have HTC := Aside0.mk htc
  obtain ⟨S0, hS0⟩ : ∃ S0, S0 = Q.getD 0 0 := ⟨_, rfl⟩
  have HSC := Aside0.mk (show w5.drew.cell? ⟨H, 0, none⟩ = some (.int .i64 S0) from (blk_cell HQ5.out 0).trans ((ints_get Q 0 (by have := HCI.out.1; omega)).trans (by rw [hS0])))
  obtain ⟨M, hM⟩ : ∃ M, M = N + 1 := ⟨_, rfl⟩
  rw [← hM] at HTC ⊢
  have hM0 : (0 : Int) < (M : Int) := by omega
  have hMn : 0 < M := by omega
  clear hd hb hH hQ hci htc hS0 HCO HB4 HE4 hM
  go_wp2_with fail
  refine start_ (n := 11) (S := (fun w' => w'.cell? ⟨H, 0, none⟩ = some (.int .i64 S0))) (ds := []) #[false, false, false, false, false, false, false, false, false, false, false] (by kernel_rfl) rfl rfl HSC.out (fun hHeld => ?_)
  refine with_tabW dec10.tab dec10.bits (fun HT_ HW_ => ?_)
  refine pure_ (i := 0) (N := some 40) (v := ?_) (a' := ?_) #[true, false, false, false, false, false, false, false, false, false, false] rfl rfl (any_of HT_.out (by kernel_rfl)) (fun _ _ _ h => h) (Or.inl ⟨by rfl, ?_⟩) ?_ ?_
  rotate_left
  · intro w'
    go_simp
    with_reducible rfl
  rotate_left
  · simp only [Act.put, List.setIfInBounds_toArray, List.set_cons_zero, List.set_cons_succ, i64_w, i32_w]
    rfl
  refine pure_ (i := 1) (N := some 41) (v := ?_) (a' := ?_) #[true, true, false, false, false, false, false, false, false, false, false] rfl rfl (any_of HT_.out (by kernel_rfl)) (fun _ _ _ h => h) (Or.inl ⟨by rfl, ?_⟩) ?_ ?_
  rotate_left
  · intro w'
    go_simp
    with_reducible rfl
  rotate_left
  · simp only [Act.put, List.setIfInBounds_toArray, List.set_cons_zero, List.set_cons_succ, i64_w, i32_w]
    rfl
  refine pure_ (i := 2) (N := some 42) (v := ?_) (a' := ?_) #[true, true, true, false, false, false, false, false, false, false, false] rfl rfl (any_of HT_.out (by kernel_rfl)) (fun _ _ _ h => h) (Or.inl ⟨by rfl, ?_⟩) ?_ ?_
  rotate_left
  · intro w'
    go_simp
    with_reducible rfl
  rotate_left
  · simp only [Act.put, List.setIfInBounds_toArray, List.set_cons_zero, List.set_cons_succ, i64_w, i32_w]
    rfl
  refine pure_ (i := 4) (N := some 44) (v := ?_) (a' := ?_) #[true, true, true, false, true, false, false, false, false, false, false] rfl rfl (any_of HT_.out (by kernel_rfl)) (fun _ _ _ h => h) (Or.inl ⟨by rfl, ?_⟩) ?_ ?_
  rotate_left
  · intro w'
    go_simp
    with_reducible rfl
  rotate_left
  · simp only [Act.put, List.setIfInBounds_toArray, List.set_cons_zero, List.set_cons_succ, i64_w, i32_w]
    rfl
  refine pure_ (i := 5) (N := some 45) (v := ?_) (a' := ?_) #[true, true, true, false, true, true, false, false, false, false, false] rfl rfl (any_of HT_.out (by kernel_rfl)) (fun _ _ _ h => h) (Or.inl ⟨by rfl, ?_⟩) ?_ ?_
  rotate_left
  · intro w'
    go_simp
    with_reducible rfl
  rotate_left
  · simp only [Act.put, List.setIfInBounds_toArray, List.set_cons_zero, List.set_cons_succ, i64_w, i32_w]
    rfl
  refine pure_ (i := 6) (N := some 46) (v := ?_) (a' := ?_) #[true, true, true, false, true, true, true, false, false, false, false] rfl rfl (any_of HT_.out (by kernel_rfl)) (fun _ _ _ h => h) (Or.inl ⟨by rfl, ?_⟩) ?_ ?_
  rotate_left
  · intro w'
    go_simp
    with_reducible rfl
  rotate_left
  · simp only [Act.put, List.setIfInBounds_toArray, List.set_cons_zero, List.set_cons_succ, i64_w, i32_w]
    rfl
  refine take_ (i := 7) (N := some 47) (v := ?_) (a' := ?_) #[true, true, true, false, true, true, true, true, false, false, false] rfl rfl (take_ofW HT_.out HW_.out (by kernel_rfl)) (fun _ _ _ h => h) (Or.inl ⟨by rfl, ?_⟩) hHeld ?_ ?_
  rotate_left
  · rintro w' s0
    go_simp
    with_reducible rfl
  rotate_left
  · simp only [Act.put, List.setIfInBounds_toArray, List.set_cons_zero, List.set_cons_succ, i64_w, i32_w]
    rfl
  refine one_ (i := 3) (N := some 43) #[true, true, true, true, true, true, true, true, false, false, false] rfl rfl (one_of HT_.out (by kernel_rfl)) (by decide) (fun K hK => ?_)
  refine goes_ Tryz.func94 (by kernel_rfl) rfl #[.slice A (4 * N) c, .int .i64 n, .pointer (some ⟨a6, 0, none⟩), .slice (some ⟨H, 0, none⟩) M cc] (by rfl) rfl rfl (by (try simp only [List.map_toArray, List.map_cons, List.map_nil]); first | done | rfl | (go_simp; done) | simp [Act.eval]) ?_
  refine HTC.out.mono ?_
  rintro e w7 ⟨v, rfl, hv, hb⟩
  have HV := Aside0.mk (Kd.R_lower hv HB5.out.size)
  have HB7 := Aside0.mk (below_step HB5.out hb)
  have HS7 := Aside0.mk ((hb.cell (p := ⟨H, 0, none⟩) (blk_lt HQ5.out)).trans HSC.out)
  clear hv hb HTC
  refine ⟨_, rfl, ?_⟩
  refine hK.out _ _ HS7.out (fun hHeld => ?_)
  clear hK K
  refine norm_ (a' := ?_) ?_ ?_
  rotate_left
  · show Act.put _ (some 43) _ = _
    simp only [Act.put, List.setIfInBounds_toArray, List.set_cons_zero, List.set_cons_succ, i64_w, i32_w]
    rfl
  refine pure_ (i := 8) (N := some 2) (v := ?_) (a' := ?_) #[true, true, true, true, true, true, true, true, true, false, false] rfl rfl (any_of HT_.out (by kernel_rfl)) (fun _ _ _ h => h) (Or.inl ⟨by rfl, ?_⟩) ?_ ?_
  rotate_left
  · intro w'
    go_simp
    with_reducible rfl
  rotate_left
  · simp only [Act.put, List.setIfInBounds_toArray, List.set_cons_zero, List.set_cons_succ, i64_w, i32_w]
    rfl
  refine pure_ (i := 9) (N := some 3) (v := ?_) (a' := ?_) #[true, true, true, true, true, true, true, true, true, true, false] rfl rfl (any_of HT_.out (by kernel_rfl)) (fun _ _ _ h => h) (Or.inl ⟨by rfl, ?_⟩) ?_ ?_
  rotate_left
  · intro w'
    go_simp
    with_reducible rfl
  rotate_left
  · simp only [Act.put, List.setIfInBounds_toArray, List.set_cons_zero, List.set_cons_succ, i64_w, i32_w]
    rfl
  refine pure_ (i := 10) (N := some 4) (v := ?_) (a' := ?_) #[true, true, true, true, true, true, true, true, true, true, true] rfl rfl (any_of HT_.out (by kernel_rfl)) (fun _ _ _ h => h) (Or.inl ⟨by rfl, ?_⟩) ?_ ?_
  rotate_left
  · intro w'
    go_simp
    with_reducible rfl
  rotate_left
  · simp only [Act.put, List.setIfInBounds_toArray, List.set_cons_zero, List.set_cons_succ, i64_w, i32_w]
    rfl
  refine done_ (done_of HT_.out (by kernel_rfl)) ?_
  clear hHeld
  go_wp2_with fail
  have hrs : (Tryz.f61).results = #[.tmp 2, .tmp 3, .tmp 4] := by kernel_rfl
  refine bodyPost_ret (results_tmp3 hrs _ _ _) rfl ?_
  exact ⟨v, _, rfl, HV.out, HB7.out⟩
end Go.Proofs.YtknanbnjbilciaaGreatDoor.P
namespace Go.Proofs.YtknanbnjbilciaaGreatDoor.P
open Go.RowKit Go.Proofs.YtknanbnjbilciaaGreatDoorW.PrintWords Go.Proofs.YtknanbnjbilciaaGreatDoorW.PrintLast Go.Proofs.YtknanbnjbilciaaGreatDoorW.PrintMore
-- YtknanbnjbilciaaGreatDoorP36
section
attribute [local go_sem] max2_int min2_int max_two min_two max_three min_three max_four min_four
set_option linter.unusedVariables false
set_option linter.unusedSimpArgs false

/-! ### version_Bits: function 56 -/
def version_Bits.f (a0 : Int) : Option (Int) := (conv_Steps.f a0).bind fun t222 => (some t222)
set_option maxHeartbeats 8000000 in
set_option maxRecDepth 100000 in
theorem version_Bits.calls (a0 : Int) (r : Int) (w : World) (h : version_Bits.f a0 = some r) :
    Calls Tryz.prog 56 #[.int .i64 a0] w fun e w' => e = .returned (.int .i64 r) ∧ Drawn0 w w' := by
  have H : ((conv_Steps.f a0).bind fun t222 => (some t222)) = some r := h
  clear h
  replace H := Option.bind_eq_some_iff.mp H
  obtain ⟨t222, A20, H⟩ := H
  replace H : (some t222) = some r := H
  have A2 := Aside0.mk A20
  clear A20
  obtain rfl := Option.some.inj H
  go_enter Tryz.func56, Tryz.ntmps56
  go_wp2_with (first | ((with_reducible refine gate_callee (f := 65) rfl ?_); refine goesL_ (some 4) rfl rfl Tryz.func65 (by kernel_rfl) rfl #[.int .i64 a0] rfl (by (try simp only [List.map_toArray, List.map_cons, List.map_nil]); first | done | rfl | (simp only [List.length_drop, List.length_take]; rfl)) ?_; (with_reducible refine (conv_Steps.calls a0 t222 _ A2.out).mono ?_); rintro e w' ⟨rfl, ⟨nd, rfl⟩⟩; refine ⟨_, rfl, ?_⟩))
  go_ret
  exact ⟨by first | rfl | (simp; done) | (simp [*]; done), by repeat (first | exact Drawn0.refl _ | apply Drawn0.step)⟩
end
end Go.Proofs.YtknanbnjbilciaaGreatDoor.P
namespace Go.Proofs.YtknanbnjbilciaaGreatDoor.P
open Go Go.Proofs Go.RowKit Go.Proofs.YtknanbnjbilciaaGreatDoorW.PrintWords Go.Proofs.YtknanbnjbilciaaGreatDoorW.PrintLast Go.Proofs.YtknanbnjbilciaaGreatDoorW.PrintMore
set_option linter.unusedVariables false
set_option linter.unusedSimpArgs false
-- YtknanbnjbilciaaGreatDoorPCBuf
theorem made_one (m : Nat) : madeCells #[Value.int .i64 0] m = ints (List.replicate m 0) := by
  apply Array.ext_getElem?
  intro j
  by_cases h : j < m
  · rw [ints_get _ _ (by simpa using h)]
    have hz : ∀ k, k < 1 → #[Value.int .i64 0][k]! = Value.int .i64 0 := fun k hk => by
      obtain rfl : k = 0 := by omega
      rfl
    unfold madeCells
    rw [show (#[Value.int .i64 0] : Array Value).size = 1 from rfl, Array.getElem?_eq_getElem (by simpa using h), Array.getElem_map, Array.getElem_range, hz _ (Nat.mod_lt _ (by decide)), List.getD_eq_getElem?_getD, List.getElem?_replicate, if_pos h]; rfl
  · rw [Array.getElem?_eq_none (by rw [size_madeCells]; omega), Array.getElem?_eq_none (by rw [ints_size, List.length_replicate]; omega)]
theorem make_ints (m : Nat) (hm : m ≤ 100000) (w : World) : (Instr.makeSlice 23 (.int .i64 (m : Int)) (.int .i64 (m : Int))).run Tryz.prog w = .ok (.slice (some ⟨w.heap.size, 0, none⟩) m m) (w.alloc (.cells (ints (List.replicate m 0)) 3)) := by
  obtain ⟨i, hi, hz0, hz1, hz2⟩ := info_parts i64_info
  have h := run_make (P := Tryz.prog) w 23 3 i (.int .i64 0) Tryz.underlying23 hi hz0 .i64 .i64 (m : Int) (m : Int) (by omega) (by omega) (by rw [hz2]; omega) (by omega)
  rw [hz1] at h
  simp only [Int.toNat_natCast, Nat.mul_one] at h
  rw [show (Value.int IntKind.i64 0).cells = #[Value.int .i64 0] from rfl, made_one] at h
  exact h
/-- A buffer at block g, its soft bits at block h. -/
structure BU (w : World) (S g h n : Nat) (σ : List Int) : Prop where
  box : ∃ C : Array Value, w.heap[g]? = some (.cells C 116 (0, 0)) ∧ C.size = 6 ∧ C[0]? = some (.int .i64 (n : Int)) ∧ C[1]? = some (.slice (some ⟨h, 0, none⟩) (4 * (n + 6)) (4 * (n + 6))) ∧ ∀ v, v < 4 → ∃ c, C[2 + v]? = some (.int .i64 c)
  row : w.heap[h]? = some (.cells (ints σ) 3 (0, 0))
  len : σ.length = 4 * (n + 6)
  lo : S ≤ g ∧ S ≤ h ∧ g ≠ h
theorem BU.below {w w' : World} {S g h n : Nat} {σ : List Int} (b : BU w S g h n σ) (hb : Below w.heap.size w w') : BU w' S g h n σ := by
  obtain ⟨C, hC, r⟩ := b.box
  exact ⟨⟨C, (hb.block g (blk_lt hC)).trans hC, r⟩, (hb.block h (blk_lt b.row)).trans b.row, b.len, b.lo⟩
theorem below_less {B C : Nat} {w w' : World} (h : Below B w w') (hc : C ≤ B) : Below C w w' := ⟨h.os, h.tape, h.output, h.size, fun k hk => h.block k (by omega)⟩
theorem bits_n (n : Nat) (hn : n ≤ 1000) : version_Bits.f (n : Int) = some ((n + 6 : Nat) : Int) := by
  unfold version_Bits.f conv_Steps.f
  rw [if_neg (by omega)]
  simp only [Option.bind_some]
  refine congrArg some ?_
  unfold wrap64; omega
set_option maxRecDepth 100000 in
set_option maxHeartbeats 4000000 in
theorem reset_calls {w : World} {g n : Nat} (hn : n ≤ 1000) (hg : w.heap[g]? = some (.cells #[.int .i64 (n : Int), .slice none 0 0, .int .i64 0, .int .i64 0, .int .i64 0, .int .i64 0] 116 (0, 0))) :
    Calls Tryz.prog 85 #[.pointer (some ⟨g, 0, none⟩)] w fun e w' => e = .returned (.tuple #[]) ∧ ∃ h, BU w' g g h n (List.replicate (4 * (n + 6)) 0) ∧ w.heap.size ≤ h ∧ Below g w w' := by
  have HG := Aside0.mk hg
  have HN := Aside0.mk hn
  have HBN := Aside0.mk (fun w => version_Bits.calls (n : Int) _ w (bits_n n hn))
  obtain ⟨k, hk⟩ : ∃ k, k = n + 6 := ⟨_, rfl⟩
  have HK := Aside0.mk hk
  rw [← hk] at HBN
  have hkb : (k : Int) ≤ 1006 := by omega
  obtain ⟨M, hM⟩ : ∃ M, M = 4 * k := ⟨_, rfl⟩
  have hM2 : 4 * (k : Int) = (M : Int) := by omega
  have hMb : (M : Int) ≤ 5000 := by omega
  have HM := Aside0.mk hM
  have hc0 := blk_cell hg 0
  clear hg hn hk hM
  go_enter Tryz.func85, Tryz.ntmps85
  go_wp2_with (first
    | (go_at_call 56; refine Aside0.out ?_)
    | fail)
  refine Aside0.mk ?_
  refine (HBN.out w).mono ?_
  rintro e w1 ⟨rfl, hd⟩
  have HG1 := Aside0.mk ((hd.below.block g (blk_lt HG.out)).trans HG.out)
  have HB1 := Aside0.mk hd.below
  have hmk := make_ints M (by omega) w1
  have hfz1 := blk_frozen (blk_alloc HG1.out (.cells (ints (List.replicate M 0)) 3)) 1
  have hcl1 := blk_cell (blk_alloc HG1.out (.cells (ints (List.replicate M 0)) 3)) 1
  clear hd HBN hc0
  go_wp2_with (first
    | ((with_reducible refine gate_ (.store 114 (.tmp 17) (.tmp 15)) rfl ?_); refine Aside0.out ?_)
    | fail)
  refine Aside0.mk ?_
  have hba := below_alloc (Below.refl w1.heap.size w1) (.cells (ints (List.replicate M 0)) 3)
  have hbb := blk_new w1 (.cells (ints (List.replicate M 0)) 3)
  obtain ⟨h, hh⟩ : ∃ h, h = w1.heap.size := ⟨_, rfl⟩
  rw [← hh] at hbb ⊢
  obtain ⟨w2, hw2⟩ : ∃ w2, w2 = w1.alloc (.cells (ints (List.replicate M 0)) 3) := ⟨_, rfl⟩
  have HGH := Aside0.mk (show g < h ∧ w.heap.size ≤ h by rw [hh]; exact ⟨blk_lt HG1.out, HB1.out.size⟩)
  rw [← hw2] at hba hbb ⊢
  have hG2 := (hba.block g (blk_lt HG1.out)).trans HG1.out
  have hG3 := blk_put hG2 1 (.slice (some ⟨h, 0, none⟩) M M) rfl
  have hp := Put1.set g 1 w2 (.slice (some ⟨h, 0, none⟩) M M)
  have hr3 := (hp.block h (by have := HGH.out; omega)).trans hbb
  have hb3 : Below g w (w2.setCell ⟨g, 1, none⟩ (.slice (some ⟨h, 0, none⟩) M M)) := (below_less (below_step HB1.out hba) (Nat.le_of_lt (blk_lt HG.out))).trans (hp.below (Nat.le_refl _))
  obtain ⟨w3, hw3⟩ : ∃ w3, w3 = w2.setCell ⟨g, 1, none⟩ (.slice (some ⟨h, 0, none⟩) M M) := ⟨_, rfl⟩
  rw [← hw3] at hG3 hr3 hb3 ⊢
  have hth : w3.there g 2 4 := fun j hj => ⟨by rw [blk_cell hG3]; obtain rfl | rfl | rfl | rfl : j = 0 ∨ j = 1 ∨ j = 2 ∨ j = 3 := by omega
                                               all_goals rfl, blk_frozen hG3 _⟩
  refine wpList_store_mid rfl 114 (.tmp 17) (.tmp 15) rfl g 2 #[.int .i64 0, .int .i64 0, .int .i64 0, .int .i64 0] rfl rfl hth (by kernel_rfl) (by simp [Value.oneCell']) ?_
  obtain ⟨C2, k1, k2, k3, k4⟩ := setCells_blk [.int .i64 0, .int .i64 0, .int .i64 0, .int .i64 0] 2 w3 _ hG3
  have hp2 := Put1.cells_ g [.int .i64 0, .int .i64 0, .int .i64 0, .int .i64 0] 2 w3
  have HR := Aside0.mk (show BU (w3.setCells g 2 [.int .i64 0, .int .i64 0, .int .i64 0, .int .i64 0]) g g h n (List.replicate (4 * (n + 6)) 0) from
    ⟨⟨C2, k1, k2, (k3 0 (.inl (by decide))).trans rfl, (k3 1 (.inl (by decide))).trans (by rw [← HK.out, ← HM.out]; rfl), fun v hv => ⟨0, by
      refine k4 v _ ?_ (by show 2 + v < 6; omega)
      obtain rfl | rfl | rfl | rfl : v = 0 ∨ v = 1 ∨ v = 2 ∨ v = 3 := by omega
      all_goals rfl⟩⟩, by rw [← HK.out, ← HM.out]; exact (hp2.block h (by have := HGH.out; omega)).trans hr3, by rw [List.length_replicate], ⟨Nat.le_refl _, by have := HGH.out; omega, by have := HGH.out; omega⟩⟩)
  have HBF := Aside0.mk (hb3.trans (hp2.below (Nat.le_refl _)))
  obtain ⟨w4, hw4⟩ : ∃ w4, w4 = w3.setCells g 2 [.int .i64 0, .int .i64 0, .int .i64 0, .int .i64 0] := ⟨_, rfl⟩
  rw [show (#[Value.int .i64 0, .int .i64 0, .int .i64 0, .int .i64 0] : Array Value).toList = [.int .i64 0, .int .i64 0, .int .i64 0, .int .i64 0] from rfl, ← hw4]
  rw [← hw4] at HR HBF
  clear hba hbb hh hw2 hw3 hw4 hG2 hG3 hr3 hb3 hp hp2 hth k1 k2 k3 k4 hmk hfz1 hcl1
  go_wp2_with fail
  refine bodyPost_end (results_none rfl _ _ _) rfl ?_
  exact ⟨rfl, h, HR.out, HGH.out.2, HBF.out⟩
set_option maxRecDepth 100000 in
set_option maxHeartbeats 4000000 in
theorem new_calls {w : World} {n : Nat} (hn : n ≤ 1000) :
    Calls Tryz.prog 55 #[.int .i64 (n : Int)] w fun e w' => ∃ g h, e = .returned (.tuple #[.pointer (some ⟨g, 0, none⟩), .int .i64 0]) ∧ BU w' w.heap.size g h n (List.replicate (4 * (n + 6)) 0) ∧ Below w.heap.size w w' := by
  have HN := Aside0.mk hn
  have h1 : ¬ (n : Int) < 0 := by omega
  have h2 : ¬ (n : Int) > 4096 := by omega
  clear hn
  go_enter Tryz.func55, Tryz.ntmps55
  go_wp2_with (first
    | (go_at_call 85; refine Aside0.out ?_)
    | fail)
  refine Aside0.mk ?_
  have hba := below_alloc (Below.refl w.heap.size w) (.cells #[.int .i64 (n : Int), .slice none 0 0, .int .i64 0, .int .i64 0, .int .i64 0, .int .i64 0] 116)
  have hbb := blk_new w (.cells #[.int .i64 (n : Int), .slice none 0 0, .int .i64 0, .int .i64 0, .int .i64 0, .int .i64 0] 116)
  refine (reset_calls HN.out hbb).mono ?_
  rintro e w2 ⟨rfl, h, hu, hh, hb⟩
  have HU := Aside0.mk (show BU w2 w.heap.size w.heap.size h n _ from ⟨hu.box, hu.row, hu.len, ⟨Nat.le_refl _, hu.lo.2.1, hu.lo.2.2⟩⟩)
  have HB := Aside0.mk (hba.trans hb)
  clear hba hbb hu hh hb
  go_wp2_with fail
  go_ret2
  exact ⟨_, h, by simp, HU.out, HB.out⟩
end Go.Proofs.YtknanbnjbilciaaGreatDoor.P
namespace Go.Proofs.YtknanbnjbilciaaGreatDoor.P
open Go.RowKit Go.Proofs.YtknanbnjbilciaaGreatDoorW.PrintWords Go.Proofs.YtknanbnjbilciaaGreatDoorW.PrintLast Go.Proofs.YtknanbnjbilciaaGreatDoorW.PrintMore
-- YtknanbnjbilciaaGreatDoorP96
section
attribute [local go_sem] max2_int min2_int max_two min_two max_three min_three max_four min_four
set_option linter.unusedVariables false
set_option linter.unusedSimpArgs false

/-! ### pattern_Stream: function 87 -/
def pattern_Stream.f (a0 : Int) (a1 : Int) : Option (Int × Int) := (pattern_one.f a0 a1).bind fun t257 => (if t257 = true then (some (Int.tmod (wrap64 (a0 + (Int.tmod a1 4))) 4, 0)) else (some (0, 1)))
set_option maxHeartbeats 8000000 in
set_option maxRecDepth 100000 in
theorem pattern_Stream.calls (a0 : Int) (a1 : Int) (r1 : Int) (r2 : Int) (w : World) (h : pattern_Stream.f a0 a1 = some (r1, r2)) :
    Calls Tryz.prog 87 #[.int .i64 a0, .int .i64 a1] w fun e w' => e = .returned (.tuple #[.int .i64 r1, .int .i64 r2]) ∧ Drawn0 w w' := by
  have H : ((pattern_one.f a0 a1).bind fun t257 => (if t257 = true then (some (Int.tmod (wrap64 (a0 + (Int.tmod a1 4))) 4, 0)) else (some (0, 1)))) = some (r1, r2) := h
  clear h
  replace H := Option.bind_eq_some_iff.mp H
  obtain ⟨t257, A30, H⟩ := H
  replace H : (if t257 = true then (some (Int.tmod (wrap64 (a0 + (Int.tmod a1 4))) 4, 0)) else (some (0, 1))) = some (r1, r2) := H
  have A3 := Aside0.mk A30
  clear A30
  by_cases c4 : t257 = true
  · subst c4
    have H1 : (some (Int.tmod (wrap64 (a0 + (Int.tmod a1 4))) 4, 0)) = some (r1, r2) := by rw [if_pos rfl] at H; exact H
    clear H
    have H := H1
    clear H1
    simp only [Option.some.injEq, Prod.mk.injEq] at H
    obtain ⟨rfl, rfl⟩ := H
    go_enter Tryz.func87, Tryz.ntmps87
    go_wp2_with (first | ((with_reducible refine gate_callee (f := 86) rfl ?_); refine goesL_ (some 8) rfl rfl Tryz.func86 (by kernel_rfl) rfl #[.int .i64 a0, .int .i64 a1] rfl (by (try simp only [List.map_toArray, List.map_cons, List.map_nil]); first | done | rfl | (simp only [List.length_drop, List.length_take]; rfl)) ?_; (with_reducible refine (pattern_one.calls a0 a1 true _ A3.out).mono ?_); rintro e w' ⟨rfl, ⟨nd, rfl⟩⟩; refine ⟨_, rfl, ?_⟩))
    go_ret2
    exact ⟨by first | rfl | (simp; done) | (simp [*]; done), by repeat (first | exact Drawn0.refl _ | apply Drawn0.step)⟩
  · replace c4 := Bool.eq_false_iff.mpr c4
    subst c4
    have H1 : (some (0, 1)) = some (r1, r2) := by rw [if_neg (show ¬ (false = true) by decide)] at H; exact H
    clear H
    have H := H1
    clear H1
    simp only [Option.some.injEq, Prod.mk.injEq] at H
    obtain ⟨rfl, rfl⟩ := H
    go_enter Tryz.func87, Tryz.ntmps87
    go_wp2_with (first | ((with_reducible refine gate_callee (f := 86) rfl ?_); refine goesL_ (some 8) rfl rfl Tryz.func86 (by kernel_rfl) rfl #[.int .i64 a0, .int .i64 a1] rfl (by (try simp only [List.map_toArray, List.map_cons, List.map_nil]); first | done | rfl | (simp only [List.length_drop, List.length_take]; rfl)) ?_; (with_reducible refine (pattern_one.calls a0 a1 false _ A3.out).mono ?_); rintro e w' ⟨rfl, ⟨nd, rfl⟩⟩; refine ⟨_, rfl, ?_⟩))
    go_ret2
    exact ⟨by first | rfl | (simp; done) | (simp [*]; done), by repeat (first | exact Drawn0.refl _ | apply Drawn0.step)⟩
end
-- YtknanbnjbilciaaGreatDoorP97
section
attribute [local go_sem] max2_int min2_int max_two min_two max_three min_three max_four min_four
set_option linter.unusedVariables false
set_option linter.unusedSimpArgs false

/-! ### pattern_Places: function 57 -/
mutual
def pattern_Places.j0 : Nat → Int → Int → Bool → Option (List Int × Int)
  | 0, _, _, _ => none
  | k + 1, x0, x1, x17 => if x17 = true then (some (([] : List Int), 1)) else (pattern_Places.l0 k x0 ([] : List Int) x1 0)
def pattern_Places.l0 : Nat → Int → List Int → Int → Int → Option (List Int × Int)
  | 0, _, _, _, _ => none
  | k + 1, x0, x6, x18, x19 => if x19 < x18 then ((pattern_Stream.f x0 x19).bind fun bt259 => (if bt259.2 = 0 then (if x6.length < 17592186044416 then (pattern_Places.l0 k x0 (x6 ++ [wrap64 ((wrap64 (4 * x19)) + bt259.1)]) x18 (wrap64 (x19 + 1))) else (none)) else (some (([] : List Int), bt259.2)))) else (some (x6, 0))
end
def pattern_Places.f (k : Nat) (a0 : Int) (a1 : Int) : Option (List Int × Int) := (pattern_one.f a0 a1).bind fun t258 => (if t258 = true then (pattern_Places.j0 k a0 a1 (decide (a1 > 16384))) else (pattern_Places.j0 k a0 a1 true))
theorem pattern_Places.mono_l : ∀ k, (∀ y0 y1 y2, LeO (pattern_Places.j0 k y0 y1 y2) (pattern_Places.j0 (k + 1) y0 y1 y2)) ∧ (∀ y0 y1 y2 y3, LeO (pattern_Places.l0 k y0 y1 y2 y3) (pattern_Places.l0 (k + 1) y0 y1 y2 y3))
  | 0 => ⟨fun _ _ _ r h => by simp [pattern_Places.j0] at h, fun _ _ _ _ r h => by simp [pattern_Places.l0] at h⟩
  | k + 1 => by
    obtain ⟨ih0, ih1⟩ := pattern_Places.mono_l k
    refine ⟨?_, ?_⟩
    · intro y0 y1 y2
      unfold pattern_Places.j0
      repeat' first
      | (with_reducible exact ih0 _ _ _)
      | (with_reducible exact ih1 _ _ _ _)
      | (with_reducible exact LeO.refl _)
      | (with_reducible exact LeO.none _)
      | (with_reducible refine LeO.ite ?_ ?_)
      | (with_reducible refine LeO.bind ?_ (fun _ => ?_))
      | exact ih0 _ _ _
      | exact ih1 _ _ _ _
      | exact LeO.none _
      | refine LeO.ite ?_ ?_
      | refine LeO.bind ?_ (fun _ => ?_)
    · intro y0 y1 y2 y3
      unfold pattern_Places.l0
      repeat' first
      | (with_reducible exact ih0 _ _ _)
      | (with_reducible exact ih1 _ _ _ _)
      | (with_reducible exact LeO.refl _)
      | (with_reducible exact LeO.none _)
      | (with_reducible refine LeO.ite ?_ ?_)
      | (with_reducible refine LeO.bind ?_ (fun _ => ?_))
      | exact ih0 _ _ _
      | exact ih1 _ _ _ _
      | exact LeO.none _
      | refine LeO.ite ?_ ?_
      | refine LeO.bind ?_ (fun _ => ?_)
theorem pattern_Places.mono : ∀ a0 a1 k, LeO (pattern_Places.f k a0 a1) (pattern_Places.f (k + 1) a0 a1) := by
  intro a0 a1 k
  obtain ⟨ih0, ih1⟩ := pattern_Places.mono_l k
  unfold pattern_Places.f
  repeat' first
      | (with_reducible exact ih0 _ _ _)
      | (with_reducible exact ih1 _ _ _ _)
      | (with_reducible exact LeO.refl _)
      | (with_reducible exact LeO.none _)
      | (with_reducible refine LeO.ite ?_ ?_)
      | (with_reducible refine LeO.bind ?_ (fun _ => ?_))
      | exact ih0 _ _ _
      | exact ih1 _ _ _ _
      | exact LeO.none _
      | refine LeO.ite ?_ ?_
      | refine LeO.bind ?_ (fun _ => ?_)
set_option maxHeartbeats 8000000 in
set_option maxRecDepth 100000 in
theorem pattern_Places.calls (k : Nat) (a0 : Int) (a1 : Int) (r1 : List Int) (r2 : Int) (w : World) (h : pattern_Places.f k a0 a1 = some (r1, r2)) :
    Calls Tryz.prog 57 #[.int .i64 a0, .int .i64 a1] w fun e w' => ∃ v0_ : Value, e = .returned (.tuple #[v0_, .int .i64 r2]) ∧ Kd.R (Kd.int .i64) 3 w' w.heap.size (fun _ => True) v0_ r1 ∧ Below w.heap.size w w' := by
  have HB := Aside0.mk (Below.refl w.heap.size w)
  have H : ((pattern_one.f a0 a1).bind fun t258 => (if t258 = true then (pattern_Places.j0 k a0 a1 (decide (a1 > 16384))) else (pattern_Places.j0 k a0 a1 true))) = some (r1, r2) := h
  clear h
  have HC3 := Aside0.mk H
  clear H
  go_enter Tryz.func57, Tryz.ntmps57
  go_upto_region 1 with (fail)
  go_cut [17] (fun v17 wc => ∃ (kq : Nat) (x17_2 : Bool), v17 = .bool x17_2 ∧ Aside0 (pattern_Places.j0 kq a0 a1 x17_2 = some (r1, r2)) ∧ Aside0 (kq ≤ k) ∧ Aside0 (Below w.heap.size w wc))
  case first =>
    have H := HC3.out
    clear HC3
    replace H := Option.bind_eq_some_iff.mp H
    obtain ⟨t258, A40, H⟩ := H
    replace H : (if t258 = true then (pattern_Places.j0 k a0 a1 (decide (a1 > 16384))) else (pattern_Places.j0 k a0 a1 true)) = some (r1, r2) := H
    have A4 := Aside0.mk A40
    clear A40
    by_cases c5 : t258 = true
    · subst c5
      have H1 : (pattern_Places.j0 k a0 a1 (decide (a1 > 16384))) = some (r1, r2) := by rw [if_pos rfl] at H; exact H
      clear H
      have H := H1
      clear H1
      have H' := Aside0.mk H
      clear H
      go_wp2_with (first | ((with_reducible refine gate_callee (f := 86) rfl ?_); refine goesL_ (some 12) rfl rfl Tryz.func86 (by kernel_rfl) rfl #[.int .i64 a0, .int .i64 a1] rfl (by (try simp only [List.map_toArray, List.map_cons, List.map_nil]); first | done | rfl | (simp only [List.length_drop, List.length_take]; rfl)) ?_; (with_reducible refine (pattern_one.calls a0 a1 true _ A4.out).mono ?_); rintro e w' ⟨rfl, ⟨nd, rfl⟩⟩; refine ⟨_, rfl, ?_⟩))
      go_meet
      case rel => exact ⟨_, (decide (a1 > 16384)), (by first | rfl | (simp; done) | (simp [*]; done)), H', ⟨by first | omega | exact Nat.le_refl _⟩, ⟨by repeat (first | (with_reducible first | exact HB.out | apply below_alloc | apply pw_below_drewN | apply below_drew1) | exact HB.out)⟩⟩
    · replace c5 := Bool.eq_false_iff.mpr c5
      subst c5
      have H1 : (pattern_Places.j0 k a0 a1 true) = some (r1, r2) := by rw [if_neg (show ¬ (false = true) by decide)] at H; exact H
      clear H
      have H := H1
      clear H1
      have H' := Aside0.mk H
      clear H
      go_wp2_with (first | ((with_reducible refine gate_callee (f := 86) rfl ?_); refine goesL_ (some 12) rfl rfl Tryz.func86 (by kernel_rfl) rfl #[.int .i64 a0, .int .i64 a1] rfl (by (try simp only [List.map_toArray, List.map_cons, List.map_nil]); first | done | rfl | (simp only [List.length_drop, List.length_take]; rfl)) ?_; (with_reducible refine (pattern_one.calls a0 a1 false _ A4.out).mono ?_); rintro e w' ⟨rfl, ⟨nd, rfl⟩⟩; refine ⟨_, rfl, ?_⟩))
      go_meet
      case rel => exact ⟨_, (true), (by first | rfl | (simp; done) | (simp [*]; done)), H', ⟨by first | omega | exact Nat.le_refl _⟩, ⟨by repeat (first | (with_reducible first | exact HB.out | apply below_alloc | apply pw_below_drewN | apply below_drew1) | exact HB.out)⟩⟩
  case rest =>
    clear HC3
    try clear p2
    try clear c5
    obtain ⟨kq, x17_2, rfl, HA, HJ2, HB⟩ := hcut
    cases kq with
    | zero => exact absurd HA.out (by simp [pattern_Places.j0])
    | succ kj2 =>
      have H := HA.out
      clear HA
      simp only [pattern_Places.j0] at H
      by_cases c6 : x17_2 = true
      · subst c6
        have H1 : (some (([] : List Int), 1)) = some (r1, r2) := by rw [if_pos rfl] at H; exact H
        clear H
        have H := H1
        clear H1
        simp only [Option.some.injEq, Prod.mk.injEq] at H
        obtain ⟨rfl, rfl⟩ := H
        go_wp2
        go_ret2
        exact ⟨_, by first | rfl | (simp [errW_none, errW_some] <;> rfl) | (simp [*, errW_none, errW_some] <;> rfl), by first | exact Kd.R_nil _ _ _ _ _ | exact Kd.N_nil _ _ _ _ _ | exact Kd.V_nil _ _ _ _ _ | exact Kd.Q_nil _ _ _ _ _ | exact Kd.S_nil _ _ _ _ _, by repeat (first | (with_reducible first | exact HB.out | apply below_alloc | apply pw_below_drewN | apply below_drew1) | exact HB.out)⟩
      · replace c6 := Bool.eq_false_iff.mpr c6
        subst c6
        have H1 : (pattern_Places.l0 kj2 a0 ([] : List Int) a1 0) = some (r1, r2) := by rw [if_neg (show ¬ (false = true) by decide)] at H; exact H
        clear H
        have H := H1
        clear H1
        have H' := Aside0.mk H
        clear H
        go_wp2
        go_loopg [6, 19] kj2 (fun kq v6 v19 w' => ∃ (x6_2 : List Int) (x19_2 : Int), v19 = .int .i64 x19_2 ∧ Aside0 (pattern_Places.l0 kq a0 x6_2 a1 x19_2 = some (r1, r2)) ∧ Aside0 (kq ≤ kj2) ∧ Aside0 (Kd.R (Kd.int .i64) 3 w' w.heap.size (fun _ => True) v6 x6_2) ∧ Aside0 (Below w.heap.size w w'))
        case atStart => exact ⟨(([] : List Int)), (0), (by first | rfl | (simp; done) | (simp [*]; done)), H', ⟨Nat.le_refl _⟩, ⟨by first | exact Kd.R_nil _ _ _ _ _ | exact Kd.N_nil _ _ _ _ _ | exact Kd.V_nil _ _ _ _ _ | exact Kd.Q_nil _ _ _ _ _ | exact Kd.S_nil _ _ _ _ _⟩, ⟨by repeat (first | (with_reducible first | exact HB.out | apply below_alloc | apply pw_below_drewN | apply below_drew1) | exact HB.out)⟩⟩
        case round =>
          clear H'
          try clear p2
          try clear c5
          try clear c6
          try clear p2
          obtain ⟨x6_2, x19_2, rfl, HA, HK2, HO_6, HB⟩ := hrel
          cases gk with
          | zero => exact absurd HA.out (by simp [pattern_Places.l0])
          | succ k2 =>
            have H := HA.out
            clear HA
            simp only [pattern_Places.l0] at H
            by_cases c7 : x19_2 < a1
            · rw [if_pos c7] at H
              have c7b0 : decide (x19_2 < a1) = true := decide_eq_true c7
              clear c7
              replace H := Option.bind_eq_some_iff.mp H
              obtain ⟨⟨t259, t260⟩, A80, H⟩ := H
              replace H : (if t260 = 0 then (if x6_2.length < 17592186044416 then (pattern_Places.l0 k2 a0 (x6_2 ++ [wrap64 ((wrap64 (4 * x19_2)) + t259)]) a1 (wrap64 (x19_2 + 1))) else (none)) else (some (([] : List Int), t260))) = some (r1, r2) := H
              have A8 := Aside0.mk A80
              clear A80
              by_cases c9 : t260 = 0
              · rw [if_pos c9] at H
                have c9b0 : (t260 == 0) = true := beq_iff_eq.mpr c9
                have c9b1 : (t260 != 0) = false := bne_eq_false_iff_eq.mpr c9
                clear c9
                by_cases c10 : x6_2.length < 17592186044416
                · rw [if_pos c10] at H
                  have LMc10 := Aside0.mk c10
                  clear c10
                  obtain ⟨y261, hy261⟩ : ∃ y_ : List Int, y_ = (x6_2 ++ [wrap64 ((wrap64 (4 * x19_2)) + t259)]) := ⟨_, rfl⟩
                  replace H : (pattern_Places.l0 k2 a0 y261 a1 (wrap64 (x19_2 + 1))) = some (r1, r2) := by first | (rw [hy261]; with_reducible exact H) | (have H2_ := (Option.bind_some _ _).symm.trans H; rw [hy261]; with_reducible exact H2_) | (have H2_ := (Option.bind_some _ _).symm.trans H; with_reducible exact H2_) | with_reducible exact H | (rw [hy261]; exact H) | exact H
                  have Ny261 := Aside0.mk hy261
                  clear hy261
                  have H' := Aside0.mk H
                  clear H
                  go_wp2_with (first | ((with_reducible refine gate_callee (f := 87) rfl ?_); refine goesL_ (some 25) rfl rfl Tryz.func87 (by kernel_rfl) rfl #[.int .i64 a0, .int .i64 x19_2] rfl (by (try simp only [List.map_toArray, List.map_cons, List.map_nil]); first | done | rfl | (simp only [List.length_drop, List.length_take]; rfl)) ?_; (with_reducible refine (pattern_Stream.calls a0 x19_2 t259 t260 _ A8.out).mono ?_); rintro e w' ⟨rfl, ⟨nd, rfl⟩⟩; refine ⟨_, rfl, ?_⟩) | ((with_reducible refine gate_builtin (b := .append) (xs := #[.tmp 31, .tmp 36]) rfl ?_); at_builtin; refine Kd.R_append (Kd.int .i64) (w0 := w) w.heap.size rfl (.tmp 31) (.tmp 36) 23 3 (.int .i64 0) 8 rfl Tryz.underlying23 info3 rfl (by decide) (by omega) u6 x6_2 (wrap64 ((wrap64 (4 * x19_2)) + t259)) [.int .i64 (wrap64 ((wrap64 (4 * x19_2)) + t259))] (fun _ => True) (fun _ => False) rfl rfl ?aP (fun _ hk => hk.elim) ?aF ?aO ?aB ?aS ?aL ?_; (case aP => exact rfl); (case aB => exact (by repeat (first | (with_reducible first | exact HB.out | apply below_alloc | apply pw_below_drewN | apply below_drew1) | exact HB.out))); (case aF => exact (fun _ _ => trivial)); (case aO => exact (by (with_reducible repeat (first | apply Kd.R_alloc | apply Kd.R_drewN | apply Kd.R_drew)); exact HO_6.out)); (case aS => exact (below_size (by repeat (first | (with_reducible first | exact HB.out | apply below_alloc | apply pw_below_drewN | apply below_drew1) | exact HB.out)))); (case aL => have := LMc10.out; omega); intro v262 w11 ho hb hg hat; rw [← Ny261.out] at ho; have n0_ := Aside0.mk (hb); have n1_ := Aside0.mk (ho); clear HB; clear HO_6; have HB := n0_; have HO263 := n1_; clear n0_ n1_; clear ho hb hg hat))
                  go_roundg k2
                  case measure => have := HJ2.out; have := HK2.out; omega
                  case rel => exact ⟨(y261), (wrap64 (x19_2 + 1)), (by first | rfl | (simp; done) | (simp [*]; done)), H', ⟨by have := HJ2.out; have := HK2.out; omega⟩, ⟨by (with_reducible repeat (first | apply Kd.R_alloc | apply Kd.R_drewN | apply Kd.R_drew)); exact HO263.out⟩, ⟨by repeat (first | (with_reducible first | exact HB.out | apply below_alloc | apply pw_below_drewN | apply below_drew1) | exact HB.out)⟩⟩
                · rw [if_neg c10] at H
                  exact absurd H (by simp)
              · rw [if_neg c9] at H
                have c9b0 : (t260 == 0) = false := beq_eq_false_iff_ne.mpr c9
                have c9b1 : (t260 != 0) = true := bne_iff_ne.mpr c9
                simp only [Option.some.injEq, Prod.mk.injEq] at H
                obtain ⟨rfl, rfl⟩ := H
                go_wp2_with (first | ((with_reducible refine gate_callee (f := 87) rfl ?_); refine goesL_ (some 25) rfl rfl Tryz.func87 (by kernel_rfl) rfl #[.int .i64 a0, .int .i64 x19_2] rfl (by (try simp only [List.map_toArray, List.map_cons, List.map_nil]); first | done | rfl | (simp only [List.length_drop, List.length_take]; rfl)) ?_; (with_reducible refine (pattern_Stream.calls a0 x19_2 t259 t260 _ A8.out).mono ?_); rintro e w' ⟨rfl, ⟨nd, rfl⟩⟩; refine ⟨_, rfl, ?_⟩))
                go_ret2
                exact ⟨_, by first | rfl | (simp [errW_none, errW_some] <;> rfl) | (simp [*, errW_none, errW_some] <;> rfl), by first | exact Kd.R_nil _ _ _ _ _ | exact Kd.N_nil _ _ _ _ _ | exact Kd.V_nil _ _ _ _ _ | exact Kd.Q_nil _ _ _ _ _ | exact Kd.S_nil _ _ _ _ _, by repeat (first | (with_reducible first | exact HB.out | apply below_alloc | apply pw_below_drewN | apply below_drew1) | exact HB.out)⟩
            · rw [if_neg c7] at H
              have c7b0 : decide (x19_2 < a1) = false := decide_eq_false c7
              clear c7
              simp only [Option.some.injEq, Prod.mk.injEq] at H
              obtain ⟨rfl, rfl⟩ := H
              go_wp2
              go_ret2
              exact ⟨_, by first | rfl | (simp [errW_none, errW_some] <;> rfl) | (simp [*, errW_none, errW_some] <;> rfl), by (with_reducible repeat (first | apply Kd.R_alloc | apply Kd.R_drewN | apply Kd.R_drew)); exact HO_6.out, by repeat (first | (with_reducible first | exact HB.out | apply below_alloc | apply pw_below_drewN | apply below_drew1) | exact HB.out)⟩
end
-- YtknanbnjbilciaaGreatDoorP99
section
attribute [local go_sem] max2_int min2_int max_two min_two max_three min_three max_four min_four
set_option linter.unusedVariables false
set_option linter.unusedSimpArgs false

/-! ### soft_Add: function 58 -/
def soft_Add.f (a0 : Int) (a1 : Int) : Option (Int) := (soft_Clip.f a0).bind fun t264 => ((soft_Clip.f a1).bind fun t265 => ((soft_Clip.f (wrap64 (t264 + t265))).bind fun t266 => (some t266)))
set_option maxHeartbeats 8000000 in
set_option maxRecDepth 100000 in
theorem soft_Add.calls (a0 : Int) (a1 : Int) (r : Int) (w : World) (h : soft_Add.f a0 a1 = some r) :
    Calls Tryz.prog 58 #[.int .i64 a0, .int .i64 a1] w fun e w' => e = .returned (.int .i64 r) ∧ Drawn0 w w' := by
  have H : ((soft_Clip.f a0).bind fun t264 => ((soft_Clip.f a1).bind fun t265 => ((soft_Clip.f (wrap64 (t264 + t265))).bind fun t266 => (some t266)))) = some r := h
  clear h
  replace H := Option.bind_eq_some_iff.mp H
  obtain ⟨t264, A30, H⟩ := H
  replace H : ((soft_Clip.f a1).bind fun t265 => ((soft_Clip.f (wrap64 (t264 + t265))).bind fun t266 => (some t266))) = some r := H
  have A3 := Aside0.mk A30
  clear A30
  replace H := Option.bind_eq_some_iff.mp H
  obtain ⟨t265, A40, H⟩ := H
  replace H : ((soft_Clip.f (wrap64 (t264 + t265))).bind fun t266 => (some t266)) = some r := H
  have A4 := Aside0.mk A40
  clear A40
  replace H := Option.bind_eq_some_iff.mp H
  obtain ⟨t266, A50, H⟩ := H
  replace H : (some t266) = some r := H
  have A5 := Aside0.mk A50
  clear A50
  obtain rfl := Option.some.inj H
  go_enter Tryz.func58, Tryz.ntmps58
  go_wp2_with (first | ((with_reducible refine gate_callee (f := 88) rfl ?_); refine goesL_ (some 6) rfl rfl Tryz.func88 (by kernel_rfl) rfl #[.int .i64 a0] rfl (by (try simp only [List.map_toArray, List.map_cons, List.map_nil]); first | done | rfl | (simp only [List.length_drop, List.length_take]; rfl)) ?_; (with_reducible refine (soft_Clip.calls a0 t264 _ A3.out).mono ?_); rintro e w' ⟨rfl, ⟨nd, rfl⟩⟩; refine ⟨_, rfl, ?_⟩) | ((with_reducible refine gate_callee (f := 88) rfl ?_); refine goesL_ (some 8) rfl rfl Tryz.func88 (by kernel_rfl) rfl #[.int .i64 a1] rfl (by (try simp only [List.map_toArray, List.map_cons, List.map_nil]); first | done | rfl | (simp only [List.length_drop, List.length_take]; rfl)) ?_; (with_reducible refine (soft_Clip.calls a1 t265 _ A4.out).mono ?_); rintro e w' ⟨rfl, ⟨nd, rfl⟩⟩; refine ⟨_, rfl, ?_⟩) | ((with_reducible refine gate_callee (f := 88) rfl ?_); refine goesL_ (some 10) rfl rfl Tryz.func88 (by kernel_rfl) rfl #[.int .i64 (wrap64 (t264 + t265))] rfl (by (try simp only [List.map_toArray, List.map_cons, List.map_nil]); first | done | rfl | (simp only [List.length_drop, List.length_take]; rfl)) ?_; (with_reducible refine (soft_Clip.calls (wrap64 (t264 + t265)) t266 _ A5.out).mono ?_); rintro e w' ⟨rfl, ⟨nd, rfl⟩⟩; refine ⟨_, rfl, ?_⟩))
  go_ret
  exact ⟨by first | rfl | (simp; done) | (simp [*]; done), by repeat (first | exact Drawn0.refl _ | apply Drawn0.step)⟩
end
end Go.Proofs.YtknanbnjbilciaaGreatDoor.P
namespace Go.Proofs.YtknanbnjbilciaaGreatDoor.P
open Go Go.Proofs Go.RowKit Go.Proofs.YtknanbnjbilciaaGreatDoorW.PrintWords Go.Proofs.YtknanbnjbilciaaGreatDoorW.PrintLast Go.Proofs.YtknanbnjbilciaaGreatDoorW.PrintMore
set_option linter.unusedVariables false
set_option linter.unusedSimpArgs false
-- YtknanbnjbilciaaGreatDoorPCAdd
/-- Where a version's bit of a step stands. -/
def plc (v t : Nat) : Nat := 4 * t + (v + t % 4) % 4
def plL (v m : Nat) : List Int := (List.range m).map fun t => (plc v t : Int)
theorem plL_len (v m : Nat) : (plL v m).length = m := by simp [plL]
theorem plL_succ (v m : Nat) : plL v (m + 1) = plL v m ++ [(plc v m : Int)] := by unfold plL; rw [List.range_succ, List.map_append]; rfl
theorem plL_get (v m t : Nat) (h : t < m) : (plL v m).getD t 0 = (plc v t : Int) := by
  unfold plL
  rw [List.getD_eq_getElem?_getD, List.getElem?_map, List.getElem?_range h]; rfl
theorem one_f (v t : Nat) (hv : v < 4) : pattern_one.f (v : Int) (t : Int) = some true := by
  unfold pattern_one.f
  have h1 : (decide ((v : Int) ≥ 0)) = true := decide_eq_true (by omega)
  have h2 : (decide ((v : Int) < 4)) = true := decide_eq_true (by omega)
  have h3 : (decide ((t : Int) ≥ 0)) = true := decide_eq_true (by omega)
  simp [h1, h2, h3]
  omega
theorem stream_f (v t : Nat) (hv : v < 4) (ht : t ≤ 1000) : pattern_Stream.f (v : Int) (t : Int) = some ((((v + t % 4) % 4 : Nat) : Int), 0) := by
  unfold pattern_Stream.f
  rw [one_f v t hv, Option.bind_some, if_pos rfl]
  refine congrArg some (Prod.ext ?_ rfl)
  show Int.tmod (wrap64 ((v : Int) + Int.tmod (t : Int) 4)) 4 = _
  have h4 : Int.tmod (t : Int) 4 = ((t % 4 : Nat) : Int) := by rw [Int.tmod_eq_emod_of_nonneg (by omega)]; omega
  rw [h4, wrap_in (by omega) (by omega), Int.tmod_eq_emod_of_nonneg (by omega)]
  omega
theorem places_l0 (v m : Nat) (hv : v < 4) (hm : m ≤ 1000) (d : Nat) : ∀ k i : Nat, i + d = m → d < k → pattern_Places.l0 k (v : Int) (plL v i) (m : Int) (i : Int) = some (plL v m, 0) := by
  induction d with
  | zero =>
    intro k i hi hk
    obtain ⟨k, rfl⟩ := pred hk
    obtain rfl : i = m := by omega
    rw [pattern_Places.l0.eq_2, if_neg (by omega)]
  | succ d ih =>
    intro k i hi hk
    obtain ⟨k, rfl⟩ := pred hk
    have hn := ih k (i + 1) (by omega) (by omega)
    have e : wrap64 (wrap64 (4 * (i : Int)) + (((v + i % 4) % 4 : Nat) : Int)) = (plc v i : Int) := by
      rw [wrap_in (n := 4 * (i : Int)) (by omega) (by omega), wrap_in (by omega) (by omega)]
      unfold plc; omega
    rw [pattern_Places.l0.eq_2, if_pos (by omega), stream_f v i hv (by omega), Option.bind_some, if_pos rfl, if_pos (by rw [plL_len]; omega), e, wrap_succ i (by omega), ← plL_succ]
    exact hn
theorem places_f (v m : Nat) (hv : v < 4) (hm : m ≤ 1000) : pattern_Places.f 2000 (v : Int) (m : Int) = some (plL v m, 0) := by
  unfold pattern_Places.f
  rw [one_f v m hv, Option.bind_some, if_pos rfl, pattern_Places.j0.eq_2, if_neg (by rw [decide_eq_false (by omega)]; decide)]
  exact places_l0 v m hv hm m 1999 0 (by omega) (by omega)
theorem add_f {a s : Int} (ha : -30 ≤ a ∧ a ≤ 30) (hs : s = 1 ∨ s = -1) : soft_Add.f a s = some (a + s) := by
  unfold soft_Add.f
  rw [clip_f (by omega), Option.bind_some, clip_f (by omega), Option.bind_some, wrap_in (by omega) (by omega), clip_f (by omega)]; rfl
theorem so_pm (b : Int) : so b = 1 ∨ so b = -1 := by unfold so; split <;> simp
/-- Behind k of a version's bits. -/
def adK (σ : List Int) (v : Nat) (P : List Int) : Nat → List Int
  | 0 => σ
  | k + 1 => (adK σ v P k).set (plc v k) ((adK σ v P k).getD (plc v k) 0 + so (P.getD k 0))
theorem adK_len (σ : List Int) (v : Nat) (P : List Int) : ∀ k, (adK σ v P k).length = σ.length
  | 0 => rfl
  | k + 1 => by unfold adK; rw [List.length_set, adK_len σ v P k]
theorem adK_get (σ : List Int) (v : Nat) (P : List Int) (j : Nat) : ∀ k, 4 * k ≤ σ.length → (adK σ v P k).getD j 0 = σ.getD j 0 + (if j / 4 < k ∧ j = plc v (j / 4) then so (P.getD (j / 4) 0) else 0)
  | 0, _ => by rw [if_neg (by omega)]; show σ.getD j 0 = _; omega
  | k + 1, h => by
    have ih := adK_get σ v P j k (by omega)
    have hp : plc v k < 4 * k + 4 ∧ 4 * k ≤ plc v k := by unfold plc; omega
    have hpd : plc v k / 4 = k := by omega
    unfold adK
    rw [set_getD _ _ _ _ (by rw [adK_len]; omega)]
    by_cases e : j = plc v k
    · have ej : j / 4 = k := by rw [e]; exact hpd
      rw [if_pos e, if_pos ⟨by omega, by rw [ej]; exact e⟩]
      rw [if_neg (by omega)] at ih
      rw [← e, ih, ej]; omega
    · rw [if_neg e, ih]
      by_cases c : j / 4 < k ∧ j = plc v (j / 4)
      · rw [if_pos c, if_pos ⟨by omega, c.2⟩]
      · rw [if_neg c, if_neg (fun h => c ⟨by
          have := h.1
          by_cases q : j / 4 = k
          · exact absurd (by rw [q] at h; exact h.2) e
          · omega, h.2⟩)]
theorem BU.put {w : World} {S g h n : Nat} {σ : List Int} (b : BU w S g h n σ) (j : Nat) (x : Int) : BU (w.setCell ⟨h, j, none⟩ (.int .i64 x)) S g h n (σ.set j x) := by
  have hp := Put1.set h j w (.int .i64 x)
  obtain ⟨C, hC, r⟩ := b.box
  exact ⟨⟨C, (hp.block g b.lo.2.2).trans hC, r⟩, blk_put b.row j _ (ints_set σ j x), by rw [List.length_set]; exact b.len, b.lo⟩
theorem BU.count {w : World} {S g h n : Nat} {σ : List Int} (b : BU w S g h n σ) (v : Nat) (hv : v < 4) (x : Int) : BU (w.setCell ⟨g, 2 + v, none⟩ (.int .i64 x)) S g h n σ := by
  have hp := Put1.set g (2 + v) w (.int .i64 x)
  obtain ⟨C, hC, h1, h2, h3, h4⟩ := b.box
  refine ⟨⟨C.setIfInBounds (2 + v) (.int .i64 x), blk_put hC (2 + v) _ rfl, by simp [h1], ?_, ?_, fun u hu => ?_⟩, (hp.block h (Ne.symm b.lo.2.2)).trans b.row, b.len, b.lo⟩
  · rw [Array.getElem?_setIfInBounds, if_neg (by omega)]; exact h2
  · rw [Array.getElem?_setIfInBounds, if_neg (by omega)]; exact h3
  · rw [Array.getElem?_setIfInBounds]
    by_cases e : 2 + v = 2 + u
    · rw [if_pos e, if_pos (by omega)]; exact ⟨x, rfl⟩
    · rw [if_neg e]; exact h4 u hu
set_option maxRecDepth 100000 in
set_option maxHeartbeats 4000000 in
theorem cdecode_calls {w : World} (hT : TP w) {S g h n : Nat} {σ : List Int} (b : BU w S g h n σ) (hn : n ≤ 1000) (hσ : ∀ j, -31 ≤ σ.getD j 0 ∧ σ.getD j 0 ≤ 31) (u : List Nat) (hA : Alone (fun j => σ.getD j 0) (n + 6) n u) :
    Calls Tryz.prog 28 #[.pointer (some ⟨g, 0, none⟩)] w fun e w' => ∃ v, e = .returned (.tuple #[v, .int .i64 0]) ∧ Kd.R (Kd.int .u8) 5 w' w.heap.size (fun _ => True) v (toI (u.take n)) ∧ Below w.heap.size w w' := by
  obtain ⟨C, hC, h1, h2, h3, h4⟩ := b.box
  have hc1 := (blk_cell hC 1).trans h3
  have hK : Kd.C (Kd.int .i64) w (some ⟨h, 0, none⟩) σ.length σ := by
    refine Kd.C_of_reads (enc := Value.int .i64) (d := (0 : Int)) (h1 := fun _ => rfl) ⟨rfl, by rw [b.len]; omega, fun hp => ⟨_, rfl, fun j hj => ?_⟩⟩
    have ha : (⟨h, 0, none⟩ : Addr).add j = ⟨h, j, none⟩ := by
      unfold Addr.add; simp; intro e; exact e.symm
    rw [ha]; exact (blk_cell b.row j).trans (ints_get σ j hj)
  have HV := Aside0.mk (vdecode_calls hT hK (c := 4 * (n + 6)) (by rw [b.len]; exact Nat.le_refl _) n b.len hn hσ u hA)
  obtain ⟨M, hM⟩ : ∃ M, M = 4 * (n + 6) := ⟨_, rfl⟩
  rw [← hM] at HV hc1
  clear hC h1 h2 h3 h4 hK hA hσ hn b hM hT
  go_enter Tryz.func28, Tryz.ntmps28
  go_wp2_with (first
    | (go_at_call 61; refine HV.out.mono ?_; rintro e w1 ⟨v, sc, rfl, hv, hb⟩; have HR := Aside0.mk hv; have HB := Aside0.mk hb; clear hv hb HV)
    | fail)
  go_ret2
  exact ⟨v, by simp, HR.out, HB.out⟩
-- YtknanbnjbilciaaGreatDoorPMAdd
theorem add_block (d : Addr) (j : Nat) : (d.add j).block = d.block := by unfold Addr.add; split <;> rfl
/-- A list that lies elsewhere. -/
theorem C_put {w w' : World} {A : Option Addr} {P : List Int} {a : Nat} (h : Kd.C (Kd.int .u8) w A P.length P) (hp : Put1 a w w') (hA : ∀ d, A = some d → d.block ≠ a) : Kd.C (Kd.int .u8) w' A P.length P := by
  have r := Kd.reads_of_C (enc := Value.int .u8) (d := (0 : Int)) (h1 := fun _ => rfl) h
  refine Kd.C_of_reads (enc := Value.int .u8) (d := (0 : Int)) (h1 := fun _ => rfl) ⟨r.1, r.2.1, fun hq => ?_⟩
  obtain ⟨d, hd, hr⟩ := r.2.2 hq
  exact ⟨d, hd, fun j hj => (World.cell?_of_block (a := d.add j) (hp.block _ (by rw [add_block]; exact hA d hd))).trans (hr j hj)⟩
theorem adK_in {σ : List Int} {v : Nat} {P : List Int} (hσ : ∀ j, -29 ≤ σ.getD j 0 ∧ σ.getD j 0 ≤ 29) (t : Nat) (h : 4 * t ≤ σ.length) (j : Nat) : -30 ≤ (adK σ v P t).getD j 0 ∧ (adK σ v P t).getD j 0 ≤ 30 := by
  rw [adK_get σ v P j t h]
  have h1 := hσ j
  have h2 := so_pm (P.getD (j / 4) 0)
  split
  · omega
  · omega
/-- But for two blocks nothing that was there has turned. -/
structure Two (g h : Nat) (w w' : World) : Prop where
  os : w'.os = w.os
  tape : w'.tape = w.tape
  output : w'.output = w.output
  size : w.heap.size ≤ w'.heap.size
  block : ∀ k, k < w.heap.size → k ≠ g → k ≠ h → w'.heap[k]? = w.heap[k]?
theorem Two.of_below {g h : Nat} {w w' : World} (b : Below w.heap.size w w') : Two g h w w' := ⟨b.os, b.tape, b.output, b.size, fun k hk _ _ => b.block k hk⟩
theorem Two.put1 {g h a : Nat} {w w' : World} (p : Put1 a w w') (ha : a = g ∨ a = h) : Two g h w w' := ⟨p.os, p.tape, p.output, Nat.le_of_eq p.size.symm, fun k hk k1 k2 => p.block k (by omega)⟩
theorem Two.trans {g h : Nat} {w w1 w2 : World} (a : Two g h w w1) (b : Two g h w1 w2) : Two g h w w2 :=
  ⟨b.os.trans a.os, b.tape.trans a.tape, b.output.trans a.output, Nat.le_trans a.size b.size, fun k hk k1 k2 => (b.block k (Nat.lt_of_lt_of_le hk a.size) k1 k2).trans (a.block k hk k1 k2)⟩
theorem Two.below {g h S : Nat} {w w' : World} (a : Two g h w w') (hS : S ≤ w.heap.size) (hg : S ≤ g) (hh : S ≤ h) : Below S w w' := ⟨a.os, a.tape, a.output, a.size, fun k hk => a.block k (by omega) (by omega) (by omega)⟩
def madd13.T : Bool × List (List Nat × List Nat) := (true, [([], []), ([0], [0]), ([1], [1]), ([2], [2]), ([], []), ([], []), ([5], [5]), ([6], [6]), ([7], [7]), ([], []), ([8, 9], [8, 9]), ([10], [10]), ([], []), ([], []), ([12, 13], [12, 13]), ([14], [14]), ([15], [15]), ([11, 16, 16], [11, 16]), ([3, 4, 0, 1, 2, 3, 4, 5, 6, 7, 8, 9, 10, 11, 12, 13, 14, 15, 16, 17], [3, 4]), ([18, 17, 17, 0, 1, 2, 3, 4, 5, 6, 7, 8, 9, 10, 11, 12, 13, 14, 15, 16, 17], [17, 18])])
def madd13.B : List Nat := [0, 1, 3, 7, 0, 0, 32, 96, 224, 0, 992, 2016, 0, 0, 12288, 28672, 61440, 131040, 262143, 524287]
theorem madd13.tab : rtab .any (opsOf Tryz.f26 13) = madd13.T := by kernel_rfl
theorem madd13.bits : waitsOk madd13.T.2 madd13.B = true := by kernel_rfl
def madd15.T : Bool × List (List Nat × List Nat) := (true, [([], []), ([], []), ([0], [0]), ([2], [2]), ([3, 1], [1, 3]), ([4], [4]), ([5], [5]), ([0], [0]), ([7], [7]), ([8, 1, 0, 1, 2, 3, 4, 5, 6], [1, 8]), ([9, 6, 0, 1, 2, 3, 4, 5, 6], [6, 9])])
def madd15.B : List Nat := [0, 0, 1, 5, 15, 31, 63, 1, 129, 511, 1023]
theorem madd15.tab : rtab .any (opsOf Tryz.f26 15) = madd15.T := by kernel_rfl
theorem madd15.bits : waitsOk madd15.T.2 madd15.B = true := by kernel_rfl
set_option maxRecDepth 100000 in
set_option maxHeartbeats 8000000 in
theorem add_calls {w : World} {S g h n : Nat} {σ : List Int} (b : BU w S g h n σ) (hn : n ≤ 900) (v : Nat) (hv : v < 4) {A : Option Addr} {P : List Int} {c : Nat} (hP : Kd.C (Kd.int .u8) w A P.length P) (hc : P.length ≤ c) (hPl : P.length = n + 6) (hPb : ∀ x ∈ P, isb x)
    (hA : ∀ d, A = some d → d.block ≠ g ∧ d.block ≠ h) (hσ : ∀ j, -29 ≤ σ.getD j 0 ∧ σ.getD j 0 ≤ 29) :
    Calls Tryz.prog 26 #[.pointer (some ⟨g, 0, none⟩), .int .i64 (v : Int), .slice A (n + 6) c] w fun e w' => e = .returned (.int .i64 0) ∧ BU w' S g h n (adK σ v P (n + 6)) ∧ Two g h w w' := by
  obtain ⟨m, hm⟩ : ∃ m, m = n + 6 := ⟨_, rfl⟩
  have hcN : m ≤ c := by omega
  have hmb : (m : Int) ≤ 906 := by omega
  have hm0 : (0 : Int) < (m : Int) := by omega
  have hv0 : (0 : Int) ≤ (v : Int) := by omega
  have hv4 : (v : Int) < 4 := by omega
  obtain ⟨C0, hC0, k1, k2, k3, k4⟩ := b.box
  have hg0 := (blk_cell hC0 0).trans k2
  have HRT := Aside0.mk (bits_Right.calls 2000 A c P true w hP hc (by
    rw [right_f P (by omega) 2000 (by omega), (big_isb (fun x hx => (isb01 (hPb x hx)).1)).2 hPb]; rfl))
  have HBN := Aside0.mk (fun w => version_Bits.calls (n : Int) _ w (bits_n n (by omega)))
  have HPL := Aside0.mk (fun w => pattern_Places.calls 2000 (v : Int) (m : Int) _ _ w (places_f v m hv (by omega)))
  have HB := Aside0.mk b
  have HP := Aside0.mk hP
  have HL := Aside0.mk (And.intro hm (And.intro hPl (And.intro hPb (And.intro hA (And.intro hσ (And.intro hv hn))))))
  rw [hPl, ← hm] at HRT
  rw [← hm] at HBN ⊢
  clear hC0 k1 k2 k3 k4 hm hPl hPb hA hσ hv hn b hP hc
  go_enter Tryz.func26, Tryz.ntmps26
  go_wp2_with (first
    | (go_at_call 35; refine Aside0.out ?_)
    | fail)
  refine Aside0.mk ?_
  refine HRT.out.mono ?_
  rintro e w1 ⟨rfl, hd⟩
  have HB1 := Aside0.mk (hd.below)
  have hg1 := ((hd.below.cell (p := ⟨g, 0, none⟩) (blk_lt HB.out.box.choose_spec.1)).trans hg0)
  clear hd HRT hg0
  go_wp2_with (first
    | (go_at_call 56; refine Aside0.out ?_)
    | fail)
  refine Aside0.mk ?_
  refine (HBN.out w1).mono ?_
  rintro e w2 ⟨rfl, hd⟩
  have HB2 := Aside0.mk (below_step HB1.out hd.below)
  clear hd HBN hg1 HB1
  go_wp2_with (first
    | (go_at_call 57; refine Aside0.out ?_)
    | fail)
  refine Aside0.mk ?_
  refine (HPL.out w2).mono ?_
  rintro e w3 ⟨v7, rfl, hv7, hb⟩
  have hb7 := Kd.R_mono (Kd.R_bound hv7) (ok' := fun k => w2.heap.size ≤ k) (fun k ok => ok.2.1)
  obtain ⟨A7, c7, rfl⟩ := Kd.R_slice hv7
  have hpl := plL_len v m
  obtain ⟨Q, hQ⟩ : ∃ Q, Q = plL v m := ⟨_, rfl⟩
  rw [← hQ] at hb7 hpl
  rw [← hQ, hpl]
  rw [hpl] at hb7
  have HQ := Aside0.mk (And.intro hQ hpl)
  have HR7 := Aside0.mk hb7
  have HB3 := Aside0.mk (below_step HB2.out hb)
  have HW2 := Aside0.mk HB2.out.size
  clear hv7 hb7 hb hpl hQ HPL HB2
  have HBU := Aside0.mk (HB.out.below HB3.out)
  have HP3 := Aside0.mk (Kd.C_below HP.out HB3.out)
  have HS := Aside0.mk (show S ≤ w.heap.size from Nat.le_of_lt (Nat.lt_of_le_of_lt HB.out.lo.1 (blk_lt HB.out.box.choose_spec.1)))
  have HGH := Aside0.mk (show g < w2.heap.size ∧ h < w2.heap.size from ⟨Nat.lt_of_lt_of_le (blk_lt HB.out.box.choose_spec.1) HW2.out, Nat.lt_of_lt_of_le (blk_lt HB.out.row) HW2.out⟩)
  have HBS := Aside0.mk (Two.of_below (g := g) (h := h) HB3.out)
  clear HB3
  go_wp2_with fail
  go_loopw [47] (fun v47 wr => ∃ t : Nat, v47 = .int .i64 (t : Int) ∧ t ≤ m ∧ Aside0 (BU wr S g h n (adK σ v P t)) ∧ Aside0 (Kd.C (Kd.int .u8) wr A P.length P) ∧ Aside0 (Kd.R (Kd.int .i64) 3 wr w2.heap.size (fun k => w2.heap.size ≤ k) (.slice A7 m c7) Q) ∧ Aside0 (Two g h w wr)) (fun v47 _ => m - (intOf v47).toNat)
  case atStart => exact ⟨0, by simp, by omega, HBU, HP3, HR7, HBS⟩
  case round =>
    clear HBU HP3 HR7 HBS
    obtain ⟨t, rfl, ht, HBU, HPC, HR, HBS⟩ := hrel
    by_cases hlt : t < m
    · have HLT := Aside0.mk hlt
      have htm : (t : Int) < (m : Int) := by omega
      have ht0 : (0 : Int) ≤ (t : Int) := by omega
      have htb : (t : Int) ≤ 905 := by omega
      obtain ⟨a7, rfl, hcx0⟩ := ReadsOf.at_ (Kd.reads_of_C (enc := Value.int .i64) (d := (0 : Int)) (h1 := fun _ => rfl) (Kd.R_reads' HR.out).2.2) (t : Int) ht0 (by rw [HQ.out.2]; exact htm)
      obtain ⟨aP, rfl, hcp0⟩ := ReadsOf.at_ (Kd.reads_of_C (enc := Value.int .u8) (d := (0 : Int)) (h1 := fun _ => rfl) HPC.out) (t : Int) ht0 (by rw [HL.out.2.1, ← HL.out.1]; exact htm)
      rw [Int.toNat_natCast] at hcx0 hcp0
      obtain ⟨q, hq⟩ : ∃ q, q = plc v t := ⟨_, rfl⟩
      obtain ⟨M, hM⟩ : ∃ M, M = 4 * (n + 6) := ⟨_, rfl⟩
      have hqM : (q : Int) < (M : Int) := by have := HL.out.1; have := HLT.out; unfold plc at hq; omega
      have hq0 : (0 : Int) ≤ (q : Int) := by omega
      have hMb : (M : Int) ≤ 4000 := by have := HL.out.1; omega
      have hcx : wr.cell? (a7.add t) = some (.int .i64 (q : Int)) := by
        have e : rdOf 0 Q (t : Int) = (q : Int) := by rw [hq, HQ.out.1]; exact plL_get v m t hlt
        rw [e] at hcx0; exact hcx0
      obtain ⟨u, hu⟩ : ∃ u, u = P.getD t 0 := ⟨_, rfl⟩
      have hcp : wr.cell? (aP.add t) = some (.int .u8 u) := by
        have e : rdOf 0 P (t : Int) = u := by rw [hu]; rfl
        rw [e] at hcp0; exact hcp0
      obtain ⟨x, hx⟩ : ∃ x, x = (adK σ v P t).getD q 0 := ⟨_, rfl⟩
      obtain ⟨C1, hC1, k1, k2, k3, k4⟩ := HBU.out.box
      have hcg := (blk_cell hC1 1).trans k3
      rw [← hM] at hcg
      have hch := (blk_cell HBU.out.row q).trans (ints_get (adK σ v P t) q (by rw [HBU.out.len, ← hM]; omega))
      rw [← hx] at hch
      have hfh := blk_frozen HBU.out.row q
      have HXA := Aside0.mk (adK_in (v := v) (P := P) HL.out.2.2.2.2.1 t (by have := HL.out.1; have e := HBU.out.len; rw [adK_len] at e; omega) q)
      rw [← hx] at HXA
      have HOF := Aside0.mk (fun w => soft_Of.calls u (so u) w (by unfold soft_Of.f so; rw [apply_ite some]))
      have HAD := Aside0.mk (fun w => soft_Add.calls x (so u) (x + so u) w (add_f HXA.out (so_pm u)))
      have HK := Aside0.mk (And.intro hq (And.intro hM (And.intro hu hx)))
      have HCS := Aside0.mk (show wr.drew.cell? ⟨g, 1, none⟩ = some (.slice (some ⟨h, 0, none⟩) M M) ∧ wr.drew.cell? ⟨h, q, none⟩ = some (.int .i64 x) ∧ wr.drew.cell? (aP.add t) = some (.int .u8 u) from ⟨hcg, hch, hcp⟩)
      have HFH := Aside0.mk (show wr.drew.frozen? ⟨h, q, none⟩ = false from hfh)
      clear hlt ht hcx0 hcp0 hq hM hu hx hC1 k1 k2 k3 k4 hcg hch hcp hfh
      go_wp2_with fail
      refine start_ (n := 20) (S := (fun w' => w'.cell? ⟨g, 1, none⟩ = some (.slice (some ⟨h, 0, none⟩) M M) ∧ w'.cell? ⟨h, q, none⟩ = some (.int .i64 x) ∧ w'.cell? (aP.add t) = some (.int .u8 u))) (ds := [19]) #[false, false, false, false, false, false, false, false, false, false, false, false, false, false, false, false, false, false, false, false] (by kernel_rfl) rfl rfl HCS.out (fun hHeld => ?_)
      refine with_tabW madd13.tab madd13.bits (fun HT_ HW_ => ?_)
      refine pure_ (i := 0) (N := some 52) (v := ?_) (a' := ?_) #[true, false, false, false, false, false, false, false, false, false, false, false, false, false, false, false, false, false, false, false] rfl rfl (any_of HT_.out (by kernel_rfl)) (fun _ _ _ h => h) (Or.inl ⟨by rfl, ?_⟩) ?_ ?_
      rotate_left
      · intro w'
        go_simp
        with_reducible rfl
      rotate_left
      · simp only [Act.put, List.setIfInBounds_toArray, List.set_cons_zero, List.set_cons_succ, i64_w, i32_w]
        rfl
      refine pure_ (i := 1) (N := some 53) (v := ?_) (a' := ?_) #[true, true, false, false, false, false, false, false, false, false, false, false, false, false, false, false, false, false, false, false] rfl rfl (any_of HT_.out (by kernel_rfl)) (fun _ _ _ h => h) (Or.inl ⟨by rfl, ?_⟩) ?_ ?_
      rotate_left
      · intro w'
        go_simp
        with_reducible rfl
      rotate_left
      · simp only [Act.put, List.setIfInBounds_toArray, List.set_cons_zero, List.set_cons_succ, i64_w, i32_w]
        rfl
      refine pure_ (i := 2) (N := some 54) (v := ?_) (a' := ?_) #[true, true, true, false, false, false, false, false, false, false, false, false, false, false, false, false, false, false, false, false] rfl rfl (any_of HT_.out (by kernel_rfl)) (fun _ _ _ h => h) (Or.inl ⟨by rfl, ?_⟩) ?_ ?_
      rotate_left
      · intro w'
        go_simp
        with_reducible rfl
      rotate_left
      · simp only [Act.put, List.setIfInBounds_toArray, List.set_cons_zero, List.set_cons_succ, i64_w, i32_w]
        rfl
      refine take_ (i := 3) (N := some 55) (v := ?_) (a' := ?_) #[true, true, true, true, false, false, false, false, false, false, false, false, false, false, false, false, false, false, false, false] rfl rfl (take_ofW HT_.out HW_.out (by kernel_rfl)) (fun _ _ _ h => h) (Or.inl ⟨by rfl, ?_⟩) hHeld ?_ ?_
      rotate_left
      · rintro w' ⟨s0, s1, s2⟩
        go_simp
        with_reducible rfl
      rotate_left
      · simp only [Act.put, List.setIfInBounds_toArray, List.set_cons_zero, List.set_cons_succ, i64_w, i32_w]
        rfl
      refine pure_ (i := 4) (N := some 56) (v := ?_) (a' := ?_) #[true, true, true, true, true, false, false, false, false, false, false, false, false, false, false, false, false, false, false, false] rfl rfl (any_of HT_.out (by kernel_rfl)) (fun _ _ _ h => h) (Or.inl ⟨by rfl, ?_⟩) ?_ ?_
      rotate_left
      · intro w'
        go_simp
        with_reducible rfl
      rotate_left
      · simp only [Act.put, List.setIfInBounds_toArray, List.set_cons_zero, List.set_cons_succ, i64_w, i32_w]
        rfl
      refine pure_ (i := 5) (N := some 57) (v := ?_) (a' := ?_) #[true, true, true, true, true, true, false, false, false, false, false, false, false, false, false, false, false, false, false, false] rfl rfl (any_of HT_.out (by kernel_rfl)) (fun _ _ _ h => h) (Or.inl ⟨by rfl, ?_⟩) ?_ ?_
      rotate_left
      · intro w'
        go_simp
        with_reducible rfl
      rotate_left
      · simp only [Act.put, List.setIfInBounds_toArray, List.set_cons_zero, List.set_cons_succ, i64_w, i32_w]
        rfl
      refine pure_ (i := 6) (N := some 58) (v := ?_) (a' := ?_) #[true, true, true, true, true, true, true, false, false, false, false, false, false, false, false, false, false, false, false, false] rfl rfl (any_of HT_.out (by kernel_rfl)) (fun _ _ _ h => h) (Or.inl ⟨by rfl, ?_⟩) ?_ ?_
      rotate_left
      · intro w'
        go_simp
        with_reducible rfl
      rotate_left
      · simp only [Act.put, List.setIfInBounds_toArray, List.set_cons_zero, List.set_cons_succ, i64_w, i32_w]
        rfl
      refine pure_ (i := 7) (N := some 59) (v := ?_) (a' := ?_) #[true, true, true, true, true, true, true, true, false, false, false, false, false, false, false, false, false, false, false, false] rfl rfl (any_of HT_.out (by kernel_rfl)) (fun _ _ _ h => h) (Or.inl ⟨by rfl, ?_⟩) ?_ ?_
      rotate_left
      · intro w'
        go_simp
        with_reducible rfl
      rotate_left
      · simp only [Act.put, List.setIfInBounds_toArray, List.set_cons_zero, List.set_cons_succ, i64_w, i32_w]
        rfl
      refine take_ (i := 8) (N := some 60) (v := ?_) (a' := ?_) #[true, true, true, true, true, true, true, true, true, false, false, false, false, false, false, false, false, false, false, false] rfl rfl (take_ofW HT_.out HW_.out (by kernel_rfl)) (fun _ _ _ h => h) (Or.inl ⟨by rfl, ?_⟩) hHeld ?_ ?_
      rotate_left
      · rintro w' ⟨s0, s1, s2⟩
        go_simp
        with_reducible rfl
      rotate_left
      · simp only [Act.put, List.setIfInBounds_toArray, List.set_cons_zero, List.set_cons_succ, i64_w, i32_w]
        rfl
      refine pure_ (i := 9) (N := some 61) (v := ?_) (a' := ?_) #[true, true, true, true, true, true, true, true, true, true, false, false, false, false, false, false, false, false, false, false] rfl rfl (any_of HT_.out (by kernel_rfl)) (fun _ _ _ h => h) (Or.inl ⟨by rfl, ?_⟩) ?_ ?_
      rotate_left
      · intro w'
        go_simp
        with_reducible rfl
      rotate_left
      · simp only [Act.put, List.setIfInBounds_toArray, List.set_cons_zero, List.set_cons_succ, i64_w, i32_w]
        rfl
      refine pure_ (i := 10) (N := some 62) (v := ?_) (a' := ?_) #[true, true, true, true, true, true, true, true, true, true, true, false, false, false, false, false, false, false, false, false] rfl rfl (any_of HT_.out (by kernel_rfl)) (fun _ _ _ h => h) (Or.inl ⟨by rfl, ?_⟩) ?_ ?_
      rotate_left
      · intro w'
        go_simp
        with_reducible rfl
      rotate_left
      · simp only [Act.put, List.setIfInBounds_toArray, List.set_cons_zero, List.set_cons_succ, i64_w, i32_w]
        rfl
      refine take_ (i := 11) (N := some 63) (v := ?_) (a' := ?_) #[true, true, true, true, true, true, true, true, true, true, true, true, false, false, false, false, false, false, false, false] rfl rfl (take_ofW HT_.out HW_.out (by kernel_rfl)) (fun _ _ _ h => h) (Or.inl ⟨by rfl, ?_⟩) hHeld ?_ ?_
      rotate_left
      · rintro w' ⟨s0, s1, s2⟩
        go_simp
        with_reducible rfl
      rotate_left
      · simp only [Act.put, List.setIfInBounds_toArray, List.set_cons_zero, List.set_cons_succ, i64_w, i32_w]
        rfl
      refine pure_ (i := 12) (N := some 64) (v := ?_) (a' := ?_) #[true, true, true, true, true, true, true, true, true, true, true, true, true, false, false, false, false, false, false, false] rfl rfl (any_of HT_.out (by kernel_rfl)) (fun _ _ _ h => h) (Or.inl ⟨by rfl, ?_⟩) ?_ ?_
      rotate_left
      · intro w'
        go_simp
        with_reducible rfl
      rotate_left
      · simp only [Act.put, List.setIfInBounds_toArray, List.set_cons_zero, List.set_cons_succ, i64_w, i32_w]
        rfl
      refine pure_ (i := 13) (N := some 65) (v := ?_) (a' := ?_) #[true, true, true, true, true, true, true, true, true, true, true, true, true, true, false, false, false, false, false, false] rfl rfl (any_of HT_.out (by kernel_rfl)) (fun _ _ _ h => h) (Or.inl ⟨by rfl, ?_⟩) ?_ ?_
      rotate_left
      · intro w'
        go_simp
        with_reducible rfl
      rotate_left
      · simp only [Act.put, List.setIfInBounds_toArray, List.set_cons_zero, List.set_cons_succ, i64_w, i32_w]
        rfl
      refine pure_ (i := 14) (N := some 66) (v := ?_) (a' := ?_) #[true, true, true, true, true, true, true, true, true, true, true, true, true, true, true, false, false, false, false, false] rfl rfl (any_of HT_.out (by kernel_rfl)) (fun _ _ _ h => h) (Or.inl ⟨by rfl, ?_⟩) ?_ ?_
      rotate_left
      · intro w'
        go_simp
        with_reducible rfl
      rotate_left
      · simp only [Act.put, List.setIfInBounds_toArray, List.set_cons_zero, List.set_cons_succ, i64_w, i32_w]
        rfl
      refine take_ (i := 15) (N := some 67) (v := ?_) (a' := ?_) #[true, true, true, true, true, true, true, true, true, true, true, true, true, true, true, true, false, false, false, false] rfl rfl (take_ofW HT_.out HW_.out (by kernel_rfl)) (fun _ _ _ h => h) (Or.inl ⟨by rfl, ?_⟩) hHeld ?_ ?_
      rotate_left
      · rintro w' ⟨s0, s1, s2⟩
        go_simp
        with_reducible rfl
      rotate_left
      · simp only [Act.put, List.setIfInBounds_toArray, List.set_cons_zero, List.set_cons_succ, i64_w, i32_w]
        rfl
      refine one_ (i := 16) (N := some 68) #[true, true, true, true, true, true, true, true, true, true, true, true, true, true, true, true, true, false, false, false] rfl rfl (one_of HT_.out (by kernel_rfl)) (by decide) (fun K hK => ?_)
      refine goes_ Tryz.func59 (by kernel_rfl) rfl _ (by rfl) rfl rfl (by (try simp only [List.map_toArray, List.map_cons, List.map_nil]); first | done | rfl | (go_simp; done) | simp [Act.eval]) ?_
      refine (HOF.out _).mono ?_
      rintro e w5 ⟨rfl, hd5⟩
      have HD5 := Aside0.mk hd5
      clear hd5 HOF
      refine ⟨_, rfl, ?_⟩
      refine hK.out _ _ (by obtain ⟨nd, rfl⟩ := HD5.out; exact HCS.out) (fun hHeld => ?_)
      clear hK K
      refine norm_ (a' := ?_) ?_ ?_
      rotate_left
      · show Act.put _ (some 68) _ = _
        simp only [Act.put, List.setIfInBounds_toArray, List.set_cons_zero, List.set_cons_succ, i64_w, i32_w]
        rfl
      refine one_ (i := 17) (N := some 69) #[true, true, true, true, true, true, true, true, true, true, true, true, true, true, true, true, true, true, false, false] rfl rfl (one_of HT_.out (by kernel_rfl)) (by decide) (fun K hK => ?_)
      refine goes_ Tryz.func58 (by kernel_rfl) rfl _ (by rfl) rfl rfl (by (try simp only [List.map_toArray, List.map_cons, List.map_nil]); first | done | rfl | (go_simp; done) | simp [Act.eval]) ?_
      refine (HAD.out _).mono ?_
      rintro e w6 ⟨rfl, hd6⟩
      have HD6 := Aside0.mk hd6
      clear hd6 HAD
      refine ⟨_, rfl, ?_⟩
      refine hK.out _ _ (by obtain ⟨n5, rfl⟩ := HD5.out; obtain ⟨n6, rfl⟩ := HD6.out; exact HCS.out) (fun hHeld => ?_)
      clear hK K
      refine norm_ (a' := ?_) ?_ ?_
      rotate_left
      · show Act.put _ (some 69) _ = _
        simp only [Act.put, List.setIfInBounds_toArray, List.set_cons_zero, List.set_cons_succ, i64_w, i32_w]
        rfl
      refine pure_ (i := 18) (N := some 70) (v := ?_) (a' := ?_) #[true, true, true, true, true, true, true, true, true, true, true, true, true, true, true, true, true, true, true, false] rfl rfl (any_of HT_.out (by kernel_rfl)) (fun _ _ _ h => h) (Or.inl ⟨by rfl, ?_⟩) ?_ ?_
      rotate_left
      · intro w'
        go_simp
        with_reducible rfl
      rotate_left
      · simp only [Act.put, List.setIfInBounds_toArray, List.set_cons_zero, List.set_cons_succ, i64_w, i32_w]
        rfl
      refine last_ (i := 19) (N := none) #[true, true, true, true, true, true, true, true, true, true, true, true, true, true, true, true, true, true, true, true] rfl rfl (one_of HT_.out (by kernel_rfl)) (by decide) (fun K hK => ?_)
      have hcl : w6.cell? ⟨h, q, none⟩ = some (.int .i64 x) := by obtain ⟨n5, rfl⟩ := HD5.out; obtain ⟨n6, rfl⟩ := HD6.out; exact HCS.out.2.1
      have hfz : w6.frozen? ⟨h, q, none⟩ = false := by obtain ⟨n5, rfl⟩ := HD5.out; obtain ⟨n6, rfl⟩ := HD6.out; exact HFH.out
      refine skip_ (w1 := ?_) (by rfl) rfl ?_ ?_
      rotate_left 1
      · go_simp
        rfl
      refine hK.out _ _ ?_
      clear hK K
      refine done_ (done_of HT_.out (by kernel_rfl)) ?_
      clear hHeld hcl hfz
      have hb6 : Below wr.heap.size wr w6 := below_step (below_step (below_drew1 (Below.refl _ _)) HD5.out.below) HD6.out.below
      have hp := Put1.set h q w6 (.int .i64 (x + so u))
      have hlo := HB.out.lo
      have HU7 := Aside0.mk (show BU (w6.setCell ⟨h, q, none⟩ (.int .i64 (x + so u))) S g h n (adK σ v P (t + 1)) by
        have e : adK σ v P (t + 1) = (adK σ v P t).set q (x + so u) := by rw [HK.out.2.2.1, HK.out.2.2.2, HK.out.1]; rfl
        rw [e]; exact (HBU.out.below hb6).put q (x + so u))
      have HPC7 := Aside0.mk (C_put (Kd.C_below HPC.out hb6) hp (fun d hd => (HL.out.2.2.2.1 d hd).2))
      have HR7 := Aside0.mk (Kd.R_step (Kd.R_below HR.out hb6) (fun k hk _ => hp.block k (by have := HGH.out; omega)))
      have HBS7 := Aside0.mk ((HBS.out.trans (Two.of_below hb6)).trans (Two.put1 hp (.inr rfl)))
      have HT1 := Aside0.mk (show wrap64 ((t : Int) + 1) = ((t + 1 : Nat) : Int) ∧ t + 1 ≤ m from ⟨wrap_succ t (by omega), HLT.out⟩)
      have hmz := @hmeasK t m (t + 1) HLT.out rfl
      have HMZ := Aside0.mk hmz
      clear hb6 hp hlo hmz HBU HPC HR HBS HD5 HD6 HCS HFH HXA
      generalize w6.setCell ⟨h, q, none⟩ (.int .i64 (x + so u)) = w7 at HU7 HPC7 HR7 HBS7 ⊢
      go_wp2_with fail
      exact ⟨⟨t + 1, by simp, HT1.out.2, HU7, HPC7, HR7, HBS7⟩, HMZ.out⟩
    · obtain rfl : t = m := by omega
      have hd : decide ((t : Int) < (t : Int)) = false := decide_eq_false (by omega)
      obtain ⟨C1, hC1, k1, k2, k3, k4⟩ := HBU.out.box
      obtain ⟨x, hx⟩ := k4 v (by omega)
      have hcg := (blk_cell hC1 (2 + v)).trans hx
      have hfh := blk_frozen hC1 (2 + v)
      have HCS := Aside0.mk (show wr.drew.cell? ⟨g, 2 + v, none⟩ = some (.int .i64 x) from hcg)
      have HFH := Aside0.mk (show wr.drew.frozen? ⟨g, 2 + v, none⟩ = false from hfh)
      clear hlt ht hC1 k1 k2 k3 k4 hx hcg hfh
      go_wp2_with fail
      refine start_ (n := 11) (S := (fun w' => w'.cell? ⟨g, 2 + v, none⟩ = some (.int .i64 x))) (ds := [10]) #[false, false, false, false, false, false, false, false, false, false, false] (by kernel_rfl) rfl rfl HCS.out (fun hHeld => ?_)
      refine with_tabW madd15.tab madd15.bits (fun HT_ HW_ => ?_)
      refine pure_ (i := 0) (N := some 72) (v := ?_) (a' := ?_) #[true, false, false, false, false, false, false, false, false, false, false] rfl rfl (any_of HT_.out (by kernel_rfl)) (fun _ _ _ h => h) (Or.inl ⟨by rfl, ?_⟩) ?_ ?_
      rotate_left
      · intro w'
        go_simp
        with_reducible rfl
      rotate_left
      · simp only [Act.put, List.setIfInBounds_toArray, List.set_cons_zero, List.set_cons_succ, i64_w, i32_w]
        rfl
      refine pure_ (i := 1) (N := some 73) (v := ?_) (a' := ?_) #[true, true, false, false, false, false, false, false, false, false, false] rfl rfl (any_of HT_.out (by kernel_rfl)) (fun _ _ _ h => h) (Or.inl ⟨by rfl, ?_⟩) ?_ ?_
      rotate_left
      · intro w'
        go_simp
        with_reducible rfl
      rotate_left
      · simp only [Act.put, List.setIfInBounds_toArray, List.set_cons_zero, List.set_cons_succ, i64_w, i32_w]
        rfl
      refine pure_ (i := 2) (N := some 74) (v := ?_) (a' := ?_) #[true, true, true, false, false, false, false, false, false, false, false] rfl rfl (any_of HT_.out (by kernel_rfl)) (fun _ _ _ h => h) (Or.inl ⟨by rfl, ?_⟩) ?_ ?_
      rotate_left
      · intro w'
        go_simp
        with_reducible rfl
      rotate_left
      · simp only [Act.put, List.setIfInBounds_toArray, List.set_cons_zero, List.set_cons_succ, i64_w, i32_w]
        rfl
      refine pure_ (i := 3) (N := some 75) (v := ?_) (a' := ?_) #[true, true, true, true, false, false, false, false, false, false, false] rfl rfl (any_of HT_.out (by kernel_rfl)) (fun _ _ _ h => h) (Or.inl ⟨by rfl, ?_⟩) ?_ ?_
      rotate_left
      · intro w'
        go_simp
        with_reducible rfl
      rotate_left
      · simp only [Act.put, List.setIfInBounds_toArray, List.set_cons_zero, List.set_cons_succ, i64_w, i32_w]
        rfl
      refine pure_ (i := 4) (N := some 76) (v := ?_) (a' := ?_) #[true, true, true, true, true, false, false, false, false, false, false] rfl rfl (any_of HT_.out (by kernel_rfl)) (fun _ _ _ h => h) (Or.inl ⟨by rfl, ?_⟩) ?_ ?_
      rotate_left
      · intro w'
        go_simp
        with_reducible rfl
      rotate_left
      · simp only [Act.put, List.setIfInBounds_toArray, List.set_cons_zero, List.set_cons_succ, i64_w, i32_w]
        rfl
      refine take_ (i := 5) (N := some 77) (v := ?_) (a' := ?_) #[true, true, true, true, true, true, false, false, false, false, false] rfl rfl (take_ofW HT_.out HW_.out (by kernel_rfl)) (fun _ _ _ h => h) (Or.inl ⟨by rfl, ?_⟩) hHeld ?_ ?_
      rotate_left
      · rintro w' s0
        go_simp
        with_reducible rfl
      rotate_left
      · simp only [Act.put, List.setIfInBounds_toArray, List.set_cons_zero, List.set_cons_succ, i64_w, i32_w]
        rfl
      refine pure_ (i := 6) (N := some 78) (v := ?_) (a' := ?_) #[true, true, true, true, true, true, true, false, false, false, false] rfl rfl (any_of HT_.out (by kernel_rfl)) (fun _ _ _ h => h) (Or.inl ⟨by rfl, ?_⟩) ?_ ?_
      rotate_left
      · intro w'
        go_simp
        with_reducible rfl
      rotate_left
      · simp only [Act.put, List.setIfInBounds_toArray, List.set_cons_zero, List.set_cons_succ, i64_w, i32_w]
        rfl
      refine pure_ (i := 7) (N := some 79) (v := ?_) (a' := ?_) #[true, true, true, true, true, true, true, true, false, false, false] rfl rfl (any_of HT_.out (by kernel_rfl)) (fun _ _ _ h => h) (Or.inl ⟨by rfl, ?_⟩) ?_ ?_
      rotate_left
      · intro w'
        go_simp
        with_reducible rfl
      rotate_left
      · simp only [Act.put, List.setIfInBounds_toArray, List.set_cons_zero, List.set_cons_succ, i64_w, i32_w]
        rfl
      refine pure_ (i := 8) (N := some 80) (v := ?_) (a' := ?_) #[true, true, true, true, true, true, true, true, true, false, false] rfl rfl (any_of HT_.out (by kernel_rfl)) (fun _ _ _ h => h) (Or.inl ⟨by rfl, ?_⟩) ?_ ?_
      rotate_left
      · intro w'
        go_simp
        with_reducible rfl
      rotate_left
      · simp only [Act.put, List.setIfInBounds_toArray, List.set_cons_zero, List.set_cons_succ, i64_w, i32_w]
        rfl
      refine pure_ (i := 9) (N := some 81) (v := ?_) (a' := ?_) #[true, true, true, true, true, true, true, true, true, true, false] rfl rfl (any_of HT_.out (by kernel_rfl)) (fun _ _ _ h => h) (Or.inl ⟨by rfl, ?_⟩) ?_ ?_
      rotate_left
      · intro w'
        go_simp
        with_reducible rfl
      rotate_left
      · simp only [Act.put, List.setIfInBounds_toArray, List.set_cons_zero, List.set_cons_succ, i64_w, i32_w]
        rfl
      refine last_ (i := 10) (N := none) #[true, true, true, true, true, true, true, true, true, true, true] rfl rfl (one_of HT_.out (by kernel_rfl)) (by decide) (fun K hK => ?_)
      have hcl := HCS.out
      have hfz := HFH.out
      refine skip_ (w1 := ?_) (by rfl) rfl ?_ ?_
      rotate_left 1
      · go_simp
        rfl
      refine hK.out _ _ ?_
      clear hK K
      refine done_ (done_of HT_.out (by kernel_rfl)) ?_
      clear hHeld hcl hfz
      have hb6 : Below wr.heap.size wr wr.drew := below_drew1 (Below.refl _ _)
      have HU7 := Aside0.mk ((HBU.out.below hb6).count v (by have := HL.out; omega) (wrap64 (x + 1)))
      have HBS7 := Aside0.mk ((HBS.out.trans (Two.of_below hb6)).trans (Two.put1 (Put1.set g (2 + v) wr.drew (.int .i64 (wrap64 (x + 1)))) (.inl rfl)))
      clear hb6 HBU HPC HR HBS HCS HFH
      go_wp2_with fail
      go_ret
      exact ⟨by simp, HU7.out, HBS7.out⟩
end Go.Proofs.YtknanbnjbilciaaGreatDoor.P
namespace Go.Proofs.YtknanbnjbilciaaGreatDoor.P
open Go.RowKit Go.Proofs.YtknanbnjbilciaaGreatDoorW.PrintWords Go.Proofs.YtknanbnjbilciaaGreatDoorW.PrintLast Go.Proofs.YtknanbnjbilciaaGreatDoorW.PrintMore
-- YtknanbnjbilciaaGreatDoorPStr

end Go.Proofs.YtknanbnjbilciaaGreatDoor.P
namespace Go.Proofs.YtknanbnjbilciaaGreatDoor.P
open Go.RowKit Go.Proofs.YtknanbnjbilciaaGreatDoorW.PrintWords Go.Proofs.YtknanbnjbilciaaGreatDoorW.PrintLast Go.Proofs.YtknanbnjbilciaaGreatDoorW.PrintMore
set_option linter.unusedVariables false
-- YtknanbnjbilciaaGreatDoorPCrc32M
/-- One round of the register. -/
def rr (n : BitVec 32) : BitVec 32 := if n.getLsbD 0 then (n >>> 1) ^^^ 0xEDB88320#32 else n >>> 1
def sp (n : BitVec 32) (c : BitVec 8) : BitVec 32 := it rr 8 (n ^^^ c.setWidth 32)
def spI (n : BitVec 32) (c : Int) : BitVec 32 := sp n (BitVec.ofInt 8 c)
/-- The register behind a text; the sum is its complement. -/
def reg32 (l : List Int) : BitVec 32 := l.foldl spI 0xFFFFFFFF#32
def sum32 (l : List Int) : BitVec 32 := ~~~ (reg32 l)
theorem rr_xor (a b : BitVec 32) : rr (a ^^^ b) = rr a ^^^ rr b := by
  unfold rr
  rw [BitVec.getLsbD_xor, BitVec.ushiftRight_xor_distrib]
  cases ha : a.getLsbD 0 <;> cases hb : b.getLsbD 0 <;> simp
  · ac_rfl
  · ac_rfl
  · generalize a >>> 1 = x
    generalize b >>> 1 = y
    rw [show x ^^^ 3988292384#32 ^^^ (y ^^^ 3988292384#32) = (x ^^^ y) ^^^ (3988292384#32 ^^^ 3988292384#32) by ac_rfl]
    simp
theorem itr_xor (d : Nat) : ∀ a b : BitVec 32, it rr d (a ^^^ b) = it rr d a ^^^ it rr d b := by
  induction d with
  | zero => intro a b; rfl
  | succ d ih => intro a b; rw [it_succ, it_succ, it_succ, rr_xor, ih]
-- half a byte by a table
theorem low_free (d : Nat) : ∀ n : BitVec 32, (∀ i, i < d → n.getLsbD i = false) → it rr d n = n >>> d := by
  induction d with
  | zero => intro n _; show n = _; rw [BitVec.ushiftRight_zero]
  | succ d ih =>
    intro n h
    have h0 := h 0 (by omega)
    have e : rr n = n >>> 1 := by unfold rr; rw [h0]; rfl
    rw [it_succ, e, ih]
    · rw [← BitVec.shiftRight_add]; congr 1; omega
    · intro i hi
      rw [BitVec.getLsbD_ushiftRight]
      rw [Nat.add_comm]; exact h (i + 1) (by omega)
theorem half (n : BitVec 32) : it rr 4 n = (n >>> 4) ^^^ it rr 4 (n &&& 15#32) := by
  have e : n = (n &&& ~~~ 15#32) ^^^ (n &&& 15#32) := by
    apply BitVec.eq_of_getLsbD_eq
    intro i hi
    rw [BitVec.getLsbD_xor, BitVec.getLsbD_and, BitVec.getLsbD_and, BitVec.getLsbD_not]
    cases n.getLsbD i <;> cases (15#32).getLsbD i <;> simp [hi]
  have z : ∀ i, i < 4 → (n &&& ~~~ 15#32).getLsbD i = false := by
    intro i hi
    rw [BitVec.getLsbD_and]
    have : (~~~ 15#32).getLsbD i = false := by
      obtain rfl | rfl | rfl | rfl : i = 0 ∨ i = 1 ∨ i = 2 ∨ i = 3 := by omega
      all_goals decide
    rw [this, Bool.and_false]
  conv => lhs; rw [e, itr_xor, low_free 4 _ z]
  congr 1
  apply BitVec.eq_of_getLsbD_eq
  intro i hi
  rw [BitVec.getLsbD_ushiftRight, BitVec.getLsbD_ushiftRight, BitVec.getLsbD_and]
  by_cases h : 4 + i < 32
  · have : (~~~ 15#32).getLsbD (4 + i) = true := by
      have all : ∀ j : Fin 28, (~~~ 15#32).getLsbD (4 + j.val) = true := by decide +kernel
      exact all ⟨i, by omega⟩
    rw [this, Bool.and_true]
  · rw [BitVec.getLsbD_of_ge _ _ (by omega), Bool.false_and]
-- bit by bit
def bt (b : Bool) : BitVec 32 := if b then 1#32 else 0#32
def r1 (n : BitVec 32) (b : Bool) : BitVec 32 := rr (n ^^^ bt b)
-- turned back
end Go.Proofs.YtknanbnjbilciaaGreatDoor.P
namespace Go.Proofs.YtknanbnjbilciaaGreatDoor.P
open Go Go.RowKit Go.Proofs.YtknanbnjbilciaaGreatDoorW.PrintWords Go.Proofs.YtknanbnjbilciaaGreatDoorW.PrintLast Go.Proofs.YtknanbnjbilciaaGreatDoorW.PrintMore
set_option linter.unusedVariables false
-- YtknanbnjbilciaaGreatDoorPCrcW
def tabAt (i : Nat) : Int := ((it rr 4 (BitVec.ofNat 32 i)).toNat : Int)
def tabTo (n : Nat) : List Int := (List.range 16).map fun j => if j < n then tabAt j else 0
def tabV (n : Nat) : Array Value := (nums .u32 (tabTo n)).toArray
theorem tabV_get (n j : Nat) (hj : j < 16) : (tabV n)[j]? = some (.int .u32 (if j < n then tabAt j else 0)) := by
  unfold tabV tabTo nums
  rw [List.getElem?_toArray, List.getElem?_map, List.getElem?_map, List.getElem?_range hj]; rfl
theorem tabV_set (n : Nat) (h : n < 16) : (tabV n).setIfInBounds n (.int .u32 (tabAt n)) = tabV (n + 1) := by
  apply Array.ext_getElem?
  intro j
  by_cases hj : j < 16
  · rw [Array.getElem?_setIfInBounds]
    by_cases e : n = j
    · subst e
      rw [if_pos rfl, if_pos (by show n < (nums .u32 (tabTo n)).toArray.size; simp [nums, tabTo, h]), tabV_get _ _ hj, if_pos (by omega)]
    · rw [if_neg e, tabV_get _ _ hj, tabV_get _ _ hj]
      by_cases c : j < n
      · rw [if_pos c, if_pos (by omega)]
      · rw [if_neg c, if_neg (by omega)]
  · rw [Array.getElem?_eq_none (by simp [tabV, nums, tabTo]; omega), Array.getElem?_eq_none (by simp [tabV, nums, tabTo]; omega)]
theorem tabV_size : ∀ n, (tabV n).size = 16 := by intro n; simp [tabV, nums, tabTo]
theorem tabV_one (n : Nat) : (tabV n).all (·.oneCell') = true := by
  rw [Array.all_eq_true]
  intro j hj
  simp [tabV, nums, Value.oneCell']
theorem bit0_mod (n : BitVec 32) : n.getLsbD 0 = decide (n.toNat % 2 = 1) := by
  rw [BitVec.getLsbD, Nat.testBit_zero]
theorem rr_go (n : BitVec 32) : Go.bits .xor .u32 ((n.toNat : Int) / 2) (Go.bits .and .u32 3988292384 (-Go.bits .and .u32 (n.toNat : Int) 1 % 4294967296)) = ((rr n).toNat : Int) := by
  have hn := n.isLt
  have e1 : Go.bits .and .u32 (n.toNat : Int) 1 = ((n.toNat % 2 : Nat) : Int) := by
    rw [show (1 : Int) = ((1 : Nat) : Int) from rfl, Go.u32_and_nat _ 1 (by omega) (by decide), Go.nat_mask1]
  have e2 : (n.toNat : Int) / (2 : Int) = ((n >>> 1).toNat : Int) := by rw [BitVec.toNat_ushiftRight, Nat.shiftRight_eq_div_pow]; omega
  rw [e1, e2]
  unfold rr
  by_cases c : n.toNat % 2 = 1
  · rw [bit0_mod, decide_eq_true c, if_pos rfl, c]
    have e3 : Go.bits .and .u32 3988292384 (-((1 : Nat) : Int) % 4294967296) = ((0xEDB88320#32).toNat : Int) := by decide +kernel
    rw [e3, Go.u32_xor_nat _ _ (by have := (n >>> 1).isLt; omega) (by decide), BitVec.toNat_xor]
  · rw [bit0_mod, decide_eq_false c, if_neg (by decide), show n.toNat % 2 = 0 by omega]
    have e3 : Go.bits .and .u32 3988292384 (-((0 : Nat) : Int) % 4294967296) = ((0 : Nat) : Int) := by decide +kernel
    rw [e3, Go.u32_xor_nat _ _ (by have := (n >>> 1).isLt; omega) (by decide), Nat.xor_zero]
theorem crc_table_size : (Tryz.prog.info? 81).map (·.size) = some 16 := by kernel_rfl
set_option maxRecDepth 100000 in
set_option maxHeartbeats 4000000 in
theorem crc32_build_calls (w : World) : Calls Tryz.prog 30 #[] w fun e w' => e = .returned (.agg (tabV 16)) ∧ Below w.heap.size w w' := by
  go_enter Tryz.func30, Tryz.ntmps30
  go_wp2
  have hu49 := Tryz.underlying81
  have k0 := blk_alloc (blk_new w (.cells #[.int .u32 0, .int .u32 0, .int .u32 0, .int .u32 0, .int .u32 0, .int .u32 0, .int .u32 0, .int .u32 0, .int .u32 0, .int .u32 0, .int .u32 0, .int .u32 0, .int .u32 0, .int .u32 0, .int .u32 0, .int .u32 0] 81)) (.cells #[.int .u32 0, .int .u32 0, .int .u32 0, .int .u32 0, .int .u32 0, .int .u32 0, .int .u32 0, .int .u32 0, .int .u32 0, .int .u32 0, .int .u32 0, .int .u32 0, .int .u32 0, .int .u32 0, .int .u32 0, .int .u32 0] 81)
  have k1 := blk_new (w.alloc (.cells #[.int .u32 0, .int .u32 0, .int .u32 0, .int .u32 0, .int .u32 0, .int .u32 0, .int .u32 0, .int .u32 0, .int .u32 0, .int .u32 0, .int .u32 0, .int .u32 0, .int .u32 0, .int .u32 0, .int .u32 0, .int .u32 0] 81)) (.cells #[.int .u32 0, .int .u32 0, .int .u32 0, .int .u32 0, .int .u32 0, .int .u32 0, .int .u32 0, .int .u32 0, .int .u32 0, .int .u32 0, .int .u32 0, .int .u32 0, .int .u32 0, .int .u32 0, .int .u32 0, .int .u32 0] 81)
  have hB := below_alloc (below_alloc (Below.refl w.heap.size w) (.cells #[.int .u32 0, .int .u32 0, .int .u32 0, .int .u32 0, .int .u32 0, .int .u32 0, .int .u32 0, .int .u32 0, .int .u32 0, .int .u32 0, .int .u32 0, .int .u32 0, .int .u32 0, .int .u32 0, .int .u32 0, .int .u32 0] 81)) (.cells #[.int .u32 0, .int .u32 0, .int .u32 0, .int .u32 0, .int .u32 0, .int .u32 0, .int .u32 0, .int .u32 0, .int .u32 0, .int .u32 0, .int .u32 0, .int .u32 0, .int .u32 0, .int .u32 0, .int .u32 0, .int .u32 0] 81)
  rw [World.size_alloc] at k1
  have K0 := Aside0.mk k0
  have K1 := Aside0.mk k1
  have HB := Aside0.mk hB
  clear k0 k1 hB
  go_loopw [4] (fun v4 wr => ∃ i : Nat, i ≤ 16 ∧ v4 = .int .i64 (i : Int) ∧ Aside0 (wr.heap[w.heap.size]? = some (.cells (tabV 0) 81 (0, 0))) ∧ Aside0 (wr.heap[w.heap.size + 1]? = some (.cells (tabV i) 81 (0, 0))) ∧ Aside0 (Below w.heap.size w wr)) (fun v4 _ => 16 - (intOf v4).toNat)
  case atStart => exact ⟨0, by omega, rfl, K0, K1, HB⟩
  case round =>
    clear K0 K1 HB
    obtain ⟨i, hi, rfl, K0, K1, HB⟩ := hrel
    by_cases h16 : i < 16
    · have hlt : (i : Int) < 16 := by omega
      have e32 : IntKind.u32.wrap (i : Int) = ((BitVec.ofNat 32 i).toNat : Int) := by rw [IntKind.wrap_u32, BitVec.toNat_ofNat]; omega
      go_wp2
      go_loopw [3, 9] (fun v3 v9 wr2 => ∃ q : Nat, q ≤ 4 ∧ v3 = .int .u32 ((it rr q (BitVec.ofNat 32 i)).toNat : Int) ∧ v9 = .int .i64 (q : Int) ∧ wr2 = wr) (fun _ v9 _ => 4 - (intOf v9).toNat)
      case atStart => exact ⟨0, by omega, by (show _ = Value.int IntKind.u32 ((BitVec.ofNat 32 i).toNat : Int); rw [← e32, IntKind.wrap_u32]), rfl, by first | rfl | trivial⟩
      case round =>
        obtain ⟨q, hq, rfl, rfl, rfl⟩ := hrel
        by_cases h4 : q < 4
        · have hlt4 : (q : Int) < 4 := by omega
          go_wp2
          go_roundw
          case rel =>
            refine ⟨q + 1, by omega, ?_, by simp, by first | rfl | trivial⟩
            rw [rr_go, it_last rr q]
          case measure => simp [intOf]; omega
        · obtain rfl : q = 4 := by omega
          have hx := (blk_cell K1.out i).trans (tabV_get i i h16)
          have hf := blk_frozen K1.out i
          go_wp2
          refine ⟨⟨i + 1, by omega, by simp, ⟨blk_far K0.out (by simp) _⟩, ⟨blk_put K1.out i _ (tabV_set i h16)⟩, ⟨HB.out.setCell (p := ⟨w.heap.size + 1, i, none⟩) (by simp) _⟩⟩, by simp [intOf]; omega⟩
    · obtain rfl : i = 16 := by omega
      go_wp2_with (first | (refine wpList_load_row rfl 81 (.tmp 1) rfl (w.heap.size + 1) rfl 81 (tabV 16) (0, 0) _ K1.out hu49 rfl (crc_table_size.trans (by rw [tabV_size])) ?_) | (refine wpList_store_row rfl 81 (.tmp 0) (.tmp 23) rfl w.heap.size (tabV 16) rfl rfl 81 _ K0.out (crc_table_size.trans (by rw [tabV_size])) (by rw [tabV_size, tabV_size]) (tabV_one 16) ?_))
      refine bodyPost_ret (results_cell_row rfl _ _ w.heap.size 81 (tabV 16) (0, 0) _ rfl (setRow_heap _ _ _ _ _ _ K0.out) hu49 rfl (crc_table_size.trans (by rw [tabV_size]))) rfl ?_
      exact ⟨rfl, below_setRow HB.out (Nat.le_refl _) _⟩
theorem low4 (n : BitVec 32) : n &&& 15#32 = BitVec.ofNat 32 (n.toNat % 16) := by
  apply BitVec.eq_of_toNat_eq
  rw [BitVec.toNat_and, show (15#32).toNat = 2 ^ 4 - 1 from rfl, Nat.and_two_pow_sub_one_eq_mod, BitVec.toNat_ofNat]
  omega
theorem half_go (n : BitVec 32) : Go.bits .xor .u32 ((n.toNat : Int) / 16) (tabAt (n.toNat % 16)) = ((it rr 4 n).toNat : Int) := by
  have e2 : (n.toNat : Int) / (16 : Int) = ((n >>> 4).toNat : Int) := by rw [BitVec.toNat_ushiftRight, Nat.shiftRight_eq_div_pow]; omega
  rw [e2, half n, low4]
  unfold tabAt
  rw [Go.u32_xor_nat _ _ (by have := (n >>> 4).isLt; omega) (by have := (it rr 4 (BitVec.ofNat 32 (n.toNat % 16))).isLt; omega), BitVec.toNat_xor]
theorem not_go (n : BitVec 32) : Go.bits .xor .u32 IntKind.u32.max (n.toNat : Int) = ((~~~ n).toNat : Int) := by
  rw [show IntKind.u32.max = (((BitVec.allOnes 32).toNat : Nat) : Int) from by decide +kernel, Go.u32_xor_nat _ _ (by have := (BitVec.allOnes 32).isLt; omega) (by have := n.isLt; omega), ← BitVec.toNat_xor, BitVec.allOnes_xor]
theorem byte_go (n : BitVec 32) (c : Int) (hc : 0 ≤ c ∧ c ≤ 255) : Go.bits .xor .u32 (n.toNat : Int) c = ((n ^^^ (BitVec.ofInt 8 c).setWidth 32).toNat : Int) := by
  obtain ⟨m, rfl⟩ := Int.eq_ofNat_of_zero_le hc.1
  rw [Go.u32_xor_nat _ _ (by have := n.isLt; omega) (by omega), BitVec.toNat_xor, BitVec.toNat_setWidth, BitVec.ofInt_natCast, BitVec.toNat_ofNat]
  congr 3; omega
set_option maxRecDepth 100000 in
set_option maxHeartbeats 4000000 in
theorem crc32_Sum_walk (A0 : Option Addr) (c0 : Nat) (l0 : List Int) (w : World) (hr0 : Kd.C (Kd.int .u8) w A0 l0.length l0) (hc0 : l0.length ≤ c0) (hw : ∀ x ∈ l0, 0 ≤ x ∧ x ≤ 255) (hl : l0.length ≤ 100000) :
    Calls Tryz.prog 14 #[.slice A0 l0.length c0] w fun e w' => e = .returned (.int .u32 ((sum32 l0).toNat : Int)) ∧ Below w.heap.size w w' := by
  have hu49 := Tryz.underlying81
  replace hr0 := Aside0.mk hr0
  go_enter Tryz.func14, Tryz.ntmps14
  go_wp2_with (first | (go_at_call 30; refine (crc32_build_calls _).mono ?_; rintro e w1 ⟨rfl, HB0⟩; have HB := Aside0.mk HB0; clear HB0) | ((with_reducible refine gate_dst (N := 3) rfl ?_); refine box_event ?hg (N := 3) ?hd (cs := #[.int .u32 0, .int .u32 0, .int .u32 0, .int .u32 0, .int .u32 0, .int .u32 0, .int .u32 0, .int .u32 0, .int .u32 0, .int .u32 0, .int .u32 0, .int .u32 0, .int .u32 0, .int .u32 0, .int .u32 0, .int .u32 0]) (t := 81) ?hr ?_; (case hd => rfl); (case hg => rfl); (case hr => first | (go_simp; done) | (go_simp; rfl)); intro g hge w2 hbox0 hb0; have hbox := Aside0.mk hbox0; have HB1 := Aside0.mk (below_step HB.out hb0); have hgl := Aside0.mk (show w.heap.size ≤ g by rw [hge]; exact HB.out.size); clear HB hbox0 hb0 hge) | (refine wpList_store_row rfl 81 (.tmp 3) (.tmp 7) rfl g (tabV 16) rfl rfl 81 _ hbox.out (crc_table_size.trans (by rw [tabV_size])) (by rw [tabV_size]; rfl) (tabV_one 16) ?_; have BK := Aside0.mk (setRow_heap w2 g _ (tabV 16) _ _ hbox.out); have HB2 := Aside0.mk (below_setRow HB1.out hgl.out (tabV 16)); clear hbox HB1; obtain ⟨w3, hw3⟩ : ∃ w3, w2.setRow g (tabV 16) = w3 := ⟨_, rfl⟩; rw [hw3] at BK HB2 ⊢; clear hw3))
  go_loopw [4, 10] (fun v4 v10 wr => ∃ i : Nat, i ≤ l0.length ∧ v4 = .int .u32 (((l0.take i).foldl spI 0xFFFFFFFF#32).toNat : Int) ∧ v10 = .int .i64 (i : Int) ∧ wr = w3) (fun _ v10 _ => l0.length - (intOf v10).toNat)
  case atStart => exact ⟨0, by omega, rfl, rfl, by first | rfl | trivial⟩
  case round =>
    obtain ⟨i, hi, rfl, rfl, rfl⟩ := hrel
    by_cases hlt : i < l0.length
    · have hlt' : (i : Int) < (l0.length : Int) := by omega
      obtain ⟨ad, hA, hcs⟩ := (Kd.C_below hr0.out HB2.out).2.2 (by omega)
      subst hA
      have hx : wr.cell? (ad.add i) = some (.int .u8 l0[i]) := by
        obtain ⟨c, h1, h2, h3⟩ := hcs i _ (List.getElem?_eq_getElem hlt)
        have h2' : c = [Value.int .u8 l0[i]] := h2
        subst h2'
        have h4 := h3 0 _ rfl
        simpa [Kd.int, Kd.scalar] using h4
      clear hcs
      have hc := hw l0[i] (List.getElem_mem hlt)
      have e0 : (l0.take (i + 1)).foldl spI 0xFFFFFFFF#32 = spI ((l0.take i).foldl spI 0xFFFFFFFF#32) l0[i] := by
        rw [take_snoc l0 i hlt, List.foldl_append]; rfl
      have e1 := byte_go ((l0.take i).foldl spI 0xFFFFFFFF#32) l0[i] hc
      have e3 : spI ((l0.take i).foldl spI 0xFFFFFFFF#32) l0[i] = it rr 4 (it rr 4 (((l0.take i).foldl spI 0xFFFFFFFF#32) ^^^ (BitVec.ofInt 8 l0[i]).setWidth 32)) := by
        unfold spI sp; rw [show (8 : Nat) = 4 + 4 from rfl, it_add]
      generalize (l0.take i).foldl spI 0xFFFFFFFF#32 = n at e0 e1 e3 ⊢
      generalize n ^^^ (BitVec.ofInt 8 l0[i]).setWidth 32 = m at e1 e3
      have g1 := half_go m
      obtain ⟨j, hj⟩ : ∃ j, m.toNat % 16 = j := ⟨_, rfl⟩
      have hj16 : j < 16 := by omega
      have hj' : (m.toNat : Int) % 16 = (j : Int) := by omega
      have hj0 : (0 : Int) ≤ (j : Int) := by omega
      have hj1 : (j : Int) < 16 := by omega
      have hy := (blk_cell BK.out j).trans (tabV_get 16 j hj16)
      rw [if_pos hj16] at hy
      rw [hj] at g1
      have g2 := half_go (it rr 4 m)
      generalize it rr 4 m = m2 at e3 g1 g2
      obtain ⟨j2, hj2⟩ : ∃ j, m2.toNat % 16 = j := ⟨_, rfl⟩
      have hj216 : j2 < 16 := by omega
      have hj2' : (m2.toNat : Int) % 16 = (j2 : Int) := by omega
      have hj20 : (0 : Int) ≤ (j2 : Int) := by omega
      have hj21 : (j2 : Int) < 16 := by omega
      have hy2 := (blk_cell BK.out j2).trans (tabV_get 16 j2 hj216)
      rw [if_pos hj216] at hy2
      rw [hj2] at g2
      go_wp2
      exact ⟨⟨i + 1, by omega, by rw [e0, e3], by simp, by first | rfl | trivial⟩, by simp [intOf]; omega⟩
    · obtain rfl : i = l0.length := by omega
      go_wp2
      go_ret
      refine ⟨?_, HB2.out⟩
      rw [not_go]
      unfold sum32 reg32
      simp
end Go.Proofs.YtknanbnjbilciaaGreatDoor.P
namespace Go.Proofs.YtknanbnjbilciaaGreatDoor.P
open Go.RowKit Go.Proofs.YtknanbnjbilciaaGreatDoorW.PrintWords Go.Proofs.YtknanbnjbilciaaGreatDoorW.PrintLast Go.Proofs.YtknanbnjbilciaaGreatDoorW.PrintMore
-- YtknanbnjbilciaaGreatDoorP3
section
attribute [local go_sem] max2_int min2_int max_two min_two max_three min_three max_four min_four
set_option linter.unusedVariables false
set_option linter.unusedSimpArgs false

/-! ### crc32_Sum: function 14 -/
def crc32_Sum.f (l0 : List Int) : Option Int := if l0.all (fun x => decide (0 ≤ x ∧ x ≤ 255)) = true ∧ l0.length ≤ 100000 then some ((sum32 l0).toNat : Int) else none
theorem crc32_Sum.calls (A0 : Option Addr) (c0 : Nat) (l0 : List Int) (r : Int) (w : World) (hr0 : Kd.C (Kd.int .u8) w A0 l0.length l0) (hc0 : l0.length ≤ c0) (h : crc32_Sum.f l0 = some r) :
    Calls Tryz.prog 14 #[.slice A0 l0.length c0] w fun e w' => e = .returned (.int .u32 r) ∧ Below w.heap.size w w' := by
  unfold crc32_Sum.f at h
  by_cases hg : l0.all (fun x => decide (0 ≤ x ∧ x ≤ 255)) = true ∧ l0.length ≤ 100000
  · rw [if_pos hg] at h
    cases h
    exact crc32_Sum_walk A0 c0 l0 w hr0 hc0 (fun x hx => of_decide_eq_true (List.all_eq_true.1 hg.1 x hx)) hg.2
  · rw [if_neg hg] at h; cases h
end
-- YtknanbnjbilciaaGreatDoorP4
section
attribute [local go_sem] max2_int min2_int max_two min_two max_three min_three max_four min_four
set_option linter.unusedVariables false
set_option linter.unusedSimpArgs false

/-! ### shuttletop_stands: function 5 -/
def shuttletop_stands.f : Option Bool := (crc32_Sum.f ([49, 50, 51, 52, 53, 54, 55, 56, 57] : List Int)).bind fun t => some (t == 3421780262)
set_option maxHeartbeats 8000000 in
set_option maxRecDepth 100000 in
theorem shuttletop_stands.calls (r : Bool) (w : World) (h : shuttletop_stands.f = some r) :
    Calls Tryz.prog 5 #[] w fun e w' => e = .returned (.bool r) ∧ Below w.heap.size w w' := by
  obtain ⟨t, A1, H⟩ := Option.bind_eq_some_iff.mp h
  have hr := Option.some.inj H
  have A := Aside0.mk A1
  have HR := Aside0.mk (const_reads w 5 .u8 [49, 50, 51, 52, 53, 54, 55, 56, 57] #[.int .u8 49, .int .u8 50, .int .u8 51, .int .u8 52, .int .u8 53, .int .u8 54, .int .u8 55, .int .u8 56, .int .u8 57] (9, 10) rfl (by decide))
  have HB := Aside0.mk (below_alloc (Below.refl w.heap.size w) (.cells #[.int .u8 49, .int .u8 50, .int .u8 51, .int .u8 52, .int .u8 53, .int .u8 54, .int .u8 55, .int .u8 56, .int .u8 57] 5 (9, 10)))
  subst hr
  clear h A1 H
  have kc := fun (w : World) (C : Array Value) (n c : Nat) => Lib.run_convert_bytes_const (P := Tryz.prog) w 31 5 C n c Tryz.underlying31 Tryz.underlying5
  go_enter Tryz.func5, Tryz.ntmps5
  go_wp2_with ((with_reducible refine gate_callee (f := 14) rfl ?_); refine goesL_ (some 3) rfl rfl Tryz.func14 (by kernel_rfl) rfl #[.slice (some ⟨w.heap.size, 0, none⟩) 9 9] rfl (by (try simp only [List.map_toArray, List.map_cons, List.map_nil]); first | done | rfl) ?_; refine (crc32_Sum.calls _ _ [49, 50, 51, 52, 53, 54, 55, 56, 57] t _ ?side1 ?side2 A.out).mono ?_; (case side1 => exact HR.out); (case side2 => exact Nat.le_refl _); rintro e w' ⟨rfl, hb⟩; refine ⟨_, rfl, ?_⟩)
  go_ret
  exact ⟨rfl, below_step HB.out hb⟩
end
-- YtknanbnjbilciaaGreatDoorP5
section
attribute [local go_sem] max2_int min2_int max_two min_two max_three min_three max_four min_four
set_option linter.unusedVariables false
set_option linter.unusedSimpArgs false

/-! ### shuttletop_cut: function 6 -/
def shuttletop_cut.f (l0 : List Int) (a1 : Int) : Option (List Int) := (some (([] : List Int) : List Int)).bind fun y101 => (if 0 ≤ (mn (l0.length : Int) a1) then (if (mn (l0.length : Int) a1) ≤ (l0.length : Int) then (if y101.length + (l0.take ((mn (l0.length : Int) a1) : Int).toNat).length < 140737488355328 then (some (y101 ++ (l0.take ((mn (l0.length : Int) a1) : Int).toNat))) else (none)) else (none)) else (none))
set_option maxHeartbeats 8000000 in
set_option maxRecDepth 100000 in
theorem shuttletop_cut.calls (A0 : Option Addr) (c0 : Nat) (l0 : List Int) (a1 : Int) (r : List Int) (w : World) (hr0 : Kd.C (Kd.int .u8) w A0 l0.length l0) (hc0 : l0.length ≤ c0) (h : shuttletop_cut.f l0 a1 = some r) :
    Calls Tryz.prog 6 #[.slice A0 l0.length c0, .int .i64 a1] w fun e w' => ∃ v0_ : Value, e = .returned (v0_) ∧ Kd.R (Kd.int .u8) 5 w' w.heap.size (fun _ => True) v0_ r ∧ Below w.heap.size w w' := by
  have HR0 := Aside0.mk hr0
  have HC0 := Aside0.mk hc0
  clear hr0 hc0
  have HB := Aside0.mk (Below.refl w.heap.size w)
  have H : ((some (([] : List Int) : List Int)).bind fun y101 => (if 0 ≤ (mn (l0.length : Int) a1) then (if (mn (l0.length : Int) a1) ≤ (l0.length : Int) then (if y101.length + (l0.take ((mn (l0.length : Int) a1) : Int).toNat).length < 140737488355328 then (some (y101 ++ (l0.take ((mn (l0.length : Int) a1) : Int).toNat))) else (none)) else (none)) else (none))) = some r := h
  clear h
  obtain ⟨y101, hy101⟩ : ∃ y_ : List Int, y_ = (([] : List Int)) := ⟨_, rfl⟩
  replace H : (if 0 ≤ (mn (l0.length : Int) a1) then (if (mn (l0.length : Int) a1) ≤ (l0.length : Int) then (if y101.length + (l0.take ((mn (l0.length : Int) a1) : Int).toNat).length < 140737488355328 then (some (y101 ++ (l0.take ((mn (l0.length : Int) a1) : Int).toNat))) else (none)) else (none)) else (none)) = some r := by first | (rw [hy101]; with_reducible exact H) | (have H2_ := (Option.bind_some _ _).symm.trans H; rw [hy101]; with_reducible exact H2_) | (have H2_ := (Option.bind_some _ _).symm.trans H; with_reducible exact H2_) | with_reducible exact H | (rw [hy101]; exact H) | exact H
  have Ny101 := Aside0.mk hy101
  clear hy101
  obtain ⟨ji3, hji3⟩ : ∃ j_ : Int, (mn (l0.length : Int) a1) = j_ := ⟨_, rfl⟩
  replace H : (if 0 ≤ (ji3) then (if (ji3) ≤ (l0.length : Int) then (if y101.length + (l0.take ((ji3) : Int).toNat).length < 140737488355328 then (some (y101 ++ (l0.take ((ji3) : Int).toNat))) else (none)) else (none)) else (none)) = some r := by first | (rw [hji3] at H; exact H) | (simp only [hji3] at H ⊢; exact H)
  have hji3_ : (if a1 < (l0.length : Int) then a1 else (l0.length : Int)) = ji3 := hji3
  by_cases c4 : 0 ≤ (ji3)
  · rw [if_pos c4] at H
    have c4b0 := eq_true c4
    have c4b1 : decide (0 ≤ (ji3)) = true := decide_eq_true c4
    clear c4
    by_cases c5 : (ji3) ≤ (l0.length : Int)
    · rw [if_pos c5] at H
      have c5b0 := eq_true c5
      have c5b1 : decide ((ji3) ≤ (l0.length : Int)) = true := decide_eq_true c5
      clear c5
      by_cases c6 : y101.length + (l0.take ((ji3) : Int).toNat).length < 140737488355328
      · rw [if_pos c6] at H
        have LMc6 := Aside0.mk c6
        clear c6
        obtain ⟨y105, hy105⟩ : ∃ y_ : List Int, y_ = (y101 ++ (l0.take ((ji3) : Int).toNat)) := ⟨_, rfl⟩
        replace H : (some y105) = some r := by first | (rw [hy105]; with_reducible exact H) | (have H2_ := (Option.bind_some _ _).symm.trans H; rw [hy105]; with_reducible exact H2_) | (have H2_ := (Option.bind_some _ _).symm.trans H; with_reducible exact H2_) | with_reducible exact H | (rw [hy105]; exact H) | exact H
        have Ny105 := Aside0.mk hy105
        clear hy105
        obtain rfl := Option.some.inj H
        go_enter Tryz.func6, Tryz.ntmps6
        go_wp2_with (first | ((with_reducible refine gate_dst (N := 5) rfl ?_); refine Kd.R_lit (Kd.int .u8) _ 5 ?hg (N := 5) ?hd (xs := ([] : List Int)) (inner := []) (ok := fun _ => True) (okp := fun _ => True) ?hr ?hp (fun _ hk => hk) trivial (Below.refl _ _) (Nat.le_refl _) (by simp) ?_; (case hd => rfl); (case hg => rfl); (case hr => first | (go_simp; done) | (go_simp; rfl)); (case hp => exact (Reps.none _ _)); intro v102 w7 ho8 hb hg_ hnew_; clear hg_ hnew_; (first | rw [← Ny101.out] at ho8 | (simp only [Int.reduceToNat] at ho8; rw [← Ny101.out] at ho8)); have n0_ := Aside0.mk (Kd.R_lower ho8 (below_size (by repeat (first | (with_reducible first | exact HB.out | apply below_alloc | apply pw_below_drewN | apply below_drew1) | exact HB.out)))); have n1_ := Aside0.mk (below_step (by repeat (first | (with_reducible first | exact HB.out | apply below_alloc | apply pw_below_drewN | apply below_drew1) | exact HB.out)) hb); clear HB; have HO103 := n0_; have HB := n1_; clear n0_ n1_; clear hb ho8; obtain ⟨i09, hi09, _, hsz9, _⟩ := info_parts info5; obtain ⟨hcut9, hA9, hC9⟩ := print_take_of (P := Tryz.prog) (Value.int .u8) 0 31 5 .i64 Tryz.underlying31 hi09 hsz9 A0 c0 l0 (ji3) (of_decide_eq_true (by first | (with_reducible assumption) | assumption)) (of_decide_eq_true (by first | (with_reducible assumption) | assumption)) HC0.out; have HR104 := Aside0.mk (Kd.C_of_reads (h1 := fun _ => rfl) (hA9 _ (Kd.reads_of_C HR0.out))); have HC104 := Aside0.mk hC9; clear hA9 hC9 hi09 hsz9) | ((with_reducible refine gate_builtin (b := .append) (xs := #[.tmp 5, .tmp 11]) rfl ?_); at_builtin; refine Kd.R_append_rows (Kd.int .u8) (w0 := w) w.heap.size rfl (.tmp 5) (.tmp 11) 31 5 (.int .u8 0) 1 rfl Tryz.underlying31 info5 rfl (by decide) (by omega) v102 y101 (l0.take ((ji3) : Int).toNat) _ _ _ (fun _ => True) (fun _ => False) rfl rfl ?aO ?aR (fun _ _ h => h) (fun _ h => h.elim) ?aF ?aB ?aS ?aL ?_; (case aR => first | (refine reads_len (show (l0.take ((ji3) : Int).toNat).length = (ji3).toNat from (by rw [List.length_take]; have h_ : ((ji3) : Int) ≤ (l0.length : Int) := of_decide_eq_true (by first | (with_reducible assumption) | assumption); omega)) ?_; repeat (first | exact (Kd.C_below HR104.out HB.out) | (with_reducible refine Kd.C_alloc ?_ _) | (with_reducible refine Kd.C_drewN ?_ _) | (with_reducible refine Kd.C_drew ?_))) | (repeat (first | exact (Kd.C_below HR104.out HB.out) | (with_reducible refine Kd.C_alloc ?_ _) | (with_reducible refine Kd.C_drewN ?_ _) | (with_reducible refine Kd.C_drew ?_)))); (case aB => exact (by repeat (first | (with_reducible first | exact HB.out | apply below_alloc | apply pw_below_drewN | apply below_drew1) | exact HB.out))); (case aF => exact (fun _ _ => trivial)); (case aO => exact (by (with_reducible repeat (first | apply Kd.R_alloc | apply Kd.R_drewN | apply Kd.R_drew)); exact HO103.out)); (case aS => exact (below_size (by repeat (first | (with_reducible first | exact HB.out | apply below_alloc | apply pw_below_drewN | apply below_drew1) | exact HB.out)))); (case aL => have := LMc6.out; have hlx_ := (show (l0.take ((ji3) : Int).toNat).length = (ji3).toNat from (by rw [List.length_take]; have h_ : ((ji3) : Int) ≤ (l0.length : Int) := of_decide_eq_true (by first | (with_reducible assumption) | assumption); omega)); omega); intro v106 w10 ho hb hg hat; rw [← Ny105.out] at ho; have n0_ := Aside0.mk (hb); have n1_ := Aside0.mk (ho); clear HB; clear HO103; have HB := n0_; have HO107 := n1_; clear n0_ n1_; clear ho hb hg hat))
        go_ret
        exact ⟨_, by first | rfl | (simp [errW_none, errW_some] <;> rfl) | (simp only [← hji3]; first | rfl | (simp [errW_none, errW_some] <;> rfl)) | (simp [*, errW_none, errW_some] <;> rfl), by (with_reducible repeat (first | apply Kd.R_alloc | apply Kd.R_drewN | apply Kd.R_drew)); exact HO107.out, by repeat (first | (with_reducible first | exact HB.out | apply below_alloc | apply pw_below_drewN | apply below_drew1) | exact HB.out)⟩
      · rw [if_neg c6] at H
        exact absurd H (by simp)
    · rw [if_neg c5] at H
      exact absurd H (by simp)
  · rw [if_neg c4] at H
    exact absurd H (by simp)
end
end Go.Proofs.YtknanbnjbilciaaGreatDoor.P
namespace Go.Proofs.YtknanbnjbilciaaGreatDoor.P
open Go Go.Proofs Go.RowKit Go.Proofs.YtknanbnjbilciaaGreatDoorW.PrintWords Go.Proofs.YtknanbnjbilciaaGreatDoorW.PrintLast Go.Proofs.YtknanbnjbilciaaGreatDoorW.PrintMore
set_option linter.unusedVariables false
set_option linter.unusedSimpArgs false
-- YtknanbnjbilciaaGreatDoorPKLaw0
theorem stands_ok : shuttletop_stands.f = some true := by
  unfold shuttletop_stands.f crc32_Sum.f
  rw [if_pos (by decide), Option.bind_some]
  have : ((sum32 [49, 50, 51, 52, 53, 54, 55, 56, 57]).toNat : Int) = 3421780262 := by decide +kernel
  rw [this]; rfl
theorem cut_f (l : List Int) : shuttletop_cut.f l 5 = some (l.take 5) := by
  have h : (mn (l.length : Int) 5).toNat = min l.length 5 := by unfold mn; split <;> omega
  have h0 : 0 ≤ mn (l.length : Int) 5 := by unfold mn; split <;> omega
  have h1 : mn (l.length : Int) 5 ≤ (l.length : Int) := by unfold mn; split <;> omega
  unfold shuttletop_cut.f
  rw [Option.bind_some, if_pos h0, if_pos h1, if_pos (by rw [List.length_take]; show 0 + _ < _; omega), h]
  refine congrArg some ?_
  show [] ++ l.take (min l.length 5) = _
  rw [List.nil_append]
  by_cases c : l.length ≤ 5
  · rw [show min l.length 5 = l.length by omega, List.take_of_length_le (Nat.le_refl _), List.take_of_length_le c]
  · rw [show min l.length 5 = 5 by omega]
/-- Which bits of a code are a version's. -/
def fl (v i : Nat) : List Nat := (List.range i).filter fun j => ver (j % 4) (j / 4) == v
def prt (C : List Int) (v i : Nat) : List Int := (fl v i).map fun j => C.getD j 0
theorem prt_succ (C : List Int) (v i : Nat) : prt C v (i + 1) = prt C v i ++ (if ver (i % 4) (i / 4) = v then [C.getD i 0] else []) := by
  unfold prt fl
  rw [List.range_succ, List.filter_append, List.map_append]
  congr 1
  by_cases h : ver (i % 4) (i / 4) = v
  · rw [if_pos h, List.filter_cons_of_pos (by simpa using h)]; rfl
  · rw [if_neg h, List.filter_cons_of_neg (by simpa using h)]; rfl
theorem prt_le (C : List Int) (v i : Nat) : (prt C v i).length ≤ i := by
  unfold prt fl
  rw [List.length_map]
  exact Nat.le_trans (List.length_filter_le _ _) (by simp)
theorem plc_lt (v m : Nat) : plc v m < 4 * m + 4 ∧ 4 * m ≤ plc v m ∧ plc v m / 4 = m := by
  have : plc v m < 4 * m + 4 ∧ 4 * m ≤ plc v m := by unfold plc; omega
  exact ⟨this.1, this.2, by omega⟩
theorem plc_ver {v : Nat} (hv : v < 4) (j : Nat) : j = plc v (j / 4) ↔ ver (j % 4) (j / 4) = v := by
  unfold plc ver; omega
theorem prt_four (C : List Int) (v : Nat) (hv : v < 4) : ∀ m, prt C v (4 * m) = (List.range m).map fun t => C.getD (plc v t) 0
  | 0 => rfl
  | m + 1 => by
    have ih := prt_four C v hv m
    have q : ∀ s, s < 4 → (ver ((4 * m + s) % 4) ((4 * m + s) / 4) = v ↔ s = (v + m % 4) % 4) := fun s hs => by
      rw [← plc_ver hv, show (4 * m + s) / 4 = m by omega]; unfold plc; omega
    have q0 := q 0 (by decide); have q1 := q 1 (by decide); have q2 := q 2 (by decide); have q3 := q 3 (by decide)
    rw [List.range_succ, List.map_append, ← ih]
    show prt C v (4 * m + 3 + 1) = _
    rw [prt_succ, prt_succ C v (4 * m + 2), prt_succ C v (4 * m + 1), prt_succ C v (4 * m + 0)]
    simp only [q0, q1, q2, q3]
    have e : plc v m = 4 * m + (v + m % 4) % 4 := rfl
    show _ = prt C v (4 * m) ++ [C.getD (plc v m) 0]
    rw [e]
    generalize hr : (v + m % 4) % 4 = r
    obtain rfl | rfl | rfl | rfl : r = 0 ∨ r = 1 ∨ r = 2 ∨ r = 3 := by omega
    all_goals simp
/-- A version's part. -/
def vp (C : List Int) (v m : Nat) : List Int := (List.range m).map fun t => C.getD (plc v t) 0
theorem vp_len (C : List Int) (v m : Nat) : (vp C v m).length = m := by simp [vp]
theorem vp_get (C : List Int) (v m t : Nat) (h : t < m) : (vp C v m).getD t 0 = C.getD (plc v t) 0 := by
  unfold vp
  rw [List.getD_eq_getElem?_getD, List.getElem?_map, List.getElem?_range h]; rfl
theorem vp_isb {C : List Int} (hb : ∀ x ∈ C, isb x) (v m : Nat) : ∀ x ∈ vp C v m, isb x := by
  intro x hx
  simp only [vp, List.mem_map] at hx
  obtain ⟨t, _, rfl⟩ := hx
  exact getD_isb hb _
-- YtknanbnjbilciaaGreatDoorPKSum
structure Sum (l : List Int) (W : Nat → Int) (T B : Nat) (σ : List Int) : Prop where
  tau : ∃ τ : Nat → Int, (∀ j, 0 ≤ τ j) ∧ tsum τ (4 * (l.length + 6)) ≤ (T : Int) ∧ ∀ j, j < 4 * (l.length + 6) → σ.getD j 0 = so ((code l).getD j 0) * (W (ver (j % 4) (j / 4)) - 2 * τ j)
  bnd : ∀ j, -(B : Int) ≤ σ.getD j 0 ∧ σ.getD j 0 ≤ (B : Int)
  len : σ.length = 4 * (l.length + 6)
theorem tsum_zero : ∀ k, tsum (fun _ => 0) k = 0
  | 0 => rfl
  | k + 1 => by unfold tsum; rw [tsum_zero k]; rfl
theorem rep_getD (m j : Nat) : (List.replicate m (0 : Int)).getD j 0 = 0 := by
  rw [List.getD_eq_getElem?_getD, List.getElem?_replicate]
  split <;> rfl
theorem Sum.zero (l : List Int) : Sum l (fun _ => 0) 0 0 (List.replicate (4 * (l.length + 6)) 0) := by
  refine ⟨⟨fun _ => 0, fun _ => Int.le_refl _, by rw [tsum_zero]; exact Int.le_refl _, fun j hj => ?_⟩, fun j => by rw [rep_getD]; omega, by rw [List.length_replicate]⟩
  rw [rep_getD]; simp
theorem Sum.of {l : List Int} {W W' : Nat → Int} {T B : Nat} {σ : List Int} (h : Sum l W T B σ) (hW : ∀ u, u < 4 → W' u = W u) : Sum l W' T B σ := by
  obtain ⟨⟨τ, h1, h2, h3⟩, h4, h5⟩ := h
  exact ⟨⟨τ, h1, h2, fun j hj => by rw [h3 j hj, hW _ (ver_lt _ _)]⟩, h4, h5⟩
theorem toI_inp {l : List Int} (hl : ∀ x ∈ l, isb x) : toI ((inp l 0 (l.length + 6)).take l.length) = l := by
  apply List.ext_getElem?
  intro j
  unfold toI
  rw [List.getElem?_map, List.getElem?_take]
  by_cases h : j < l.length
  · rw [if_pos h, inp_get _ _ _ _ (by omega), inN_at, Nat.zero_add, List.getD_eq_getElem?_getD, List.getElem?_eq_getElem h]
    have := isb01 (hl _ (List.getElem_mem h))
    show some ((l[j].toNat : Nat) : Int) = _
    refine congrArg some ?_
    omega
  · rw [if_neg h, List.getElem?_eq_none (by omega)]; rfl
-- YtknanbnjbilciaaGreatDoorPKAlone
theorem first_of {p : Nat → Prop} (n : Nat) : p n → ∃ m, m ≤ n ∧ p m ∧ ∀ j, j < m → ¬ p j := by
  induction n using Nat.strongRecOn with
  | ind n ih =>
    intro h
    by_cases c : ∃ j, j < n ∧ p j
    · obtain ⟨j, hj, hp⟩ := c
      obtain ⟨m, h1, h2, h3⟩ := ih j hj hp
      exact ⟨m, by omega, h2, h3⟩
    · exact ⟨n, Nat.le_refl _, h, fun j hj hp => c ⟨j, hj, hp⟩⟩
theorem wcode_hit {W : Nat → Int} (hW : ∀ v, v < 4 → 0 ≤ W v ∧ W v ≤ 7) {X : List Int} (hX : ∀ x ∈ X, isb x) {p : Nat} (h1 : X.getD p 0 = 1) (h2 : W (ver (p % 4) (p / 4)) = 1) : ∀ i, p < i → 1 ≤ wcode W X i
  | 0, h => absurd h (by omega)
  | i + 1, h => by
    show 1 ≤ wcode W X i + X.getD i 0 * W (ver (i % 4) (i / 4))
    by_cases e : i = p
    · rw [e, h1, h2]
      have := (wcode_in hW hX p).1
      omega
    · have ih := wcode_hit hW hX h1 h2 i (by omega)
      have hv := hW _ (ver_lt (i % 4) (i / 4))
      rcases getD_isb hX i with e | e <;> rw [e] <;> omega
theorem ob_first : ∀ s : Fin 4, ob 0 1 s.val = 1 := by decide
theorem holds1 {v : Nat} (hv : v < 4) {a b X : List Int} (ha : ∀ x ∈ a, isb x) (hb : ∀ x ∈ b, isb x) (hl : b.length = a.length) (hne : a ≠ b)
    (hXl : X.length = 4 * (a.length + 6)) (hX : ∀ i, i < 4 * (a.length + 6) → X.getD i 0 = Go.bits .xor .u8 ((code a).getD i 0) ((code b).getD i 0)) :
    1 ≤ wcode (fun u => if u = v then 1 else 0) X (4 * (a.length + 6)) := by
  obtain ⟨n, hn⟩ : ∃ n, n = a.length := ⟨_, rfl⟩
  have ta : a.take n = a := List.take_of_length_le (by omega)
  have tb : b.take n = b := List.take_of_length_le (by omega)
  have hz := zx_isb ha hb n
  have hX2 : ∀ t s, t < n + 6 → s < 4 → X.getD (4 * t + s) 0 = bitB (lb (zx a b n) t) s 7 := fun t s ht hs => by
    rw [hX _ (by omega), bit_zx ha hb, ta, tb]
    unfold code
    rw [codeN_getD _ t s hs _ (by omega), codeN_getD _ t s hs _ (by omega)]
  have hXb : ∀ x ∈ X, isb x := fun x hx => by
    obtain ⟨i, hi, rfl⟩ := List.getElem_of_mem hx
    have e : X[i] = X.getD i 0 := by rw [List.getD_eq_getElem?_getD, List.getElem?_eq_getElem hi]; rfl
    have h := hX2 (i / 4) (i % 4) (by omega) (by omega)
    rw [show 4 * (i / 4) + i % 4 = i by omega] at h
    rw [e, h]
    exact bitB_isb (lb_isb hz _) _ _
  have hex : ∃ t, t < n ∧ (zx a b n).getD t 0 ≠ 0 := by
    refine Classical.byContradiction fun hno => hne (List.ext_getElem? fun j => ?_)
    by_cases c : j < n
    · have h : (zx a b n).getD j 0 = 0 := Classical.byContradiction fun h => hno ⟨j, c, h⟩
      rw [zx_getD, ta, tb] at h
      have h1 := getD_isb ha j
      have h2 := getD_isb hb j
      have e : a.getD j 0 = b.getD j 0 := by
        rcases h1 with e1 | e1 <;> rcases h2 with e2 | e2 <;> rw [e1, e2] at h ⊢
        · exact absurd h (by decide +kernel)
        · exact absurd h (by decide +kernel)
      rw [List.getD_eq_getElem?_getD, List.getD_eq_getElem?_getD, List.getElem?_eq_getElem (by omega), List.getElem?_eq_getElem (by omega)] at e
      rw [List.getElem?_eq_getElem (by omega), List.getElem?_eq_getElem (by omega)]
      exact congrArg some e
    · rw [List.getElem?_eq_none (by omega), List.getElem?_eq_none (by omega)]
  obtain ⟨t0, ht0, hp0⟩ := hex
  obtain ⟨t, ht, hp, hq⟩ := first_of (p := fun t => (zx a b n).getD t 0 ≠ 0) t0 hp0
  have hzero : ∀ j, j < t → (zx a b n).getD j 0 = 0 := fun j hj => Classical.byContradiction fun h => hq j hj h
  have h1 : lb (zx a b n) t 0 = 1 := by
    rw [lb_zero]
    rcases getD_isb hz t with e | e
    · exact absurd e hp
    · exact e
  have hk : ∀ k, 1 ≤ k → lb (zx a b n) t k = 0 := fun k hk => by
    unfold lb
    split
    · exact hzero _ (by omega)
    · rfl
  have hs : sd (lb (zx a b n) t) = 0 := by
    unfold sd
    rw [hk 1 (by decide), hk 2 (by decide), hk 3 (by decide), hk 4 (by decide), hk 5 (by decide), hk 6 (by decide)]; rfl
  have hone : ∀ s, s < 4 → X.getD (4 * t + s) 0 = 1 := fun s hs4 => by
    rw [hX2 t s (by omega) hs4, ← ob_wd (lb_isb hz t) s hs4, hs, h1]
    exact ob_first ⟨s, hs4⟩
  have hs4 : (v + t % 4) % 4 < 4 := Nat.mod_lt _ (by decide)
  have hpd : plc v t = 4 * t + (v + t % 4) % 4 := rfl
  have hver : ver (plc v t % 4) (plc v t / 4) = v := (plc_ver hv (plc v t)).1 (by rw [(plc_lt v t).2.2])
  refine wcode_hit (fun u _ => by split <;> omega) hXb (p := plc v t) (by rw [hpd]; exact hone _ hs4) (by rw [hver, if_pos rfl]) _ (by have := plc_lt v t; omega)
theorem alone1 {l : List Int} (hl : ∀ x ∈ l, isb x) {v : Nat} (hv : v < 4) {g : Nat → Int} (hg : ∀ j, j < 4 * (l.length + 6) → g j = so ((code l).getD j 0) * (if ver (j % 4) (j / 4) = v then 1 else 0)) : Alone g (l.length + 6) l.length (inp l 0 (l.length + 6)) := by
  have hs := sc_inp g hl (l.length + 6) 0 (by omega)
  rw [stN_zero, Nat.zero_add] at hs
  refine ⟨inp_len _ _ _, okr_inp _ hl rfl _ _, by rw [hs.2]; exact stN_end, fun u u1 u2 u3 u4 => ?_⟩
  obtain ⟨z, z1, z2, rfl⟩ := okr_inp_of u1 u2
  have hz := sc_inp g z2 (l.length + 6) 0 (by omega)
  rw [stN_zero, Nat.zero_add] at hz
  rw [hs.1, hz.1]
  have hci : ∀ {q : List Int}, (∀ x ∈ q, isb x) → ∀ j, isb ((code q).getD j 0) := fun hq j => getD_isb (codeN_isb hq _) j
  obtain ⟨X, hX⟩ : ∃ X : List Int, X = (List.range (4 * (l.length + 6))).map fun j => Go.bits .xor .u8 ((code l).getD j 0) ((code z).getD j 0) := ⟨_, rfl⟩
  have hXl : X.length = 4 * (l.length + 6) := by rw [hX]; simp
  have hXv : ∀ j, j < 4 * (l.length + 6) → X.getD j 0 = Go.bits .xor .u8 ((code l).getD j 0) ((code z).getD j 0) := fun j hj => by
    rw [hX, List.getD_eq_getElem?_getD, List.getElem?_map, List.getElem?_range hj]; rfl
  have hne : l ≠ z := fun e => u4 (by rw [e, z1])
  have hh := holds1 hv hl z2 z1 hne hXl hXv
  have hd := score_diff (g := g) (W := fun u => if u = v then 1 else 0) (τ := fun _ => 0) (hci hl) (hci z2) (fun _ => Int.le_refl _) (4 * (l.length + 6)) (fun j hj => by rw [hg j hj]; simp) hXv
  rw [tsum_zero] at hd
  simp only [Nat.mul_zero, scode]
  omega
/-- One right copy in an empty buffer. -/
theorem alone_clean {l : List Int} (hl : ∀ x ∈ l, isb x) {v : Nat} (hv : v < 4) {P : List Int} (hP : ∀ t, t < l.length + 6 → P.getD t 0 = (code l).getD (plc v t) 0) :
    Alone (fun j => (adK (List.replicate (4 * (l.length + 6)) 0) v P (l.length + 6)).getD j 0) (l.length + 6) l.length (inp l 0 (l.length + 6)) ∧ ∀ j, -1 ≤ (adK (List.replicate (4 * (l.length + 6)) 0) v P (l.length + 6)).getD j 0 ∧ (adK (List.replicate (4 * (l.length + 6)) 0) v P (l.length + 6)).getD j 0 ≤ 1 := by
  refine ⟨alone1 hl hv fun j hj => ?_, fun j => ?_⟩
  · show (adK (List.replicate (4 * (l.length + 6)) 0) v P (l.length + 6)).getD j 0 = _
    rw [adK_get _ v P j _ (by rw [List.length_replicate]; omega), rep_getD]
    by_cases c : ver (j % 4) (j / 4) = v
    · rw [if_pos ⟨by omega, (plc_ver hv j).2 c⟩, if_pos c, hP _ (by omega), ← (plc_ver hv j).2 c]; omega
    · rw [if_neg (fun h => c ((plc_ver hv j).1 h.2)), if_neg c]; omega
  · rw [adK_get _ v P j _ (by rw [List.length_replicate]; omega), rep_getD]
    have := so_pm (P.getD (j / 4) 0)
    split <;> omega
end Go.Proofs.YtknanbnjbilciaaGreatDoor.P
namespace Go.Proofs.YtknanbnjbilciaaGreatDoor.P
open Go Go.Proofs Go.RowKit Go.Shelf Go.Proofs.YtknanbnjbilciaaGreatDoorW.PrintWords Go.Proofs.YtknanbnjbilciaaGreatDoorW.PrintLast Go.Proofs.YtknanbnjbilciaaGreatDoorW.PrintMore
set_option linter.unusedVariables false
-- YtknanbnjbilciaaGreatDoorPChunk
section
attribute [local go_sem] Oper.semAt_some

/-- The parts, by their numbers. -/
abbrev Part (len : Nat) := { x : Nat // 8 * x < len }
def partV (ad : Addr) (len : Nat) (x : Part len) : Value := .slice (some (ad.add (8 * x.1))) (min 8 (len - 8 * x.1)) (min 8 (len - 8 * x.1))

set_option maxRecDepth 100000 in
set_option maxHeartbeats 2000000 in
theorem chunk1_in (F : Fence) (n : Nat) (h7 : F.fn 99) (hro : F.round = none) (hn : 1 ≤ n) (l Bs Bn : Nat) (ad : Addr) (len cap : Nat) (hlen : len < 140737488355328) (hcap : len ≤ cap)
    (Kp : World → World → Prop) (hKs : ∀ A B, Kp A B → A.cell? ⟨Bs, 0, none⟩ = some (.slice (some ad) len cap) → B.cell? ⟨Bs, 0, none⟩ = some (.slice (some ad) len cap)) (hKn : ∀ A B, Kp A B → A.cell? ⟨Bn, 0, none⟩ = some (.int .i64 8) → B.cell? ⟨Bn, 0, none⟩ = some (.int .i64 8)) (J Jx : List (Part len) → World → Prop)
    (hY : ∀ pre (x : Part len) W, J pre W → pre.length < len → YieldAt F (n - 1) Tryz.prog l #[partV ad len x] W fun e W' =>
      (e = .returned (.bool true) ∧ J (pre ++ [x]) W' ∧ Kp W W') ∨ (e = .returned (.bool false) ∧ Jx (pre ++ [x]) W'))
    (hJd : ∀ pre W, J pre W → J pre W.drew)
    (W : World) (hcs : W.cell? ⟨Bs, 0, none⟩ = some (.slice (some ad) len cap)) (hcn : W.cell? ⟨Bn, 0, none⟩ = some (.int .i64 8)) (h0 : J [] W) :
    CallsIn F n Tryz.prog 99 #[.func (.yield l) #[] #[], .pointer (some ⟨Bs, 0, none⟩), .pointer (some ⟨Bn, 0, none⟩)] W fun e W' => (∃ v, e = .returned v) ∧
      ((∃ ys, ys.map (·.1) = List.range ((len + 7) / 8) ∧ J ys W') ∨ (∃ pre, Jx pre W')) := by
  refine callsIn_of_wp Tryz.func99 rfl h7 ?_ hro
  simp only [Tryz.ntmps99, List.size_toArray, List.length_cons, List.length_nil, Nat.reduceAdd, Nat.reduceSub, Array.replicate_succ, Array.replicate_zero, List.push_toArray, List.append_toArray, List.nil_append, List.cons_append]
  gi_wp2
  gi_loopw [4] (fun i wr => ∃ (k : Nat) (pre : List (Part len)), 8 * k < len + 8 ∧ i = .int .i64 ((8 * k : Nat) : Int) ∧ pre.map (·.1) = List.range k ∧ J pre wr ∧ wr.cell? ⟨Bs, 0, none⟩ = some (.slice (some ad) len cap) ∧ wr.cell? ⟨Bn, 0, none⟩ = some (.int .i64 8))
    (fun i _ => len + 8 - (intOf i).toNat)
  case atStart => exact ⟨0, [], by omega, rfl, rfl, h0, hcs, hcn⟩
  case round =>
    obtain ⟨k, pre, hk, rfl, hpre, hJs, hcs', hcn'⟩ := hrel
    have hpl : pre.length = k := by have := congrArg List.length hpre; simpa using this
    by_cases hlt : 8 * k < len
    · have hcs2 : wr.drew.cell? ⟨Bs, 0, none⟩ = some (.slice (some ad) len cap) := hcs'
      have hcn2 : wr.drew.cell? ⟨Bn, 0, none⟩ = some (.int .i64 8) := hcn'
      obtain ⟨j, hj⟩ : ∃ j : Nat, min 8 (len - 8 * k) = j := ⟨_, rfl⟩
      have hif : (if ((len - 8 * k : Nat) : Int) < 8 then ((len - 8 * k : Nat) : Int) else 8) = (j : Int) := by split <;> omega
      have hj1 : j ≤ 8 := by omega
      have hj2 : 8 * k + j ≤ len := by omega
      obtain ⟨fn, tmps, assign, body, hy, hR⟩ := hY pre ⟨k, hlt⟩ wr.drew (hJd _ _ hJs) (by omega)
      simp only [partV, hj] at hy
      clear hY
      gi_wp2
      gi_region
      all_goals (clear hcs' hcn')
      all_goals
        gi_wp2
        refine hR.mono ?_
        rintro e W3 (⟨rfl, hJ3, hk3⟩ | ⟨rfl, hJx3⟩)
        · have hcs3 := hKs _ _ hk3 hcs2
          have hcn3 := hKn _ _ hk3 hcn2
          clear hR hy hk3
          gi_wp2
          go_roundw
          case rel => exact ⟨k + 1, pre ++ [⟨k, hlt⟩], by omega, by first | rfl | (congr 1; omega) | simp, by rw [List.map_append, hpre, List.range_succ]; rfl, hJ3, hcs3, hcn3⟩
          case measure => simp [intOf]; omega
        · clear hR hy
          gi_wp2
          refine bodyPost_ret (results_none rfl _ _ _) rfl ?_
          exact ⟨⟨_, rfl⟩, .inr ⟨_, hJx3⟩⟩
    · gi_wp2
      go_end0
      exact ⟨⟨_, rfl⟩, .inl ⟨pre, by rw [hpre]; congr 1; omega, hJs⟩⟩

set_option maxRecDepth 100000 in
set_option maxHeartbeats 1000000 in
theorem chunk1_nil_in (F : Fence) (n : Nat) (h7 : F.fn 99) (hro : F.round = none) (l Bs Bn : Nat) (A : Option Addr) (cap : Nat) (J : World → Prop) (W : World)
    (hcs : W.cell? ⟨Bs, 0, none⟩ = some (.slice A 0 cap)) (h0 : J W) :
    CallsIn F n Tryz.prog 99 #[.func (.yield l) #[] #[], .pointer (some ⟨Bs, 0, none⟩), .pointer (some ⟨Bn, 0, none⟩)] W fun e W' => (∃ v, e = .returned v) ∧ J W' := by
  refine callsIn_of_wp Tryz.func99 rfl h7 ?_ hro
  simp only [Tryz.ntmps99, List.size_toArray, List.length_cons, List.length_nil, Nat.reduceAdd, Nat.reduceSub, Array.replicate_succ, Array.replicate_zero, List.push_toArray, List.append_toArray, List.nil_append, List.cons_append]
  gi_wp2
  gi_loopw [4] (fun i wr => i = .int .i64 0 ∧ J wr ∧ wr.cell? ⟨Bs, 0, none⟩ = some (.slice A 0 cap)) (fun _ _ => 0)
  case atStart => exact ⟨rfl, h0, hcs⟩
  case round =>
    obtain ⟨rfl, hJs, hcs'⟩ := hrel
    gi_wp2
    go_end0
    exact ⟨⟨_, rfl⟩, hJs⟩

set_option maxHeartbeats 1000000 in
theorem chunk_in (F : Fence) (n : Nat) (h5 : F.fn 71) (hro : F.round = none) (A : Option Addr) (len cap : Nat) (w : World) :
    CallsIn F n Tryz.prog 71 #[.slice A len cap, .int .i64 8] w fun e w' => e = .returned (.func (.func 99) #[] #[.pointer (some ⟨w.heap.size, 0, none⟩), .pointer (some ⟨w.heap.size + 1, 0, none⟩)]) ∧
      w' = (w.alloc (.cells #[.slice A len cap] 31)).alloc (.cells #[.int .i64 8] 3) := by
  refine callsIn_of_wp Tryz.func71 rfl h5 ?_ hro
  simp only [Tryz.ntmps71, List.size_toArray, List.length_cons, List.length_nil, Nat.reduceAdd, Nat.reduceSub, Array.replicate_succ, Array.replicate_zero, List.push_toArray, List.append_toArray, List.nil_append, List.cons_append]
  gi_wp2
  go_ret
  exact ⟨by simp, rfl⟩
end
end Go.Proofs.YtknanbnjbilciaaGreatDoor.P
-- YtknanbnjbilciaaGreatDoorP32
namespace Go.Proofs.YtknanbnjbilciaaGreatDoor.P
open Go.RowKit Go.Proofs.YtknanbnjbilciaaGreatDoorW.PrintWords Go.Proofs.YtknanbnjbilciaaGreatDoorW.PrintLast Go.Proofs.YtknanbnjbilciaaGreatDoorW.PrintMore
attribute [local go_sem] max2_int min2_int max_two min_two max_three min_three max_four min_four
set_option linter.unusedVariables false
set_option linter.unusedSimpArgs false

/-! ### bits_Bytes: function 38 -/
open Go Go.Proofs Go.Shelf
attribute [local go_sem] Oper.semAt_some

def byOf (l : List Int) (x : Nat) : Nat → Int
  | 0 => 0
  | k + 1 => Go.bits .or .u8 (byOf l x k) (shl .u8 (l.getD (8 * x + k) 0) (7 - (k : Int)))
def byte (l : List Int) (x : Nat) : Int := byOf l x (min 8 (l.length - 8 * x))
def bits_Bytes.f (k : Nat) (l0 : List Int) : Option (List Int × Int) := (bits_Right.f k l0).bind fun t => if t = true then (if l0.length < 140737488355328 then some ((List.range ((l0.length + 7) / 8)).map (byte l0), 0) else none) else some ([], 5)
theorem bits_Bytes.mono : ∀ a0 k, LeO (bits_Bytes.f k a0) (bits_Bytes.f (k + 1) a0) := by
  intro a0 k
  unfold bits_Bytes.f
  exact LeO.bind (bits_Right.mono a0 k) (fun _ => LeO.refl _)

theorem bytes_info : (Tryz.prog.info? 5).map (fun i => (i.zero, i.size, i.bytes)) = some (some (.int .u8 0), 1, 1) := by kernel_rfl
def keepsK (Bs Bn n₀ : Nat) (A B : World) : Prop := Below n₀ A B ∧ B.heap[Bs]? = A.heap[Bs]? ∧ B.heap[Bn]? = A.heap[Bn]?
theorem keepsK_t {Bs Bn n₀ : Nat} {A B C : World} (h : keepsK Bs Bn n₀ A B) (k : keepsK Bs Bn n₀ B C) : keepsK Bs Bn n₀ A C := ⟨h.1.trans k.1, k.2.1.trans h.2.1, k.2.2.trans h.2.2⟩
theorem keepsK_b {Bs Bn n₀ : Nat} {w : World} (hn : n₀ ≤ w.heap.size) (hs : Bs < w.heap.size) (hn' : Bn < w.heap.size) (W : World) (l : Nat) (o o' : Obj) (hl : w.heap.size ≤ l) (h : W.heap[l]? = some o) (h1 : o.isCells = false) (h2 : o.isWalk = false) : keepsK Bs Bn n₀ W (W.putObj l o') := by
  have hlt := (Array.getElem?_eq_some_iff.1 h).1
  exact ⟨belowK_b hn W l o o' hl h h1 h2, (grownBy_putObj' W l o').block Bs (by omega) (fun e => by cases e; omega), (grownBy_putObj' W l o').block Bn (by omega) (fun e => by cases e; omega)⟩
theorem keepsK_cell {Bs Bn n₀ : Nat} {A B : World} (h : keepsK Bs Bn n₀ A B) : B.cell? ⟨Bs, 0, none⟩ = A.cell? ⟨Bs, 0, none⟩ ∧ B.cell? ⟨Bn, 0, none⟩ = A.cell? ⟨Bn, 0, none⟩ := by
  unfold World.cell?
  exact ⟨by simp only [h.2.1], by simp only [h.2.2]⟩
theorem abides_drew {α : Type} {B : Nat} {J : List α → World → Prop} (h : AbidesFrom B J) (pre : List α) (W : World) (hj : J pre W) : J pre W.drew :=
  h pre W W.drew none hj ⟨rfl, rfl, rfl, Nat.le_refl _, fun _ _ _ => rfl⟩ (fun _ e => by cases e)
theorem reps_u8 (w : World) (base : Nat) (ok : Nat → Prop) : ∀ ps : List Int, Reps ((Kd.int .u8).M w base ok) 1 ps (ps.map (Value.int .u8))
  | [] => Reps.none _ _
  | p :: ps => Reps.one rfl (reps_u8 w base ok ps)
theorem chunk_stops (F : Fence) (n : Nat) (h7 : F.fn 99) (hro : F.round = none) (hn : 1 ≤ n) (Bs Bn n₀ : Nat) (A : Option Addr) (ad : Addr) (len cap : Nat) (hA : 0 < len → A = some ad) (hlen : len < 140737488355328) (hcap : len ≤ cap) (w : World)
    (hs : Bs < w.heap.size) (hb : Bn < w.heap.size)
    (hcs : w.cell? ⟨Bs, 0, none⟩ = some (.slice A len cap)) (hcn : w.cell? ⟨Bn, 0, none⟩ = some (.int .i64 8)) :
    SeqStopsK F n Tryz.prog 99 #[.pointer (some ⟨Bs, 0, none⟩), .pointer (some ⟨Bn, 0, none⟩)] (fun x : Part len => #[partV ad len x]) (keepsK Bs Bn n₀) (fun ys => ys.map (·.1) = List.range ((len + 7) / 8)) (fun _ => True) len w := fun l J Jx W hW hJ _ hY h0 => by
  have hcs' := (hW.cell (p := ⟨Bs, 0, none⟩) hs).trans hcs
  have hcn' := (hW.cell (p := ⟨Bn, 0, none⟩) hb).trans hcn
  by_cases h : 0 < len
  · obtain rfl := hA h
    refine (chunk1_in F n h7 hro hn l Bs Bn ad len cap hlen hcap (keepsK Bs Bn n₀) (fun X Y k e => (keepsK_cell k).1.trans e) (fun X Y k e => (keepsK_cell k).2.trans e) J Jx hY (abides_drew hJ) W hcs' hcn' h0).mono ?_
    rintro e W' ⟨he, ⟨ys, hys, hj⟩ | ⟨pre, hj⟩⟩
    · exact ⟨he, .inl ⟨ys, hys, hj⟩⟩
    · exact ⟨he, .inr ⟨pre, trivial, hj⟩⟩
  · obtain rfl : len = 0 := by omega
    exact (chunk1_nil_in F n h7 hro l Bs Bn A cap (J []) W hcs' h0).mono fun e W' ⟨he, hj⟩ => ⟨he, .inl ⟨[], rfl, hj⟩⟩

set_option maxRecDepth 100000 in
set_option maxHeartbeats 4000000 in
theorem bits_Bytes.calls (k : Nat) (A0 : Option Addr) (c0 : Nat) (l0 : List Int) (r1 : List Int) (r2 : Int) (w : World) (hr0 : Kd.C (Kd.int .u8) w A0 l0.length l0) (hc0 : l0.length ≤ c0) (h : bits_Bytes.f k l0 = some (r1, r2)) :
    Calls Tryz.prog 38 #[.slice A0 l0.length c0] w fun e w' => ∃ v0_ : Value, e = .returned (.tuple #[v0_, .int .i64 r2]) ∧ Kd.R (Kd.int .u8) 5 w' w.heap.size (fun _ => True) v0_ r1 ∧ Below w.heap.size w w' := by
  unfold bits_Bytes.f at h
  obtain ⟨t, ht, h⟩ := Option.bind_eq_some_iff.mp h
  refine (callsIn_wide (n := 5)).1 ?_
  have hro : Fence.wide.round = none := rfl
  refine callsIn_of_wp_marks Tryz.func38 rfl trivial ?_ hro
  simp only [Tryz.ntmps38, List.size_toArray, List.length_cons, List.length_nil, Nat.reduceAdd, Nat.reduceSub, Array.replicate_succ, Array.replicate_zero, List.push_toArray, List.append_toArray, List.nil_append, List.cons_append]
  have hR := (callsIn_wide (n := 4)).2 (bits_Right.calls k A0 c0 l0 t w hr0 hc0 ht)
  cases t with
  | false =>
    rw [if_neg (by decide)] at h
    cases h
    gi_wp2_with (first | (gi_at_call 35; refine hR.mono ?_; rintro e w' ⟨rfl, ⟨m, rfl⟩⟩) | (refine ⟨trivial, ?_⟩; gi_at_call 35; refine hR.mono ?_; rintro e w' ⟨rfl, ⟨m, rfl⟩⟩))
    exact ⟨_, results_tmp2 rfl _ _ _, _, rfl, Kd.R_nil _ _ _ _ _, pw_below_drewN (Below.refl _ _) m⟩
  | true =>
    rw [if_pos rfl] at h
    by_cases hl : l0.length < 140737488355328
    · rw [if_pos hl] at h
      cases h
      gi_wp2_with (first | (gi_at_call 35; refine hR.mono ?_; rintro e w' ⟨rfl, ⟨m, rfl⟩⟩) | (refine ⟨trivial, ?_⟩; gi_at_call 35; refine hR.mono ?_; rintro e w' ⟨rfl, ⟨m, rfl⟩⟩))
      obtain ⟨w1, hw1⟩ : ∃ w1, w.drewN m = w1 := ⟨_, rfl⟩
      have hB1 : Below w.heap.size w w1 := by rw [← hw1]; exact pw_below_drewN (Below.refl _ _) m
      have hs1 : w1.heap.size = w.heap.size := by rw [← hw1]; rfl
      have hC1 := Kd.C_below hr0 hB1
      simp only [hw1, ← hs1]
      refine ⟨trivial, (chunk_in Fence.wide 4 trivial hro _ _ _ _).mono ?_⟩
      rintro e w2' ⟨rfl, rfl⟩
      gi_wp2
      obtain ⟨ad, hA⟩ : ∃ ad, 0 < l0.length → A0 = some ad := by
        by_cases hp : 0 < l0.length
        · obtain ⟨ad, ha, _⟩ := hC1.2.2 hp; exact ⟨ad, fun _ => ha⟩
        · exact ⟨⟨0, 0, none⟩, fun h => absurd h hp⟩
      have bO := Boxed.new w1 31 (.slice none 0 0)
      have bS := Boxed.new (w1.alloc (.cells #[.slice none 0 0] 31)) 31 (.slice A0 l0.length c0)
      have bN := Boxed.new ((w1.alloc (.cells #[.slice none 0 0] 31)).alloc (.cells #[.slice A0 l0.length c0] 31)) 3 (.int .i64 8)
      simp only [World.size_alloc] at bS bN
      have hB2 : Below w1.heap.size w1 (((w1.alloc (.cells #[.slice none 0 0] 31)).alloc (.cells #[.slice A0 l0.length c0] 31)).alloc (.cells #[.int .i64 8] 3)) :=
        (((Below.refl _ w1).alloc (Nat.le_refl _) _).alloc (by simp) _).alloc (by first | (simp; done) | (simp; omega)) _
      obtain ⟨i0, hi, hz0, hz1, hz2⟩ := info_parts bytes_info
      rw [← hs1]
      have HS := Aside0.mk hs1
      clear hs1
      refine wpIn_rangeFunc_ownG hro (by omega) (gf := 99) (lb := #[.pointer (some ⟨w1.heap.size + 1, 0, none⟩), .pointer (some ⟨w1.heap.size + 1 + 1, 0, none⟩)]) rfl trivial (enters_of Tryz.func99 (by kernel_rfl) rfl)
        (chunk_stops Fence.wide 4 trivial hro (by omega) (w1.heap.size + 1) (w1.heap.size + 1 + 1) w1.heap.size A0 ad l0.length c0 hA hl hc0 _ (by first | (simp; done) | (simp; omega)) (by simp) (bS.alloc _).cell bN.cell) keepsK_t (keepsK_b (by first | (simp; done) | (simp; omega)) (by first | (simp; done) | (simp; omega)) (by simp)) (Below.refl _ _) (fun _ => rfl)
        (fun pre W => (∃ v, Boxed W w1.heap.size 31 v ∧ W.ownsRow w1.heap.size 5 1 v pre.length (pre.map fun x => Value.int .u8 (byte l0 x.1)) ∧ True) ∧ Boxed W (w1.heap.size + 1) 31 (.slice A0 l0.length c0) ∧ Boxed W (w1.heap.size + 1 + 1) 3 (.int .i64 8) ∧ Below w1.heap.size w1 W)
        (fun _ _ _ => False)
        (OwnFrom.and (Own.from (holdsRow_own w1.heap.size w1.heap.size 31 5 1 (fun pre : List (Part l0.length) => pre.length) (fun pre : List (Part l0.length) => pre.map fun x => Value.int .u8 (byte l0 x.1)) (fun (pre : List (Part l0.length)) v => True)) _)
          (OwnFrom.and (Own.from (boxed_own _ _ (fun _ => _)) _) (OwnFrom.and (Own.from (boxed_own _ _ (fun _ => _)) _) (ownFrom_below (Nat.le_refl _) (by simp; omega)))))
        (fun _ _ _ _ _ hs _ _ => hs)
        ⟨⟨_, (bO.alloc _).alloc _, World.ownsRow_nil _ _ _ _, trivial⟩, bS.alloc _, bN, hB2⟩
        (fun x => { tmps := #[.slice A0 l0.length c0, undef, .slice none 0 0, .int .i64 0, .pointer (some ⟨w1.heap.size, 0, none⟩), partV ad l0.length x, undef, undef, undef, .slice A0 l0.length c0, .bool true, .bool false, .slice A0 l0.length c0,
          .func (.func 99) #[] #[.pointer (some ⟨w1.heap.size + 1, 0, none⟩), .pointer (some ⟨w1.heap.size + 1 + 1, 0, none⟩)], partV ad l0.length x, undef, undef, undef, undef, undef, undef, undef, undef, undef, undef, undef, undef, undef, undef, undef, undef, undef, undef, undef], defers := [] }) ?assign ?body ?done ?stop
      case assign =>
        intro l x W K hK
        gi_wp2
        exact hK
      case body =>
        rintro l pre x W ⟨⟨v, hv, hrow, _⟩, hbs, hbn, hB⟩ hlt
        have hcC := Kd.C_below hC1 hB
        obtain ⟨j, hj⟩ : ∃ j : Nat, min 8 (l0.length - 8 * x.1) = j := ⟨_, rfl⟩
        have hxl := x.2
        have hcell : ∀ i, i < j → W.cell? ((ad.add (8 * x.1)).add i) = some (.int .u8 (l0.getD (8 * x.1 + i) 0)) := by
          intro i hi
          have hlt8 : 8 * x.1 + i < l0.length := by omega
          obtain ⟨ad', ea, hcs⟩ := hcC.2.2 (by omega)
          obtain rfl : ad' = ad := by
            have := hA (by omega)
            rw [ea] at this
            exact Option.some.inj this
          obtain ⟨c, h1, h2, h3⟩ := hcs (8 * x.1 + i) _ (List.getElem?_eq_getElem hlt8)
          have h2' : c = [Value.int .u8 l0[8 * x.1 + i]] := h2
          subst h2'
          have h4 := h3 0 _ rfl
          rw [Addr.add_add, List.getD_eq_getElem?_getD, List.getElem?_eq_getElem hlt8]
          simpa [Kd.int, Kd.scalar] using h4
        simp only [partV, hj]
        gi_wp2
        gi_loop [6, 17] (fun c i => ∃ q : Nat, q ≤ j ∧ c = .int .u8 (byOf l0 x.1 q) ∧ i = .int .i64 q) (fun _ i => j - (intOf i).toNat)
        case atStart => exact ⟨0, by omega, rfl, rfl⟩
        case round =>
          obtain ⟨q, hq, rfl, rfl⟩ := hrel
          by_cases hqj : q < j
          · have hcq := hcell q hqj
            gi_wp2
            have hsh : shl .u8 (l0.getD (8 * x.1 + q) 0) (7 - (q : Int)) = l0[8 * x.1 + q]?.getD 0 * 2 ^ (7 - q) % 256 := by
              unfold shl
              rw [show min (7 - (q : Int)).toNat IntKind.u8.bits = 7 - q from by show min _ 8 = _; omega, List.getD_eq_getElem?_getD]
              rfl
            refine ⟨⟨q + 1, by omega, ?_, by simp⟩, by simp [intOf]; omega⟩
            show _ = Value.int .u8 (Go.bits .or .u8 _ (shl _ _ _))
            rw [hsh]
          · obtain rfl : q = j := by omega
            have hc := hv.cell
            have hbyte : byte l0 x.1 = byOf l0 x.1 q := by unfold byte; rw [hj]
            gi_wp2_with (gi_at_builtin; refine wpListIn_append_own _ rfl _ _ 31 rfl w1.heap.size 5 i0 (.int .u8 0) 1 1 Tryz.underlying31 hi hz0 hz1 hz2 rfl (by decide) _ _ _ rfl (hrow.alloc _) ⟨W.heap.size, 0, none⟩ 1 1 [.int .u8 (byOf l0 x.1 q)] rfl rfl (cell_one_new _ _ _) (by simp [Value.oneCell']) (by unfold maxLen; omega) (by omega) (by have := hB.size; simp; omega) ?_; intro v' w2 hown' hgrow _; obtain ⟨g', cap', rfl⟩ := ownsRow_succ hown'; obtain ⟨hv1, hv2, hr2, hk2, hb2⟩ := hv.appended (by decide) hrow hB.size (Nat.le_refl _) hown' hgrow; have hc1 := hv1.cell; have hf1 := hv1.frozen)
            have hbs' := ((hbs.alloc _).kept hgrow (hbs.not_row (by decide) hrow)).other (B' := w1.heap.size) (by omega)
            have hbn' := ((hbn.alloc _).kept hgrow (hbn.not_row (by decide) hrow)).other (B' := w1.heap.size) (by omega)
            exact ⟨hk2.from _, ⟨hb2, (hbs' _).trans hbs.symm, (hbn' _).trans hbn.symm⟩, ⟨_, hv2, by simpa [hbyte] using hr2⟩, hbs' _, hbn' _, hB.trans hb2⟩
      case done =>
        rintro D ys W hD hS ⟨⟨v, hv, hrow, _⟩, hbs, hbn, hB⟩ hK
        have hc := hv.cell
        gi_wp2
        refine ⟨by simp, .inl ⟨_, _, rfl, run_takeDeferred hK, ?_⟩⟩
        have hb' := hB.trans (belowK_b (w := w1) (Nat.le_refl _) W D _ (.deferred none) (by simp at hD; omega) hK rfl rfl)
        refine ⟨_, results_tmp2 rfl _ _ _, v, rfl, ⟨fun _ _ => trivial, _, ?_, reps_u8 _ _ _ ((List.range ((l0.length + 7) / 8)).map (byte l0))⟩, ?_⟩
        · have ho := ownsRow_putObj hrow (.deferred none) hK rfl
          rw [show (ys.map fun x => Value.int .u8 (byte l0 x.1)) = ((List.range ((l0.length + 7) / 8)).map (byte l0)).map (Value.int .u8) from by rw [← hS]; simp,
            show ys.length = ((List.range ((l0.length + 7) / 8)).map (byte l0)).length from by rw [← hS]; simp] at ho
          rw [HS.out] at ho
          exact ho
        · rw [HS.out] at hb'
          exact hB1.trans hb'
      case stop =>
        rintro D c pre W _ _ h _
        exact h.elim
    · rw [if_neg hl] at h; cases h

end Go.Proofs.YtknanbnjbilciaaGreatDoor.P
namespace Go.Proofs.YtknanbnjbilciaaGreatDoor.P
open Go.RowKit Go.Proofs.YtknanbnjbilciaaGreatDoorW.PrintWords Go.Proofs.YtknanbnjbilciaaGreatDoorW.PrintLast Go.Proofs.YtknanbnjbilciaaGreatDoorW.PrintMore
-- YtknanbnjbilciaaGreatDoorP6
section
attribute [local go_sem] max2_int min2_int max_two min_two max_three min_three max_four min_four
set_option linter.unusedVariables false
set_option linter.unusedSimpArgs false

/-! ### bits_Of: function 15 -/
mutual
def bits_Of.l0 : Nat → List Int → List Int → Int → Int → Option (List Int)
  | 0, _, _, _, _ => none
  | k + 1, x3, x7, x8, x9 => if x9 < x8 then (if 0 ≤ x9 then (if x9 < (x7.length : Int) then (bits_Of.l1 k x3 (rd x7 x9) x7 x8 x9 0) else (none)) else (none)) else (some x3)
def bits_Of.l1 : Nat → List Int → Int → List Int → Int → Int → Int → Option (List Int)
  | 0, _, _, _, _, _, _ => none
  | k + 1, x3, x5, x7, x8, x9, x13 => if x13 < 8 then (if 0 ≤ (wrap64 (7 - x13)) then (if x3.length < 140737488355328 then (bits_Of.l1 k (x3 ++ [Go.bits .and .u8 (shr .u8 x5 (wrap64 (7 - x13))) 1]) x5 x7 x8 x9 (wrap64 (x13 + 1))) else (none)) else (none)) else (bits_Of.l0 k x3 x7 x8 (wrap64 (x9 + 1)))
end
def bits_Of.f (k : Nat) (l0 : List Int) : Option (List Int) := bits_Of.l0 k ([] : List Int) l0 (l0.length : Int) 0
theorem bits_Of.mono_l : ∀ k, (∀ y0 y1 y2 y3, LeO (bits_Of.l0 k y0 y1 y2 y3) (bits_Of.l0 (k + 1) y0 y1 y2 y3)) ∧ (∀ y0 y1 y2 y3 y4 y5, LeO (bits_Of.l1 k y0 y1 y2 y3 y4 y5) (bits_Of.l1 (k + 1) y0 y1 y2 y3 y4 y5))
  | 0 => ⟨fun _ _ _ _ r h => by simp [bits_Of.l0] at h, fun _ _ _ _ _ _ r h => by simp [bits_Of.l1] at h⟩
  | k + 1 => by
    obtain ⟨ih0, ih1⟩ := bits_Of.mono_l k
    refine ⟨?_, ?_⟩
    · intro y0 y1 y2 y3
      unfold bits_Of.l0
      repeat' first
      | (with_reducible exact ih0 _ _ _ _)
      | (with_reducible exact ih1 _ _ _ _ _ _)
      | (with_reducible exact LeO.refl _)
      | (with_reducible exact LeO.none _)
      | (with_reducible refine LeO.ite ?_ ?_)
      | (with_reducible refine LeO.bind ?_ (fun _ => ?_))
      | exact ih0 _ _ _ _
      | exact ih1 _ _ _ _ _ _
      | exact LeO.none _
      | refine LeO.ite ?_ ?_
      | refine LeO.bind ?_ (fun _ => ?_)
    · intro y0 y1 y2 y3 y4 y5
      unfold bits_Of.l1
      repeat' first
      | (with_reducible exact ih0 _ _ _ _)
      | (with_reducible exact ih1 _ _ _ _ _ _)
      | (with_reducible exact LeO.refl _)
      | (with_reducible exact LeO.none _)
      | (with_reducible refine LeO.ite ?_ ?_)
      | (with_reducible refine LeO.bind ?_ (fun _ => ?_))
      | exact ih0 _ _ _ _
      | exact ih1 _ _ _ _ _ _
      | exact LeO.none _
      | refine LeO.ite ?_ ?_
      | refine LeO.bind ?_ (fun _ => ?_)
theorem bits_Of.mono : ∀ a0 k, LeO (bits_Of.f k a0) (bits_Of.f (k + 1) a0) := by
  intro a0 k
  obtain ⟨ih0, ih1⟩ := bits_Of.mono_l k
  unfold bits_Of.f
  repeat' first
      | (with_reducible exact ih0 _ _ _ _)
      | (with_reducible exact ih1 _ _ _ _ _ _)
      | (with_reducible exact LeO.refl _)
      | (with_reducible exact LeO.none _)
      | (with_reducible refine LeO.ite ?_ ?_)
      | (with_reducible refine LeO.bind ?_ (fun _ => ?_))
      | exact ih0 _ _ _ _
      | exact ih1 _ _ _ _ _ _
      | exact LeO.none _
      | refine LeO.ite ?_ ?_
      | refine LeO.bind ?_ (fun _ => ?_)
set_option maxHeartbeats 8000000 in
set_option maxRecDepth 100000 in
theorem bits_Of.calls (k : Nat) (A0 : Option Addr) (c0 : Nat) (l0 : List Int) (r : List Int) (w : World) (hr0 : Kd.C (Kd.int .u8) w A0 l0.length l0) (hc0 : l0.length ≤ c0) (h : bits_Of.f k l0 = some r) :
    Calls Tryz.prog 15 #[.slice A0 l0.length c0] w fun e w' => ∃ v0_ : Value, e = .returned (v0_) ∧ Kd.R (Kd.int .u8) 5 w' w.heap.size (fun _ => True) v0_ r ∧ Below w.heap.size w w' := by
  have HR0 := Aside0.mk hr0
  have HC0 := Aside0.mk hc0
  clear hr0 hc0
  have HB := Aside0.mk (Below.refl w.heap.size w)
  have H : (bits_Of.l0 k ([] : List Int) l0 (l0.length : Int) 0) = some r := h
  clear h
  have H' := Aside0.mk H
  clear H
  go_enter Tryz.func15, Tryz.ntmps15
  go_wp2
  go_loopg [3, 9] k (fun kq v3 v9 w' => ∃ (x3_1 : List Int) (x9_1 : Int), v9 = .int .i64 x9_1 ∧ Aside0 (bits_Of.l0 kq x3_1 l0 (l0.length : Int) x9_1 = some r) ∧ Aside0 (kq ≤ k) ∧ Aside0 (Kd.R (Kd.int .u8) 5 w' w.heap.size (fun _ => True) v3 x3_1) ∧ Aside0 (Below w.heap.size w w'))
  case atStart => exact ⟨(([] : List Int)), (0), (by first | rfl | (simp; done) | (simp [*]; done)), H', ⟨Nat.le_refl _⟩, ⟨by first | exact Kd.R_nil _ _ _ _ _ | exact Kd.N_nil _ _ _ _ _ | exact Kd.V_nil _ _ _ _ _ | exact Kd.Q_nil _ _ _ _ _ | exact Kd.S_nil _ _ _ _ _⟩, ⟨by repeat (first | (with_reducible first | exact HB.out | apply below_alloc | apply pw_below_drewN | apply below_drew1) | exact HB.out)⟩⟩
  case round =>
    clear H'
    try clear c1
    obtain ⟨x3_1, x9_1, rfl, HA, HK1, HO_3, HB⟩ := hrel
    cases gk with
    | zero => exact absurd HA.out (by simp [bits_Of.l0])
    | succ k1 =>
      have H := HA.out
      clear HA
      simp only [bits_Of.l0] at H
      by_cases c2 : x9_1 < (l0.length : Int)
      · rw [if_pos c2] at H
        have c2b0 : decide (x9_1 < (l0.length : Int)) = true := decide_eq_true c2
        clear c2
        by_cases c3 : 0 ≤ x9_1
        · rw [if_pos c3] at H
          have c3b0 : decide (0 ≤ x9_1) = true := decide_eq_true c3
          clear c3
          by_cases c4 : x9_1 < (l0.length : Int)
          · rw [if_pos c4] at H
            have c4b0 : decide (x9_1 < (l0.length : Int)) = true := decide_eq_true c4
            clear c4
            have H' := Aside0.mk H
            clear H
            have p108 : 0 ≤ (x9_1 : Int) := of_decide_eq_true (by first | (with_reducible assumption) | assumption)
            have q108 : x9_1 < (l0.length : Int) := of_decide_eq_true (by first | (with_reducible assumption) | assumption)
            obtain ⟨ad108, e108, hx108_0⟩ := Kd.at_int HR0.out x9_1 p108 q108
            cases e108
            replace hx108_0 := (HB.out.cell (World.block_lt_of_cell? w _ hx108_0)).trans hx108_0
            replace p108 := eq_true p108
            replace q108 := eq_true q108
            go_wp2
            go_loopg [3, 13] k1 (fun kq v3 v13 w' => ∃ (x3_2 : List Int) (x13_2 : Int), v13 = .int .i64 x13_2 ∧ Aside0 (bits_Of.l1 kq x3_2 (rd l0 x9_1) l0 (l0.length : Int) x9_1 x13_2 = some r) ∧ Aside0 (kq ≤ k1) ∧ Aside0 (Kd.R (Kd.int .u8) 5 w' w.heap.size (fun _ => True) v3 x3_2) ∧ Aside0 (Below w.heap.size w w'))
            case atStart => exact ⟨(x3_1), (0), (by first | rfl | (simp; done) | (simp [*]; done)), H', ⟨Nat.le_refl _⟩, ⟨by (with_reducible repeat (first | apply Kd.R_alloc | apply Kd.R_drewN | apply Kd.R_drew)); exact HO_3.out⟩, ⟨by repeat (first | (with_reducible first | exact HB.out | apply below_alloc | apply pw_below_drewN | apply below_drew1) | exact HB.out)⟩⟩
            case round =>
              clear H'
              try clear c1
              try clear p1
              try clear q1
              try clear hx1
              try clear c2
              try clear c2b0
              try clear p2
              try clear c3
              try clear c3b0
              try clear c4
              try clear c4b0
              try clear hx108_0
              try clear p108
              try clear q108
              obtain ⟨x3_2, x13_2, rfl, HA, HK2, HO_3, HB⟩ := hrel
              cases gk with
              | zero => exact absurd HA.out (by simp [bits_Of.l1])
              | succ k2 =>
                have H := HA.out
                clear HA
                simp only [bits_Of.l1] at H
                by_cases c5 : x13_2 < 8
                · rw [if_pos c5] at H
                  have c5b0 : decide (x13_2 < 8) = true := decide_eq_true c5
                  clear c5
                  obtain ⟨ji6, hji6⟩ : ∃ j_ : Int, (wrap64 (7 - x13_2)) = j_ := ⟨_, rfl⟩
                  replace H : (if 0 ≤ (ji6) then (if x3_2.length < 140737488355328 then (bits_Of.l1 k2 (x3_2 ++ [Go.bits .and .u8 (shr .u8 (rd l0 x9_1) (ji6)) 1]) (rd l0 x9_1) l0 (l0.length : Int) x9_1 (wrap64 (x13_2 + 1))) else (none)) else (none)) = some r := by first | (rw [hji6] at H; exact H) | (simp only [hji6] at H ⊢; exact H)
                  have hji6w : (IntKind.i64.wrap (7 - x13_2)) = ji6 := (i64_w _).trans hji6
                  by_cases c7 : 0 ≤ (ji6)
                  · rw [if_pos c7] at H
                    have c7b0 := eq_true c7
                    have c7b1 : decide (0 ≤ (ji6)) = true := decide_eq_true c7
                    clear c7
                    obtain ⟨ji8, hji8⟩ : ∃ j_ : Int, (shr .u8 (rd l0 x9_1) (ji6)) = j_ := ⟨_, rfl⟩
                    replace H : (if x3_2.length < 140737488355328 then (bits_Of.l1 k2 (x3_2 ++ [Go.bits .and .u8 (ji8) 1]) (rd l0 x9_1) l0 (l0.length : Int) x9_1 (wrap64 (x13_2 + 1))) else (none)) = some r := by first | (rw [hji8] at H; exact H) | (simp only [hji8] at H ⊢; exact H)
                    have hji8_ : ((rd l0 x9_1) / 2 ^ min (ji6).toNat 8) = ji8 := hji8
                    have hji8z : (ji6) ≤ 8 → ((rd l0 x9_1) / 2 ^ (ji6).toNat) = ji8 := shr_small hji8
                    by_cases c9 : x3_2.length < 140737488355328
                    · rw [if_pos c9] at H
                      have LMc9 := Aside0.mk c9
                      clear c9
                      obtain ⟨y109, hy109⟩ : ∃ y_ : List Int, y_ = (x3_2 ++ [Go.bits .and .u8 (ji8) 1]) := ⟨_, rfl⟩
                      replace H : (bits_Of.l1 k2 y109 (rd l0 x9_1) l0 (l0.length : Int) x9_1 (wrap64 (x13_2 + 1))) = some r := by first | (rw [hy109]; with_reducible exact H) | (have H2_ := (Option.bind_some _ _).symm.trans H; rw [hy109]; with_reducible exact H2_) | (have H2_ := (Option.bind_some _ _).symm.trans H; with_reducible exact H2_) | with_reducible exact H | (rw [hy109]; exact H) | exact H
                      have Ny109 := Aside0.mk hy109
                      clear hy109
                      have H' := Aside0.mk H
                      clear H
                      go_wp2_with (first | ((with_reducible refine gate_builtin (b := .append) (xs := #[.tmp 16, .tmp 22]) rfl ?_); at_builtin; refine Kd.R_append (Kd.int .u8) (w0 := w) w.heap.size rfl (.tmp 16) (.tmp 22) 31 5 (.int .u8 0) 1 rfl Tryz.underlying31 info5 rfl (by decide) (by omega) u3 x3_2 (Go.bits .and .u8 (ji8) 1) [.int .u8 (Go.bits .and .u8 (ji8) 1)] (fun _ => True) (fun _ => False) rfl rfl ?aP (fun _ hk => hk.elim) ?aF ?aO ?aB ?aS ?aL ?_; (case aP => exact rfl); (case aB => exact (by repeat (first | (with_reducible first | exact HB.out | apply below_alloc | apply pw_below_drewN | apply below_drew1) | exact HB.out))); (case aF => exact (fun _ _ => trivial)); (case aO => exact (by (with_reducible repeat (first | apply Kd.R_alloc | apply Kd.R_drewN | apply Kd.R_drew)); exact HO_3.out)); (case aS => exact (below_size (by repeat (first | (with_reducible first | exact HB.out | apply below_alloc | apply pw_below_drewN | apply below_drew1) | exact HB.out)))); (case aL => have := LMc9.out; omega); intro v110 w10 ho hb hg hat; rw [← Ny109.out] at ho; have n0_ := Aside0.mk (hb); have n1_ := Aside0.mk (ho); clear HB; clear HO_3; have HB := n0_; have HO111 := n1_; clear n0_ n1_; clear ho hb hg hat))
                      go_roundg k2
                      case measure => have := HK1.out; have := HK2.out; omega
                      case rel => exact ⟨(y109), (wrap64 (x13_2 + 1)), (by first | rfl | (simp; done) | (simp [*]; done)), H', ⟨by have := HK1.out; have := HK2.out; omega⟩, ⟨by (with_reducible repeat (first | apply Kd.R_alloc | apply Kd.R_drewN | apply Kd.R_drew)); exact HO111.out⟩, ⟨by repeat (first | (with_reducible first | exact HB.out | apply below_alloc | apply pw_below_drewN | apply below_drew1) | exact HB.out)⟩⟩
                    · rw [if_neg c9] at H
                      exact absurd H (by simp)
                  · rw [if_neg c7] at H
                    exact absurd H (by simp)
                · rw [if_neg c5] at H
                  have c5b0 : decide (x13_2 < 8) = false := decide_eq_false c5
                  clear c5
                  have H' := Aside0.mk H
                  clear H
                  go_wp2
                  go_roundg k2
                  case measure => have := HK1.out; have := HK2.out; omega
                  case rel => exact ⟨(x3_2), (wrap64 (x9_1 + 1)), (by first | rfl | (simp; done) | (simp [*]; done)), H', ⟨by have := HK1.out; have := HK2.out; omega⟩, ⟨by (with_reducible repeat (first | apply Kd.R_alloc | apply Kd.R_drewN | apply Kd.R_drew)); exact HO_3.out⟩, ⟨by repeat (first | (with_reducible first | exact HB.out | apply below_alloc | apply pw_below_drewN | apply below_drew1) | exact HB.out)⟩⟩
          · rw [if_neg c4] at H
            exact absurd H (by simp)
        · rw [if_neg c3] at H
          exact absurd H (by simp)
      · rw [if_neg c2] at H
        have c2b0 : decide (x9_1 < (l0.length : Int)) = false := decide_eq_false c2
        clear c2
        obtain rfl := Option.some.inj H
        go_wp2
        go_ret
        exact ⟨_, by first | rfl | (simp [errW_none, errW_some] <;> rfl) | (simp [*, errW_none, errW_some] <;> rfl), by (with_reducible repeat (first | apply Kd.R_alloc | apply Kd.R_drewN | apply Kd.R_drew)); exact HO_3.out, by repeat (first | (with_reducible first | exact HB.out | apply below_alloc | apply pw_below_drewN | apply below_drew1) | exact HB.out)⟩
end
end Go.Proofs.YtknanbnjbilciaaGreatDoor.P
namespace Go.Proofs.YtknanbnjbilciaaGreatDoor.P
open Go Go.RowKit Go.Proofs.YtknanbnjbilciaaGreatDoorW.PrintWords Go.Proofs.YtknanbnjbilciaaGreatDoorW.PrintLast Go.Proofs.YtknanbnjbilciaaGreatDoorW.PrintMore
set_option linter.unusedVariables false
set_option linter.unusedSimpArgs false
-- YtknanbnjbilciaaGreatDoorPAkBit
section
attribute [local go_sem ↓] Go.wp_at_zero Go.wp_at_succ

/-- But for block g and v's own row nothing has turned. -/
structure Fr (g : Nat) (v : Value) (w w' : World) : Prop where
  os : w'.os = w.os
  tape : w'.tape = w.tape
  output : w'.output = w.output
  size : w.heap.size ≤ w'.heap.size
  block : ∀ k, k < w.heap.size → k ≠ g → some k ≠ v.ownBlock → w'.heap[k]? = w.heap[k]?
theorem Fr.refl (g : Nat) (v : Value) (w : World) : Fr g v w w := ⟨rfl, rfl, rfl, Nat.le_refl _, fun _ _ _ _ => rfl⟩
/-- v' is v's row, or a newer one. -/
def Newer (w : World) (v v' : Value) : Prop := v'.ownBlock = v.ownBlock ∨ ∀ b, v'.ownBlock = some b → w.heap.size ≤ b
theorem Newer.refl (w : World) (v : Value) : Newer w v v := .inl rfl
theorem Newer.trans {w w1 : World} {v v1 v2 : Value} (h : Newer w v v1) (hs : w.heap.size ≤ w1.heap.size) (k : Newer w1 v1 v2) : Newer w v v2 := by
  rcases k with k | k
  · rcases h with h | h
    · exact .inl (k.trans h)
    · exact .inr fun b hb => h b (k ▸ hb)
  · exact .inr fun b hb => Nat.le_trans hs (k b hb)
theorem Fr.trans {g : Nat} {v v1 : Value} {w w1 w2 : World} (h : Fr g v w w1) (hn : Newer w v v1) (k : Fr g v1 w1 w2) : Fr g v w w2 :=
  ⟨k.os.trans h.os, k.tape.trans h.tape, k.output.trans h.output, Nat.le_trans h.size k.size, fun i hi hg hv => by
    rw [k.block i (Nat.lt_of_lt_of_le hi h.size) hg ?_, h.block i hi hg hv]
    rcases hn with hn | hn
    · rw [hn]; exact hv
    · intro e; have := hn i e.symm; omega⟩
theorem Fr.below {g : Nat} {v : Value} {w w' : World} (h : Fr g v w w') {B : Nat} (hB : B ≤ w.heap.size) (hg : B ≤ g) (hv : ∀ b, v.ownBlock = some b → B ≤ b) : Below B w w' :=
  ⟨h.os, h.tape, h.output, h.size, fun k hk => h.block k (by omega) (by omega) (fun e => by have := hv k e.symm; omega)⟩
/-- The writer at block g holds xs. -/
structure WS (w : World) (n₀ g : Nat) (v : Value) (xs : List Int) : Prop where
  box : Boxed w g 92 v
  low : n₀ ≤ g
  row : w.ownsRow n₀ 5 1 v xs.length (nums .u8 xs)
theorem WS.kept {w w' : World} {n₀ g : Nat} {v : Value} {xs : List Int} (h : WS w n₀ g v xs) (hg : w'.heap[g]? = w.heap[g]?) (hr : ∀ b, v.ownBlock = some b → w'.heap[b]? = w.heap[b]?) : WS w' n₀ g v xs := by
  refine ⟨hg.trans h.box, h.low, h.row.1, ?_⟩
  rcases h.row.2 with hn | ⟨b, cap, cur, rfl, hb, hc, rest⟩
  · exact .inl hn
  · exact .inr ⟨b, cap, cur, rfl, hb, (hr b rfl).trans hc, rest⟩
theorem WS.ne {w : World} {n₀ g : Nat} {v : Value} {xs : List Int} (h : WS w n₀ g v xs) : some g ≠ v.ownBlock := h.box.not_row (by decide) h.row
theorem WS.lt {w : World} {n₀ g : Nat} {v : Value} {xs : List Int} (h : WS w n₀ g v xs) : g < w.heap.size := h.box.lt
theorem WS.far {w w' : World} {n₀ g g' : Nat} {v v' : Value} {xs : List Int} (h : WS w n₀ g v xs) (hf : Fr g' v' w w') (hgg : g ≠ g') (h1 : some g ≠ v'.ownBlock) (h2 : ∀ b, v.ownBlock = some b → b ≠ g' ∧ some b ≠ v'.ownBlock) : WS w' n₀ g v xs :=
  h.kept (hf.block g h.lt hgg h1) fun b hb => hf.block b (h.row.lt b hb).2 (h2 b hb).1 (h2 b hb).2
theorem WS.below {w w' : World} {n₀ g : Nat} {v : Value} {xs : List Int} (h : WS w n₀ g v xs) (hb : Below w.heap.size w w') : WS w' n₀ g v xs :=
  h.kept (hb.block g h.lt) fun b e => hb.block b (h.row.lt b e).2

def bitioWidthF (n : Int) : Bool := decide (1 ≤ n) && decide (n ≤ 32)
set_option maxRecDepth 100000 in
set_option maxHeartbeats 4000000 in
theorem bitioWidth_calls (n : Int) (w : World) : Calls Tryz.prog 72 #[.int .i64 n] w fun e w' => e = .returned (.bool (bitioWidthF n)) ∧ Below w.heap.size w w' := by
  unfold bitioWidthF
  go_enter Tryz.func72, Tryz.ntmps72
  by_cases h1 : 1 ≤ n
  · by_cases h2 : n ≤ 32
    · have h1' : decide (1 ≤ n) = true := decide_eq_true h1
      have h2' : decide (n ≤ 32) = true := decide_eq_true h2
      go_wp2
      go_ret
      exact ⟨by simp [*], by repeat (first | (with_reducible first | exact Below.refl _ _ | apply below_drew1) | exact Below.refl _ _)⟩
    · have h1' : decide (1 ≤ n) = true := decide_eq_true h1
      have h2' : decide (n ≤ 32) = false := decide_eq_false h2
      go_wp2
      go_ret
      exact ⟨by simp [*], by repeat (first | (with_reducible first | exact Below.refl _ _ | apply below_drew1) | exact Below.refl _ _)⟩
  · have h1' : decide (1 ≤ n) = false := decide_eq_false h1
    go_wp2
    go_ret
    exact ⟨by simp [*], by repeat (first | (with_reducible first | exact Below.refl _ _ | apply below_drew1) | exact Below.refl _ _)⟩
theorem u8_info : (Tryz.prog.info? 5).map (fun i => (i.zero, i.size, i.bytes)) = some (some (.int .u8 0), 1, 1) := by kernel_rfl
def bitv (n : Int) (i : Nat) : Int := IntKind.u8.wrap (Go.bits .and .i64 (n / 2 ^ i) 1)
def putE (n wide : Int) : Int := if bitioWidthF wide = true then (if n < 0 then 5 else if n / 2 ^ wide.toNat = 0 then 0 else 5) else 1
def bitL (n : Int) (W r : Nat) : List Int := (List.range (W - r)).map fun j => bitv n (W - 1 - j)
def putL (n wide : Int) : List Int := if putE n wide = 0 then bitL n wide.toNat 0 else []
theorem Fr.of_below {g : Nat} {v : Value} {w w' : World} (h : Below w.heap.size w w') : Fr g v w w' := ⟨h.os, h.tape, h.output, h.size, fun k hk _ _ => h.block k hk⟩
theorem WS.appended {w w2 : World} {n₀ g gg cap : Nat} {v : Value} {xs : List Int} {x : Int} {o : Obj} (h : WS w n₀ g v xs)
    (hown : w2.ownsRow n₀ 5 1 (.slice (some ⟨gg, 0, none⟩) (xs.length + 1) cap) (xs.length + 1) (nums .u8 xs ++ [.int .u8 x]))
    (hgrow : (w.alloc o).drew.grownBy w2 v.ownBlock) (hat : v.ownBlock = some gg ∨ gg = w.heap.size + 1) :
    WS (w2.setCell ⟨g, 0, none⟩ (.slice (some ⟨gg, 0, none⟩) (xs.length + 1) cap)) n₀ g (.slice (some ⟨gg, 0, none⟩) (xs.length + 1) cap) (xs ++ [x]) ∧
      Fr g v w (w2.setCell ⟨g, 0, none⟩ (.slice (some ⟨gg, 0, none⟩) (xs.length + 1) cap)) ∧ Newer w v (.slice (some ⟨gg, 0, none⟩) (xs.length + 1) cap) := by
  have hgrow' : (w.alloc o).grownBy w2 v.ownBlock := ⟨hgrow.os, hgrow.tape, hgrow.output, hgrow.size, hgrow.block⟩
  have hb : Boxed w2 g 92 v := (h.box.alloc o).kept hgrow' h.ne
  have hs := grownBy_setCell' w2 g (.slice (some ⟨gg, 0, none⟩) (xs.length + 1) cap)
  refine ⟨⟨hb.set _, h.low, ?_⟩, ⟨hs.os.trans hgrow'.os, hs.tape.trans hgrow'.tape, hs.output.trans hgrow'.output, ?_, ?_⟩, ?_⟩
  · have := hown.kept hs (.inr (hb.not_row (by decide) hown).symm)
    rw [List.length_append, show [x].length = 1 from rfl, show nums .u8 (xs ++ [x]) = nums .u8 xs ++ [.int .u8 x] from by simp [nums]]
    exact this
  · have h1 := hgrow'.size
    have h2 := hs.size
    rw [World.size_alloc] at h1
    omega
  · intro k hk hkg hkv
    have h1 : (w.alloc o).heap[k]? = w.heap[k]? := Below.heap_alloc w o k hk
    rw [hs.block k (by have := hgrow'.size; rw [World.size_alloc] at this; omega) (fun e => hkg (by injection e)), hgrow'.block k (by rw [World.size_alloc]; omega) hkv, h1]
  · rcases hat with e | e
    · exact .inl e.symm
    · exact .inr fun b hb' => by
        have : b = gg := by simpa [Value.ownBlock] using hb'.symm
        omega
theorem bitL_succ (n : Int) (W r : Nat) (hr : r + 1 ≤ W) : bitL n W r = bitL n W (r + 1) ++ [bitv n r] := by
  unfold bitL
  rw [show W - r = (W - (r + 1)) + 1 by omega, List.range_succ, List.map_append]
  congr 1
  show [bitv n (W - 1 - (W - (r + 1)))] = _
  congr 2; omega
set_option maxRecDepth 100000 in
set_option maxHeartbeats 4000000 in
theorem bitioPut_calls (n₀ g : Nat) (v : Value) (xs : List Int) (n wide : Int) (w : World) (h : WS w n₀ g v xs) (hlen : xs.length ≤ 1000000) :
    Calls Tryz.prog 39 #[.pointer (some ⟨g, 0, none⟩), .int .i64 n, .int .i64 wide] w fun e w' => e = .returned (.int .i64 (putE n wide)) ∧ ∃ v', WS w' n₀ g v' (xs ++ putL n wide) ∧ Fr g v w w' ∧ Newer w v v' := by
  obtain ⟨i0, hi, hz0, hz1, hz2⟩ := info_parts u8_info
  cases hwd : bitioWidthF wide with
  | false =>
    have e1 : putE n wide = 1 := by unfold putE; rw [hwd]; rfl
    have e2 : putL n wide = [] := by unfold putL; rw [e1]; rfl
    rw [e1, e2, List.append_nil]
    go_enter Tryz.func39, Tryz.ntmps39
    go_wp2_with (go_at_call 72; refine (bitioWidth_calls wide _).mono ?_; rintro e w1 ⟨rfl, hb⟩; simp only [hwd])
    go_ret
    exact ⟨by simp, v, h.below hb, Fr.of_below hb, Newer.refl _ _⟩
  | true =>
    have hwide : 1 ≤ wide ∧ wide ≤ 32 := by simpa [bitioWidthF] using hwd
    by_cases hn : n < 0
    · have e1 : putE n wide = 5 := by unfold putE; rw [hwd, if_pos rfl, if_pos hn]
      have e2 : putL n wide = [] := by unfold putL; rw [e1]; rfl
      have hn' : decide (n < 0) = true := decide_eq_true hn
      rw [e1, e2, List.append_nil]
      go_enter Tryz.func39, Tryz.ntmps39
      go_wp2_with (go_at_call 72; refine (bitioWidth_calls wide _).mono ?_; rintro e w1 ⟨rfl, hb⟩; simp only [hwd])
      go_ret
      exact ⟨by simp, v, h.below hb, Fr.of_below hb, Newer.refl _ _⟩
    · have hn' : decide (n < 0) = false := decide_eq_false hn
      obtain ⟨W, rfl⟩ := Int.eq_ofNat_of_zero_le (show 0 ≤ wide by omega)
      by_cases hs : n / 2 ^ W = 0
      · have e1 : putE n (W : Int) = 0 := by unfold putE; rw [hwd, if_pos rfl, if_neg hn, Int.toNat_natCast, if_pos hs]
        have hs' : (n / 2 ^ W != 0) = false := by simp [hs]
        have e2 : putL n (W : Int) = bitL n W 0 := by unfold putL; rw [e1]; rfl
        rw [e1, e2]
        go_enter Tryz.func39, Tryz.ntmps39
        go_wp2_with (go_at_call 72; refine (bitioWidth_calls (W : Int) _).mono ?_; rintro e w1 ⟨rfl, hb⟩; simp only [hwd])
        have hW := hwide
        go_loopw [7] (fun v7 wr => ∃ r : Nat, r ≤ W ∧ v7 = .int .i64 ((r : Int) - 1) ∧ ∃ v', Aside0 (WS wr n₀ g v' (xs ++ bitL n W r)) ∧ Aside0 (Fr g v w wr) ∧ Aside0 (Newer w v v')) (fun v7 _ => (intOf v7 + 1).toNat)
        case atStart =>
          refine ⟨W, Nat.le_refl _, by simp, v, ⟨?_⟩, ⟨Fr.of_below hb⟩, ⟨Newer.refl _ _⟩⟩
          unfold bitL; rw [Nat.sub_self, List.range_zero, List.map_nil, List.append_nil]; exact h.below hb
        case round =>
          obtain ⟨r, hr, rfl, v1, HS, HF, HN⟩ := hrel
          cases r with
          | zero =>
            go_wp2
            go_ret
            exact ⟨by simp, v1, HS.out, HF.out, HN.out⟩
          | succ r =>
            have e8 : (((r + 1 : Nat) : Int) - 1) = (r : Int) := by omega
            rw [e8]
            have hc := HS.out.box.cell
            have hf := HS.out.box.frozen
            go_wp2
            have hne := HS.out.ne
            have hlt := HS.out.lt
            have hl1 : (xs ++ bitL n W (r + 1)).length ≤ 1000100 := by
              rw [List.length_append]; unfold bitL; rw [List.length_map, List.length_range]; omega
            go_region_law
              (refine step_append_lies _ (by rfl) _ _ _ (by rfl) n₀ 5 i0 _ 1 1 Tryz.underlying31 hi hz0 hz1 hz2 rfl (by omega) v1 _ (nums .u8 (xs ++ bitL n W (r + 1))) (by rfl) (((HS.out.row).alloc _).drew)
                    ⟨wr.heap.size, 0, none⟩ 1 1 [.int .u8 (bitv n r)] (by rfl) (by rfl) (World.news_of_block (cs := #[.int .u8 (bitv n r)]) (t := 5) (fr := (0, 0)) (heap_alloc_new wr _)) (by simp [Value.oneCell'])
                    (by omega) (by unfold maxLen; omega) (by omega) (by have := HS.out.low; simp; omega) (wr.heap.size + 1) (by simp) ?_; intro gg cap w2 hown1 hgrow hat hlt2; have hc2 : w2.cell? ⟨g, 0, none⟩ = some v1 := (hgrow.cell_far _ (by simp; omega) hne).trans (HS.out.box.alloc _).cell; have hf2 : w2.frozen? ⟨g, 0, none⟩ = false := (hgrow.frozen_far _ (by simp; omega) hne).trans (HS.out.box.alloc _).frozen)
            all_goals
              go_wp2
              obtain ⟨hS2, hF2, hN2⟩ := HS.out.appended hown1 hgrow hat
              rw [List.length_append] at hS2 hF2 hN2
              go_roundw
              case rel =>
                refine ⟨r, by omega, by simp, _, ⟨?_⟩, ⟨HF.out.trans HN.out hF2⟩, ⟨HN.out.trans HF.out.size hN2⟩⟩
                rw [bitL_succ n W r hr, ← List.append_assoc]
                exact hS2
              case measure => simp [intOf]
      · have e1 : putE n (W : Int) = 5 := by unfold putE; rw [hwd, if_pos rfl, if_neg hn, Int.toNat_natCast, if_neg hs]
        have hs' : (n / 2 ^ W != 0) = true := by simp [hs]
        have e2 : putL n (W : Int) = [] := by unfold putL; rw [e1]; rfl
        rw [e1, e2, List.append_nil]
        go_enter Tryz.func39, Tryz.ntmps39
        go_wp2_with (go_at_call 72; refine (bitioWidth_calls (W : Int) _).mono ?_; rintro e w1 ⟨rfl, hb⟩; simp only [hwd])
        go_ret
        exact ⟨by simp, v, h.below hb, Fr.of_below hb, Newer.refl _ _⟩
theorem WS.R {w : World} {n₀ g : Nat} {v : Value} {xs : List Int} (h : WS w n₀ g v xs) : Kd.R (Kd.int .u8) 5 w n₀ (fun _ => True) v xs := ⟨fun _ _ => trivial, _, h.row, reps_u8 _ _ _ xs⟩
set_option maxRecDepth 100000 in
set_option maxHeartbeats 4000000 in
theorem bitioBytes_calls (n₀ g : Nat) (v : Value) (xs : List Int) (w : World) (h : WS w n₀ g v xs) (k : Nat) (bs : List Int) (r : Int) (hb : bits_Bytes.f k xs = some (bs, r)) :
    Calls Tryz.prog 41 #[.pointer (some ⟨g, 0, none⟩)] w fun e w' => ∃ u, e = .returned u ∧ Kd.R (Kd.int .u8) 5 w' w.heap.size (fun _ => True) u bs ∧ Below w.heap.size w w' := by
  obtain ⟨A, c, rfl⟩ := Kd.R_slice h.R
  have hR := Kd.R_reads' h.R
  have hc := h.box.cell
  go_enter Tryz.func41, Tryz.ntmps41
  go_wp2_with (go_at_call 38; refine (bits_Bytes.calls k _ _ xs bs r _ hR.2.2 hR.2.1 hb).mono ?_; rintro e w1 ⟨u, rfl, hu, hB⟩)
  go_ret
  exact ⟨u, by simp, hu, hB⟩
/-- But for block g nothing has turned. -/
abbrev Fg (g : Nat) (w w' : World) : Prop := Fr g (.slice none 0 0) w w'
theorem Fg.trans {g : Nat} {w w1 w2 : World} (h : Fg g w w1) (k : Fg g w1 w2) : Fg g w w2 := Fr.trans h (Newer.refl _ _) k
theorem Fg.at {g : Nat} {w w' : World} (h : Fg g w w') (k : Nat) (hk : k < w.heap.size) (hg : k ≠ g) : w'.heap[k]? = w.heap[k]? := h.block k hk hg (by simp [Value.ownBlock])
/-- The reader at block g has xs left; its row lies in lo ... g. -/
structure RS (w : World) (lo g : Nat) (v : Value) (xs : List Int) : Prop where
  box : Boxed w g 139 v
  row : Kd.V (Kd.int .u8) 5 w 0 (fun k => lo ≤ k ∧ k < g) v xs
theorem RS.kept {w w' : World} {lo g : Nat} {v : Value} {xs : List Int} (h : RS w lo g v xs) (hk : ∀ k, lo ≤ k → k ≤ g → w'.heap[k]? = w.heap[k]?) (hl : lo ≤ g) : RS w' lo g v xs :=
  ⟨(hk g hl (Nat.le_refl _)).trans h.box, Kd.V_step h.row (fun k ok _ => hk k ok.1 (Nat.le_of_lt ok.2))⟩
theorem RS.lt {w : World} {lo g : Nat} {v : Value} {xs : List Int} (h : RS w lo g v xs) : g < w.heap.size := h.box.lt
theorem RS.below {w w' : World} {lo g : Nat} {v : Value} {xs : List Int} (h : RS w lo g v xs) (hb : Below w.heap.size w w') (hl : lo ≤ g) : RS w' lo g v xs :=
  h.kept (fun k _ hk => hb.block k (by have := h.lt; omega)) hl
theorem RS.set {w : World} {lo g : Nat} {v v' : Value} {xs xs' : List Int} (h : RS w lo g v xs) (hv : Kd.V (Kd.int .u8) 5 w 0 (fun k => lo ≤ k ∧ k < g) v' xs') : RS (w.setCell ⟨g, 0, none⟩ v') lo g v' xs' :=
  ⟨h.box.set v', Kd.V_far hv (fun k hk => by show k ≠ g; omega) v'⟩
theorem Fg.set {w : World} {g : Nat} (v' : Value) : Fg g w (w.setCell ⟨g, 0, none⟩ v') := by
  have hs := grownBy_setCell' w g v'
  exact ⟨hs.os, hs.tape, hs.output, hs.size, fun k hk hg _ => hs.block k hk (fun e => hg (by injection e))⟩
theorem Fg.of_below {g : Nat} {w w' : World} (h : Below w.heap.size w w') : Fg g w w' := Fr.of_below h
set_option maxRecDepth 100000 in
set_option maxHeartbeats 4000000 in
theorem bitioOf_calls (A : Option Addr) (c : Nat) (l : List Int) (w : World) (hr : Kd.C (Kd.int .u8) w A l.length l) (hc : l.length ≤ c) (k : Nat) (bs : List Int) (hb : bits_Of.f k l = some bs) :
    Calls Tryz.prog 42 #[.slice A l.length c] w fun e w' => ∃ g v, e = .returned (.pointer (some ⟨g, 0, none⟩)) ∧ w.heap.size ≤ g ∧ RS w' w.heap.size g v bs ∧ Below w.heap.size w w' := by
  go_enter Tryz.func42, Tryz.ntmps42
  go_wp2_with (go_at_call 15; refine (bits_Of.calls k _ _ l bs _ hr hc hb).mono ?_; rintro e w1 ⟨u, rfl, hu, hB⟩; obtain ⟨A1, c1, rfl⟩ := Kd.R_slice hu)
  go_ret
  have hs : w.heap.size ≤ w1.heap.size := hB.size
  refine ⟨w1.heap.size, _, by simp, hs, ⟨Boxed.new w1 139 _, ?_⟩, below_alloc hB _⟩
  refine Kd.V_alloc ?_ _
  have hv : Kd.V (Kd.int .u8) 5 w1 0 (fun k => True ∧ w.heap.size ≤ k ∧ k < w1.heap.size ∧ ∃ q, q ∈ 5 :: (Kd.int .u8).E ∧ ∃ cells, w1.heap[k]? = some (.cells cells q (0, 0))) _ bs := Kd.R_V (Kd.R_bound hu)
  exact Kd.V_mono hv (fun k hk => ⟨hk.2.1, hk.2.2.1⟩)
def tkE (xs : List Int) (wide : Int) : Int := if bitioWidthF wide = true then (if (xs.length : Int) < wide then 2 else 0) else 1
def tkS (n b : Int) : Int := Go.bits .or .i64 (wrap64 (n * 2)) (wrap64 b)
def tkN (xs : List Int) (wide : Int) : Int := if tkE xs wide = 0 then (xs.take wide.toNat).foldl tkS 0 else 0
def tkL (xs : List Int) (wide : Int) : List Int := if tkE xs wide = 0 then xs.drop wide.toNat else xs
set_option maxRecDepth 100000 in
set_option maxHeartbeats 4000000 in
theorem bitioTake_calls (lo g : Nat) (v : Value) (xs : List Int) (wide : Int) (w : World) (h : RS w lo g v xs) (hlo : lo ≤ g) :
    Calls Tryz.prog 74 #[.pointer (some ⟨g, 0, none⟩), .int .i64 wide] w fun e w' => e = .returned (.tuple #[.int .i64 (tkN xs wide), .int .i64 (tkE xs wide)]) ∧ (∃ v', RS w' lo g v' (tkL xs wide)) ∧ Fg g w w' := by
  obtain ⟨i0, hi, hz0, hz1, hz2⟩ := info_parts u8_info
  obtain ⟨A, c, rfl⟩ := Kd.V_slice h.row
  have hC := Kd.V_reads' h.row
  cases hwd : bitioWidthF wide with
  | false =>
    have e1 : tkE xs wide = 1 := by unfold tkE; rw [hwd]; rfl
    have e2 : tkN xs wide = 0 := by unfold tkN; rw [e1]; rfl
    have e3 : tkL xs wide = xs := by unfold tkL; rw [e1]; rfl
    rw [e1, e2, e3]
    go_enter Tryz.func74, Tryz.ntmps74
    go_wp2_with (go_at_call 72; refine (bitioWidth_calls wide _).mono ?_; rintro e w1 ⟨rfl, hb⟩; simp only [hwd])
    go_ret2
    exact ⟨by simp, ⟨_, h.below hb hlo⟩, Fg.of_below hb⟩
  | true =>
    have hwide : 1 ≤ wide ∧ wide ≤ 32 := by simpa [bitioWidthF] using hwd
    have hc := h.box.cell
    have hf := h.box.frozen
    by_cases hs : (xs.length : Int) < wide
    · have e1 : tkE xs wide = 2 := by unfold tkE; rw [hwd, if_pos rfl, if_pos hs]
      have e2 : tkN xs wide = 0 := by unfold tkN; rw [e1]; rfl
      have e3 : tkL xs wide = xs := by unfold tkL; rw [e1]; rfl
      have hs' : decide ((xs.length : Int) < wide) = true := decide_eq_true hs
      rw [e1, e2, e3]
      go_enter Tryz.func74, Tryz.ntmps74
      go_wp2_with (go_at_call 72; refine (bitioWidth_calls wide _).mono ?_; rintro e w1 ⟨rfl, hb⟩; simp only [hwd]; have hc1 := (h.below hb hlo).box.cell)
      go_ret2
      exact ⟨by simp, ⟨_, h.below hb hlo⟩, Fg.of_below hb⟩
    · have e1 : tkE xs wide = 0 := by unfold tkE; rw [hwd, if_pos rfl, if_neg hs]
      have hs' : decide ((xs.length : Int) < wide) = false := decide_eq_false hs
      obtain ⟨W, rfl⟩ := Int.eq_ofNat_of_zero_le (show 0 ≤ wide by omega)
      have e2 : tkN xs (W : Int) = (xs.take W).foldl tkS 0 := by unfold tkN; rw [e1]; rfl
      have e3 : tkL xs (W : Int) = xs.drop W := by unfold tkL; rw [e1]; rfl
      rw [e1, e2, e3]
      obtain ⟨hcut, hA, hCC⟩ := print_take_of (P := Tryz.prog) (Value.int .u8) 0 31 5 .i64 Tryz.underlying31 hi hz1 A c xs (W : Int) (by omega) (by omega) hC.2.1
      obtain ⟨A', hcut2, hA2, hC2⟩ := print_drop_of (P := Tryz.prog) (Value.int .u8) 0 31 5 .i64 Tryz.underlying31 hi hz1 A c xs (W : Int) (by omega) (by omega) hC.2.1
      go_enter Tryz.func74, Tryz.ntmps74
      go_wp2_with (go_at_call 72; refine (bitioWidth_calls (W : Int) _).mono ?_; rintro e w1 ⟨rfl, hb⟩; simp only [hwd]; have h1 := h.below hb hlo; have hc1 := h1.box.cell; have hf1 := h1.box.frozen)
      have hmin : min W xs.length = W := by omega
      rw [hmin]
      have hD := Kd.C_below hC.2.2 hb
      go_loopw [6, 32] (fun v6 v32 wr => ∃ r : Nat, r ≤ W ∧ v32 = .int .i64 (r : Int) ∧ v6 = .int .i64 ((xs.take r).foldl tkS 0) ∧ wr = w1) (fun v6 v32 _ => W - (intOf v32).toNat)
      case atStart => exact ⟨0, by omega, by simp, by simp, rfl⟩
      case round =>
        obtain ⟨r, hr, rfl, rfl, rfl⟩ := hrel
        by_cases hlt : r < W
        · obtain ⟨ad, rfl, hcell⟩ := ReadsOf.at_ (Kd.reads_of_C (d := (0 : Int)) hD) (r : Int) (by omega) (by omega)
          rw [Int.toNat_natCast] at hcell
          have hlt' : decide ((r : Int) < (W : Int)) = true := decide_eq_true (by omega)
          go_wp2
          have hx : xs.take (r + 1) = xs.take r ++ [rdOf 0 xs (r : Int)] := by
            have hl : r < xs.length := by omega
            rw [List.take_succ_eq_append_getElem hl]
            congr 2
            simp [rdOf, hl]
          go_roundw
          case rel => exact ⟨r + 1, by omega, by simp, by rw [hx, List.foldl_append]; rfl, trivial⟩
          case measure => simp [intOf]; omega
        · obtain rfl : r = W := by omega
          have hlt' : decide ((r : Int) < (r : Int)) = false := decide_eq_false (by omega)
          go_wp2
          go_ret2
          have hv : Kd.V (Kd.int .u8) 5 wr 0 (fun k => lo ≤ k ∧ k < g) (.slice A' (xs.drop r).length (c - r)) (xs.drop r) :=
            Kd.V_mk hC2 (Kd.F_imp (Kd.V_at h1.row).2.2 (fun w' hw => Kd.C_of_reads (hA2 w' (Kd.reads_of_C hw))))
          rw [List.length_drop] at hv
          exact ⟨by simp, ⟨_, h1.set hv⟩, Fg.trans (Fg.of_below hb) (Fg.set _)⟩
theorem WS.new (w : World) : WS (w.alloc (.cells #[.slice none 0 0] 92)) w.heap.size w.heap.size (.slice none 0 0) [] :=
  ⟨Boxed.new w 92 _, Nat.le_refl _, rfl, .inl ⟨rfl, rfl⟩⟩
theorem WS.own {w : World} {n₀ g : Nat} {v : Value} {xs : List Int} (h : WS w n₀ g v xs) : ∀ b, v.ownBlock = some b → n₀ ≤ b := fun b hb => (h.row.lt b hb).1
end
-- YtknanbnjbilciaaGreatDoorPAkTake
/-- The parser at block g: no error, a reader at block gr that has xs left. -/
structure PP (w : World) (lo gr g : Nat) (v : Value) (xs : List Int) : Prop where
  box : w.heap[g]? = some (.cells #[.pointer (some ⟨gr, 0, none⟩), .nilIface] 99 (0, 0))
  rd : RS w lo gr v xs
  low : lo ≤ gr
  lt : gr < g
theorem PP.size {w : World} {lo gr g : Nat} {v : Value} {xs : List Int} (h : PP w lo gr g v xs) : g < w.heap.size := blk_lt h.box
theorem PP.step {w w' : World} {lo gr g : Nat} {v v' : Value} {xs xs' : List Int} (h : PP w lo gr g v xs) (hr : RS w' lo gr v' xs') (hf : Fg gr w w') : PP w' lo gr g v' xs' :=
  ⟨(hf.at g h.size (by have := h.lt; omega)).trans h.box, hr, h.low, h.lt⟩
theorem PP.below {w w' : World} {lo gr g : Nat} {v : Value} {xs : List Int} (h : PP w lo gr g v xs) (hb : Below w.heap.size w w') : PP w' lo gr g v xs :=
  h.step (h.rd.below hb h.low) (Fg.of_below hb)
set_option maxRecDepth 100000 in
set_option maxHeartbeats 4000000 in
theorem ptake_calls {w : World} {lo gr g : Nat} {v : Value} {xs : List Int} (h : PP w lo gr g v xs) (s : ByteArray) (wide : Int) (hE : tkE xs wide = 0) :
    Calls Tryz.prog 43 #[.pointer (some ⟨g, 0, none⟩), .string s, .int .i64 wide] w fun e w' => e = .returned (.int .i64 (tkN xs wide)) ∧ (∃ v', PP w' lo gr g v' (tkL xs wide)) ∧ Fg gr w w' := by
  have hc0 := blk_cell h.box 0
  have hc1 := blk_cell h.box 1
  go_enter Tryz.func43, Tryz.ntmps43
  go_wp2_with (first
    | (go_at_call 74; refine (bitioTake_calls lo gr v xs wide w h.rd h.low).mono ?_; rintro e w1 ⟨rfl, ⟨v', hv⟩, hf⟩; rw [hE])
    | fail)
  go_ret
  exact ⟨by simp, ⟨v', h.step hv hf⟩, hf⟩
set_option maxRecDepth 100000 in
set_option maxHeartbeats 4000000 in
theorem pneed_calls {w : World} {lo gr g : Nat} {v : Value} {xs : List Int} (h : PP w lo gr g v xs) (s : ByteArray) (e : Int) :
    Calls Tryz.prog 45 #[.pointer (some ⟨g, 0, none⟩), .bool true, .string s, .int .i64 e] w fun e w' => e = .returned (.tuple #[]) ∧ Below w.heap.size w w' := by
  have hc0 := blk_cell h.box 0
  have hc1 := blk_cell h.box 1
  go_enter Tryz.func45, Tryz.ntmps45
  go_wp2_with fail
  refine bodyPost_end (results_none rfl _ _ _) rfl ?_
  exact ⟨by simp, Below.refl _ _⟩
set_option maxRecDepth 100000 in
set_option maxHeartbeats 4000000 in
theorem told_nil (w : World) : Calls Tryz.prog 21 #[.nilIface] w fun e w' => e = .returned (.int .i64 0) ∧ Below w.heap.size w w' := by
  go_enter Tryz.func21, Tryz.ntmps21
  go_wp2_with fail
  go_ret
  exact ⟨by simp, below_alloc (Below.refl _ _) _⟩
end Go.Proofs.YtknanbnjbilciaaGreatDoor.P
namespace Go.Proofs.YtknanbnjbilciaaGreatDoor.P
open Go.RowKit Go.Proofs.YtknanbnjbilciaaGreatDoorW.PrintWords Go.Proofs.YtknanbnjbilciaaGreatDoorW.PrintLast Go.Proofs.YtknanbnjbilciaaGreatDoorW.PrintMore
-- YtknanbnjbilciaaGreatDoorP7
section
attribute [local go_sem] max2_int min2_int max_two min_two max_three min_three max_four min_four
set_option linter.unusedVariables false
set_option linter.unusedSimpArgs false

/-! ### slices_Clone_byte_byte: function 31 -/
def slices_Clone_byte_byte.f (l0 : List Int) : Option (List Int) := if l0.length < 140737488355328 then some l0 else none
set_option maxHeartbeats 8000000 in
set_option maxRecDepth 100000 in
theorem slices_Clone_byte_byte.calls (A0 : Option Addr) (c0 : Nat) (l0 : List Int) (r : List Int) (w : World) (hr0 : Kd.C (Kd.int .u8) w A0 l0.length l0) (hc0 : l0.length ≤ c0) (h : slices_Clone_byte_byte.f l0 = some r) :
    Calls Tryz.prog 31 #[.slice A0 l0.length c0] w fun e w' => ∃ v0_ : Value, e = .returned (v0_) ∧ Kd.R (Kd.int .u8) 5 w' w.heap.size (fun _ => True) v0_ r ∧ Below w.heap.size w w' := by
  have HR0 := Aside0.mk hr0
  have HC0 := Aside0.mk hc0
  have HB := Aside0.mk (Below.refl w.heap.size w)
  unfold slices_Clone_byte_byte.f at h
  by_cases c3 : l0.length < 140737488355328
  · rw [if_pos c3] at h
    obtain rfl := Option.some.inj h
    clear h
    cases A0 with
    | none =>
      have hl : l0 = [] := nil_of_none hr0
      subst hl
      have heq := fun wx => Lib.run_eql_slice_nil (P := Tryz.prog) wx 31 5 none 0 c0 0 0 Tryz.underlying31
      clear hr0 hc0
      go_enter Tryz.func31, Tryz.ntmps31
      go_wp2
      go_ret
      exact ⟨_, rfl, Kd.R_nil _ _ _ _ _, HB.out⟩
    | some a =>
      obtain ⟨y1, hy1⟩ : ∃ y_ : List Int, y_ = (([] : List Int)) := ⟨_, rfl⟩
      have Ny1 := Aside0.mk hy1
      have hr : l0 = y1 ++ l0 := by rw [hy1]; rfl
      have Nr := Aside0.mk hr
      have LM := Aside0.mk c3
      have hlen : y1.length = 0 := by rw [hy1]; rfl
      have NL := Aside0.mk hlen
      have heq := fun wx => Lib.run_eql_slice_nil (P := Tryz.prog) wx 31 5 (some a) l0.length c0 0 0 Tryz.underlying31
      clear hr0 hc0 hy1 hr c3 hlen
      go_enter Tryz.func31, Tryz.ntmps31
      go_wp2_with (first | ((with_reducible refine gate_dst (N := 5) rfl ?_); refine Kd.R_lit (Kd.int .u8) _ 5 ?hg (N := 5) ?hd (xs := ([] : List Int)) (inner := []) (ok := fun _ => True) (okp := fun _ => True) ?hr ?hp (fun _ hk => hk) trivial (Below.refl _ _) (Nat.le_refl _) (by simp) ?_; (case hd => rfl); (case hg => rfl); (case hr => first | (go_simp; done) | (go_simp; rfl)); (case hp => exact (Reps.none _ _)); intro v1 w5 ho6 hb hg_ hnew_; clear hg_ hnew_; rw [← Ny1.out] at ho6; have n0_ := Aside0.mk (Kd.R_lower ho6 (below_size (by repeat (first | (with_reducible first | exact HB.out | apply below_alloc | apply pw_below_drewN | apply below_drew1) | exact HB.out)))); have n1_ := Aside0.mk (below_step (by repeat (first | (with_reducible first | exact HB.out | apply below_alloc | apply pw_below_drewN | apply below_drew1) | exact HB.out)) hb); clear HB; have HO1 := n0_; have HB := n1_; clear n0_ n1_; clear hb ho6) | ((with_reducible refine gate_builtin (b := .append) (xs := #[.tmp 5, .tmp 6]) rfl ?_); at_builtin; refine Kd.R_append_rows (Kd.int .u8) (w0 := w) w.heap.size rfl (.tmp 5) (.tmp 6) 31 5 (.int .u8 0) 1 rfl Tryz.underlying31 info5 rfl (by decide) (by omega) v1 y1 l0 _ _ _ (fun _ => True) (fun _ => False) rfl rfl ?aO ?aR (fun _ _ h => h) (fun _ h => h.elim) ?aF ?aB ?aS ?aL ?_; (case aR => repeat (first | exact (Kd.C_below HR0.out HB.out) | (with_reducible refine Kd.C_alloc ?_ _) | (with_reducible refine Kd.C_drewN ?_ _) | (with_reducible refine Kd.C_drew ?_))); (case aB => exact (by repeat (first | (with_reducible first | exact HB.out | apply below_alloc | apply pw_below_drewN | apply below_drew1) | exact HB.out))); (case aF => exact (fun _ _ => trivial)); (case aO => exact (by (with_reducible repeat (first | apply Kd.R_alloc | apply Kd.R_drewN | apply Kd.R_drew)); exact HO1.out)); (case aS => exact (below_size (by repeat (first | (with_reducible first | exact HB.out | apply below_alloc | apply pw_below_drewN | apply below_drew1) | exact HB.out)))); (case aL => have := LM.out; have := NL.out; omega); intro v114 w7 ho hb hg hat; rw [← Nr.out] at ho; have n0_ := Aside0.mk (hb); have n1_ := Aside0.mk (ho); clear HB; clear HO1; have HB := n0_; have HO115 := n1_; clear n0_ n1_; clear ho hb hg hat))
      go_ret
      exact ⟨_, rfl, HO115.out, HB.out⟩
  · rw [if_neg c3] at h
    exact absurd h (by simp)
end
-- YtknanbnjbilciaaGreatDoorP28
section
attribute [local go_sem] max2_int min2_int max_two min_two max_three min_three max_four min_four
set_option linter.unusedVariables false
set_option linter.unusedSimpArgs false

/-! ### crc16_step: function 100 -/
def crc16_step.l0 : Nat → Int → Int → Option (Int)
  | 0, _, _ => none
  | k + 1, x0, x11 => if x11 < 8 then (if (Go.bits .and .u16 x0 32768) = 0 then (crc16_step.l0 k (IntKind.u16.wrap (x0 * 2)) (wrap64 (x11 + 1))) else (crc16_step.l0 k (Go.bits .xor .u16 (IntKind.u16.wrap (x0 * 2)) 4129) (wrap64 (x11 + 1)))) else (some x0)
def crc16_step.f (k : Nat) (a0 : Int) (a1 : Int) : Option (Int) := crc16_step.l0 k (Go.bits .xor .u16 a0 (IntKind.u16.wrap ((IntKind.u16.wrap (a1)) * 256))) 0
theorem crc16_step.mono_l : ∀ k, (∀ y0 y1, LeO (crc16_step.l0 k y0 y1) (crc16_step.l0 (k + 1) y0 y1))
  | 0 => fun _ _ r h => by simp [crc16_step.l0] at h
  | k + 1 => by
    have ih0 := crc16_step.mono_l k
    · intro y0 y1
      unfold crc16_step.l0
      repeat' first
      | (with_reducible exact ih0 _ _)
      | (with_reducible exact LeO.refl _)
      | (with_reducible exact LeO.none _)
      | (with_reducible refine LeO.ite ?_ ?_)
      | (with_reducible refine LeO.bind ?_ (fun _ => ?_))
      | exact ih0 _ _
      | exact LeO.none _
      | refine LeO.ite ?_ ?_
      | refine LeO.bind ?_ (fun _ => ?_)
theorem crc16_step.mono : ∀ a0 a1 k, LeO (crc16_step.f k a0 a1) (crc16_step.f (k + 1) a0 a1) := by
  intro a0 a1 k
  have ih0 := crc16_step.mono_l k
  unfold crc16_step.f
  repeat' first
      | (with_reducible exact ih0 _ _)
      | (with_reducible exact LeO.refl _)
      | (with_reducible exact LeO.none _)
      | (with_reducible refine LeO.ite ?_ ?_)
      | (with_reducible refine LeO.bind ?_ (fun _ => ?_))
      | exact ih0 _ _
      | exact LeO.none _
      | refine LeO.ite ?_ ?_
      | refine LeO.bind ?_ (fun _ => ?_)
set_option maxHeartbeats 8000000 in
set_option maxRecDepth 100000 in
theorem crc16_step.calls (k : Nat) (a0 : Int) (a1 : Int) (r : Int) (w : World) (h : crc16_step.f k a0 a1 = some r) :
    Calls Tryz.prog 100 #[.int .u16 a0, .int .u8 a1] w fun e w' => e = .returned (.int .u16 r) ∧ Drawn0 w w' := by
  have H : (crc16_step.l0 k (Go.bits .xor .u16 a0 (IntKind.u16.wrap ((IntKind.u16.wrap (a1)) * 256))) 0) = some r := h
  clear h
  have H' := Aside0.mk H
  clear H
  go_enter Tryz.func100, Tryz.ntmps100
  go_wp2
  go_loopg [0, 11] k (fun kq v0 v11 w' => ∃ (x0_1 : Int) (x11_1 : Int), v0 = .int .u16 x0_1 ∧ v11 = .int .i64 x11_1 ∧ Aside0 (crc16_step.l0 kq x0_1 x11_1 = some r) ∧ Aside0 (kq ≤ k) ∧ Drawn0 w w')
  case atStart => exact ⟨(Go.bits .xor .u16 a0 (IntKind.u16.wrap ((IntKind.u16.wrap (a1)) * 256))), (0), (by first | rfl | (simp; done) | (simp [*]; done)), (by first | rfl | (simp; done) | (simp [*]; done)), H', ⟨Nat.le_refl _⟩, by repeat (first | exact Drawn0.refl _ | apply Drawn0.step)⟩
  case round =>
    clear H'
    try clear c1
    try clear p2
    obtain ⟨x0_1, x11_1, rfl, rfl, HA, HK1, ⟨m1, rfl⟩⟩ := hrel
    cases gk with
    | zero => exact absurd HA.out (by simp [crc16_step.l0])
    | succ k1 =>
      have H := HA.out
      clear HA
      simp only [crc16_step.l0] at H
      by_cases c3 : x11_1 < 8
      · rw [if_pos c3] at H
        have c3b0 : decide (x11_1 < 8) = true := decide_eq_true c3
        clear c3
        by_cases c4 : (Go.bits .and .u16 x0_1 32768) = 0
        · rw [if_pos c4] at H
          have c4b0 : ((Go.bits .and .u16 x0_1 32768) == 0) = true := beq_iff_eq.mpr c4
          have c4b1 : ((Go.bits .and .u16 x0_1 32768) != 0) = false := bne_eq_false_iff_eq.mpr c4
          clear c4
          have H' := Aside0.mk H
          clear H
          go_wp2
          go_roundg k1
          case measure => have := HK1.out; omega
          case rel => exact ⟨(IntKind.u16.wrap (x0_1 * 2)), (wrap64 (x11_1 + 1)), (by first | rfl | (simp; done) | (simp [*]; done)), (by first | rfl | (simp; done) | (simp [*]; done)), H', ⟨by have := HK1.out; omega⟩, by repeat (first | exact Drawn0.refl _ | apply Drawn0.step)⟩
        · rw [if_neg c4] at H
          have c4b0 : ((Go.bits .and .u16 x0_1 32768) == 0) = false := beq_eq_false_iff_ne.mpr c4
          have c4b1 : ((Go.bits .and .u16 x0_1 32768) != 0) = true := bne_iff_ne.mpr c4
          have H' := Aside0.mk H
          clear H
          go_wp2
          go_roundg k1
          case measure => have := HK1.out; omega
          case rel => exact ⟨(Go.bits .xor .u16 (IntKind.u16.wrap (x0_1 * 2)) 4129), (wrap64 (x11_1 + 1)), (by first | rfl | (simp; done) | (simp [*]; done)), (by first | rfl | (simp; done) | (simp [*]; done)), H', ⟨by have := HK1.out; omega⟩, by repeat (first | exact Drawn0.refl _ | apply Drawn0.step)⟩
      · rw [if_neg c3] at H
        have c3b0 : decide (x11_1 < 8) = false := decide_eq_false c3
        clear c3
        obtain rfl := Option.some.inj H
        go_wp2
        go_ret
        exact ⟨by first | rfl | (simp; done) | (simp [*]; done), by repeat (first | exact Drawn0.refl _ | apply Drawn0.step)⟩
end
-- YtknanbnjbilciaaGreatDoorP29
section
attribute [local go_sem] max2_int min2_int max_two min_two max_three min_three max_four min_four
set_option linter.unusedVariables false
set_option linter.unusedSimpArgs false

/-! ### crc16_Sum: function 73 -/
def crc16_Sum.l0 : Nat → Int → List Int → Int → Int → Option (Int)
  | 0, _, _, _, _ => none
  | k + 1, x3, x6, x7, x8 => if x8 < x7 then (if 0 ≤ x8 then (if x8 < (x6.length : Int) then ((crc16_step.f k x3 (rd x6 x8)).bind fun t204 => (crc16_Sum.l0 k t204 x6 x7 (wrap64 (x8 + 1)))) else (none)) else (none)) else (some x3)
def crc16_Sum.f (k : Nat) (l0 : List Int) : Option (Int) := crc16_Sum.l0 k 65535 l0 (l0.length : Int) 0
theorem crc16_Sum.mono_l : ∀ k, (∀ y0 y1 y2 y3, LeO (crc16_Sum.l0 k y0 y1 y2 y3) (crc16_Sum.l0 (k + 1) y0 y1 y2 y3))
  | 0 => fun _ _ _ _ r h => by simp [crc16_Sum.l0] at h
  | k + 1 => by
    have ih0 := crc16_Sum.mono_l k
    · intro y0 y1 y2 y3
      unfold crc16_Sum.l0
      repeat' first
      | (with_reducible exact ih0 _ _ _ _)
      | (with_reducible exact crc16_step.mono _ _ _)
      | (with_reducible exact LeO.refl _)
      | (with_reducible exact LeO.none _)
      | (with_reducible refine LeO.ite ?_ ?_)
      | (with_reducible refine LeO.bind ?_ (fun _ => ?_))
      | exact ih0 _ _ _ _
      | exact crc16_step.mono _ _ _
      | exact LeO.none _
      | refine LeO.ite ?_ ?_
      | refine LeO.bind ?_ (fun _ => ?_)
theorem crc16_Sum.mono : ∀ a0 k, LeO (crc16_Sum.f k a0) (crc16_Sum.f (k + 1) a0) := by
  intro a0 k
  have ih0 := crc16_Sum.mono_l k
  unfold crc16_Sum.f
  repeat' first
      | (with_reducible exact ih0 _ _ _ _)
      | (with_reducible exact crc16_step.mono _ _ _)
      | (with_reducible exact LeO.refl _)
      | (with_reducible exact LeO.none _)
      | (with_reducible refine LeO.ite ?_ ?_)
      | (with_reducible refine LeO.bind ?_ (fun _ => ?_))
      | exact ih0 _ _ _ _
      | exact crc16_step.mono _ _ _
      | exact LeO.none _
      | refine LeO.ite ?_ ?_
      | refine LeO.bind ?_ (fun _ => ?_)
set_option maxHeartbeats 8000000 in
set_option maxRecDepth 100000 in
theorem crc16_Sum.calls (k : Nat) (A0 : Option Addr) (c0 : Nat) (l0 : List Int) (r : Int) (w : World) (hr0 : Kd.C (Kd.int .u8) w A0 l0.length l0) (hc0 : l0.length ≤ c0) (h : crc16_Sum.f k l0 = some r) :
    Calls Tryz.prog 73 #[.slice A0 l0.length c0] w fun e w' => e = .returned (.int .u16 r) ∧ Drawn0 w w' := by
  have HR0 := Aside0.mk hr0
  have HC0 := Aside0.mk hc0
  clear hr0 hc0
  have H : (crc16_Sum.l0 k 65535 l0 (l0.length : Int) 0) = some r := h
  clear h
  have H' := Aside0.mk H
  clear H
  go_enter Tryz.func73, Tryz.ntmps73
  go_wp2
  go_loopg [3, 8] k (fun kq v3 v8 w' => ∃ (x3_1 : Int) (x8_1 : Int), v3 = .int .u16 x3_1 ∧ v8 = .int .i64 x8_1 ∧ Aside0 (crc16_Sum.l0 kq x3_1 l0 (l0.length : Int) x8_1 = some r) ∧ Aside0 (kq ≤ k) ∧ Drawn0 w w')
  case atStart => exact ⟨(65535), (0), (by first | rfl | (simp; done) | (simp [*]; done)), (by first | rfl | (simp; done) | (simp [*]; done)), H', ⟨Nat.le_refl _⟩, by repeat (first | exact Drawn0.refl _ | apply Drawn0.step)⟩
  case round =>
    clear H'
    try clear c1
    obtain ⟨x3_1, x8_1, rfl, rfl, HA, HK1, ⟨m1, rfl⟩⟩ := hrel
    cases gk with
    | zero => exact absurd HA.out (by simp [crc16_Sum.l0])
    | succ k1 =>
      have H := HA.out
      clear HA
      simp only [crc16_Sum.l0] at H
      by_cases c2 : x8_1 < (l0.length : Int)
      · rw [if_pos c2] at H
        have c2b0 : decide (x8_1 < (l0.length : Int)) = true := decide_eq_true c2
        clear c2
        by_cases c3 : 0 ≤ x8_1
        · rw [if_pos c3] at H
          have c3b0 : decide (0 ≤ x8_1) = true := decide_eq_true c3
          clear c3
          by_cases c4 : x8_1 < (l0.length : Int)
          · rw [if_pos c4] at H
            have c4b0 : decide (x8_1 < (l0.length : Int)) = true := decide_eq_true c4
            clear c4
            replace H := Option.bind_eq_some_iff.mp H
            obtain ⟨t204, A50, H⟩ := H
            replace H : (crc16_Sum.l0 k1 t204 l0 (l0.length : Int) (wrap64 (x8_1 + 1))) = some r := H
            have A5 := Aside0.mk A50
            clear A50
            have H' := Aside0.mk H
            clear H
            have p203 : 0 ≤ (x8_1 : Int) := of_decide_eq_true (by first | (with_reducible assumption) | assumption)
            have q203 : x8_1 < (l0.length : Int) := of_decide_eq_true (by first | (with_reducible assumption) | assumption)
            obtain ⟨ad203, e203, hx203_0⟩ := Kd.at_int HR0.out x8_1 p203 q203
            cases e203
            replace p203 := eq_true p203
            replace q203 := eq_true q203
            go_wp2_with (first | ((with_reducible refine gate_callee (f := 100) rfl ?_); refine goesL_ (some 14) rfl rfl Tryz.func100 (by kernel_rfl) rfl #[.int .u16 x3_1, .int .u8 (rd l0 x8_1)] rfl (by (try simp only [List.map_toArray, List.map_cons, List.map_nil]); first | done | rfl | (simp only [List.length_drop, List.length_take]; rfl)) ?_; (with_reducible refine (crc16_step.calls k1 x3_1 (rd l0 x8_1) t204 _ A5.out).mono ?_); rintro e w' ⟨rfl, ⟨nd, rfl⟩⟩; refine ⟨_, rfl, ?_⟩))
            go_roundg k1
            case measure => have := HK1.out; omega
            case rel => exact ⟨(t204), (wrap64 (x8_1 + 1)), (by first | rfl | (simp; done) | (simp [*]; done)), (by first | rfl | (simp; done) | (simp [*]; done)), H', ⟨by have := HK1.out; omega⟩, by repeat (first | exact Drawn0.refl _ | apply Drawn0.step)⟩
          · rw [if_neg c4] at H
            exact absurd H (by simp)
        · rw [if_neg c3] at H
          exact absurd H (by simp)
      · rw [if_neg c2] at H
        have c2b0 : decide (x8_1 < (l0.length : Int)) = false := decide_eq_false c2
        clear c2
        obtain rfl := Option.some.inj H
        go_wp2
        go_ret
        exact ⟨by first | rfl | (simp; done) | (simp [*]; done), by repeat (first | exact Drawn0.refl _ | apply Drawn0.step)⟩
end
end Go.Proofs.YtknanbnjbilciaaGreatDoor.P
