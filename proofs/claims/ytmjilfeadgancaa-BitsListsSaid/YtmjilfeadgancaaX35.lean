-- Made by xprint.py (an own driver round the kit's print.py), with contracts of this session's own. Lean checks it.
import Derived.Test.YtmjilfeadgancaaX0
import Derived.Test.YtmjilfeadgancaaX7
import Derived.Test.YtmjilfeadgancaaX19
import Derived.Test.YtmjilfeadgancaaX22
import Derived.Test.YtmjilfeadgancaaX23
import Derived.Test.YtmjilfeadgancaaX24
import Derived.Test.YtmjilfeadgancaaX27
import Derived.Test.YtmjilfeadgancaaX28
import Derived.Test.YtmjilfeadgancaaX32
import Derived.Test.YtmjilfeadgancaaX33
import Derived.Test.YtmjilfeadgancaaX34
namespace Go.Proofs.Ytmjilfeadgancaa.X
open Go.RowKit Go.Proofs.YtmjilfeadgancaaW.PrintWords Go.Proofs.YtmjilfeadgancaaW.PrintLast Go.Proofs.YtmjilfeadgancaaW.PrintMore
attribute [local go_sem] max2_int min2_int max_two min_two max_three min_three max_four min_four   -- for this text's walks alone
set_option linter.unusedVariables false
set_option linter.unusedSimpArgs false

/-! ### shuttlelaw01_BitsLists: function 9 -/
mutual
def shuttlelaw01_BitsLists.l0 : Nat → List Int → List Int → ByteArray → List Int → Int → Int → Int → Option (Bool)
  | 0, _, _, _, _, _, _, _ => none
  | k + 1, x0, x1, x5, x6, x7, x8, x9 => if x9 < (x0.length : Int) then (if 0 ≤ x9 then (if (rd x0 x9) = 0 then (shuttlelaw01_BitsLists.l0 k x0 x1 x5 x6 x7 x8 (wrap64 (x9 + 1))) else (shuttlelaw01_BitsLists.l0 k x0 x1 x5 x6 x7 (wrap64 (x8 + 1)) (wrap64 (x9 + 1)))) else (none)) else ((bits_Turn.f k x0 x1).bind fun t256 => ((shuttlelaw01_tells.f k).bind fun t259 => (if t259 = true then ((bits_Right.f k x0).bind fun t260 => ((shuttleref01_Right.f k x0).bind fun t261 => (if (t260 != t261) = true then (shuttlelaw01_BitsLists.j1 k x0 x6 x7 t256 true) else ((bits_Weight.f k x0).bind fun t262 => (if t262 = x8 then ((shuttleref01_Turn.f k x0 x1).bind fun t263 => (if (strOfNums t256).toList = (strOfNums t263).toList then (shuttlelaw01_BitsLists.j1 k x0 x6 x7 t256 ((strOfNums x0).toList != x5.toList)) else (shuttlelaw01_BitsLists.j1 k x0 x6 x7 t256 true))) else (shuttlelaw01_BitsLists.j1 k x0 x6 x7 t256 true)))))) else (shuttlelaw01_BitsLists.j1 k x0 x6 x7 t256 true))))
def shuttlelaw01_BitsLists.j1 : Nat → List Int → List Int → Int → List Int → Bool → Option (Bool)
  | 0, _, _, _, _, _ => none
  | k + 1, x0, x6, x7, x10, x77 => if x77 = true then (some false) else ((bits_Apart.f k x0 x10).bind fun bt266 => ((shuttleref01_Right.f k x0).bind fun t268 => (if t268 = true then (if x7 = 0 then ((shuttleref01_Bytes.f k x0).bind fun t269 => (if (strOfNums x6).toList = (strOfNums t269).toList then (if bt266.2 = true then ((shuttleref01_Apart.f k x0 x10).bind fun t272 => (some (bt266.1 == t272))) else (some false)) else (some false))) else (some false)) else (if x7 = 5 then (if (x6.length : Int) = 0 then (some bt266.2) else (some false)) else (some false)))))
end
def shuttlelaw01_BitsLists.f (k : Nat) (l0 : List Int) (l1 : List Int) : Option (Bool) := (some (([] : List Int) : List Int)).bind fun y243 => (if 0 ≤ (mn (l0.length : Int) 200) then (if (mn (l0.length : Int) 200) ≤ (l0.length : Int) then (if y243.length + (l0.take ((mn (l0.length : Int) 200) : Int).toNat).length < 140737488355328 then ((some (y243 ++ (l0.take ((mn (l0.length : Int) 200) : Int).toNat) : List Int)).bind fun y247 => (if 0 ≤ (mn (l1.length : Int) 20) then (if (mn (l1.length : Int) 20) ≤ (l1.length : Int) then ((bits_Bytes.f k y247).bind fun bt251 => (shuttlelaw01_BitsLists.l0 k y247 (l1.take ((mn (l1.length : Int) 20) : Int).toNat) (strOfNums y247) bt251.1 bt251.2 0 0)) else (none)) else (none))) else (none)) else (none)) else (none))
theorem shuttlelaw01_BitsLists.mono_l : ∀ k, (∀ y0 y1 y2 y3 y4 y5 y6, LeO (shuttlelaw01_BitsLists.l0 k y0 y1 y2 y3 y4 y5 y6) (shuttlelaw01_BitsLists.l0 (k + 1) y0 y1 y2 y3 y4 y5 y6)) ∧ (∀ y0 y1 y2 y3 y4, LeO (shuttlelaw01_BitsLists.j1 k y0 y1 y2 y3 y4) (shuttlelaw01_BitsLists.j1 (k + 1) y0 y1 y2 y3 y4))
  | 0 => ⟨fun _ _ _ _ _ _ _ r h => by simp [shuttlelaw01_BitsLists.l0] at h, fun _ _ _ _ _ r h => by simp [shuttlelaw01_BitsLists.j1] at h⟩
  | k + 1 => by
    obtain ⟨ih0, ih1⟩ := shuttlelaw01_BitsLists.mono_l k
    refine ⟨?_, ?_⟩
    · intro y0 y1 y2 y3 y4 y5 y6
      unfold shuttlelaw01_BitsLists.l0
      repeat' first
      | (with_reducible exact ih0 _ _ _ _ _ _ _)
      | (with_reducible exact ih1 _ _ _ _ _)
      | (with_reducible exact bits_Apart.mono _ _ _)
      | (with_reducible exact bits_Bytes.mono _ _)
      | (with_reducible exact bits_Right.mono _ _)
      | (with_reducible exact bits_Turn.mono _ _ _)
      | (with_reducible exact bits_Weight.mono _ _)
      | (with_reducible exact shuttlelaw01_tells.mono _)
      | (with_reducible exact shuttleref01_Apart.mono _ _ _)
      | (with_reducible exact shuttleref01_Bytes.mono _ _)
      | (with_reducible exact shuttleref01_Right.mono _ _)
      | (with_reducible exact shuttleref01_Turn.mono _ _ _)
      | (with_reducible exact LeO.refl _)
      | (with_reducible exact LeO.none _)
      | (with_reducible refine LeO.ite ?_ ?_)
      | (with_reducible refine LeO.bind ?_ (fun _ => ?_))
      | exact ih0 _ _ _ _ _ _ _
      | exact ih1 _ _ _ _ _
      | exact bits_Apart.mono _ _ _
      | exact bits_Bytes.mono _ _
      | exact bits_Right.mono _ _
      | exact bits_Turn.mono _ _ _
      | exact bits_Weight.mono _ _
      | exact shuttlelaw01_tells.mono _
      | exact shuttleref01_Apart.mono _ _ _
      | exact shuttleref01_Bytes.mono _ _
      | exact shuttleref01_Right.mono _ _
      | exact shuttleref01_Turn.mono _ _ _
      | exact LeO.none _
      | refine LeO.ite ?_ ?_
      | refine LeO.bind ?_ (fun _ => ?_)
    · intro y0 y1 y2 y3 y4
      unfold shuttlelaw01_BitsLists.j1
      repeat' first
      | (with_reducible exact ih0 _ _ _ _ _ _ _)
      | (with_reducible exact ih1 _ _ _ _ _)
      | (with_reducible exact bits_Apart.mono _ _ _)
      | (with_reducible exact bits_Bytes.mono _ _)
      | (with_reducible exact bits_Right.mono _ _)
      | (with_reducible exact bits_Turn.mono _ _ _)
      | (with_reducible exact bits_Weight.mono _ _)
      | (with_reducible exact shuttlelaw01_tells.mono _)
      | (with_reducible exact shuttleref01_Apart.mono _ _ _)
      | (with_reducible exact shuttleref01_Bytes.mono _ _)
      | (with_reducible exact shuttleref01_Right.mono _ _)
      | (with_reducible exact shuttleref01_Turn.mono _ _ _)
      | (with_reducible exact LeO.refl _)
      | (with_reducible exact LeO.none _)
      | (with_reducible refine LeO.ite ?_ ?_)
      | (with_reducible refine LeO.bind ?_ (fun _ => ?_))
      | exact ih0 _ _ _ _ _ _ _
      | exact ih1 _ _ _ _ _
      | exact bits_Apart.mono _ _ _
      | exact bits_Bytes.mono _ _
      | exact bits_Right.mono _ _
      | exact bits_Turn.mono _ _ _
      | exact bits_Weight.mono _ _
      | exact shuttlelaw01_tells.mono _
      | exact shuttleref01_Apart.mono _ _ _
      | exact shuttleref01_Bytes.mono _ _
      | exact shuttleref01_Right.mono _ _
      | exact shuttleref01_Turn.mono _ _ _
      | exact LeO.none _
      | refine LeO.ite ?_ ?_
      | refine LeO.bind ?_ (fun _ => ?_)
theorem shuttlelaw01_BitsLists.mono : ∀ a0 a1 k, LeO (shuttlelaw01_BitsLists.f k a0 a1) (shuttlelaw01_BitsLists.f (k + 1) a0 a1) := by
  intro a0 a1 k
  obtain ⟨ih0, ih1⟩ := shuttlelaw01_BitsLists.mono_l k
  unfold shuttlelaw01_BitsLists.f
  repeat' first
      | (with_reducible exact ih0 _ _ _ _ _ _ _)
      | (with_reducible exact ih1 _ _ _ _ _)
      | (with_reducible exact bits_Apart.mono _ _ _)
      | (with_reducible exact bits_Bytes.mono _ _)
      | (with_reducible exact bits_Right.mono _ _)
      | (with_reducible exact bits_Turn.mono _ _ _)
      | (with_reducible exact bits_Weight.mono _ _)
      | (with_reducible exact shuttlelaw01_tells.mono _)
      | (with_reducible exact shuttleref01_Apart.mono _ _ _)
      | (with_reducible exact shuttleref01_Bytes.mono _ _)
      | (with_reducible exact shuttleref01_Right.mono _ _)
      | (with_reducible exact shuttleref01_Turn.mono _ _ _)
      | (with_reducible exact LeO.refl _)
      | (with_reducible exact LeO.none _)
      | (with_reducible refine LeO.ite ?_ ?_)
      | (with_reducible refine LeO.bind ?_ (fun _ => ?_))
      | exact ih0 _ _ _ _ _ _ _
      | exact ih1 _ _ _ _ _
      | exact bits_Apart.mono _ _ _
      | exact bits_Bytes.mono _ _
      | exact bits_Right.mono _ _
      | exact bits_Turn.mono _ _ _
      | exact bits_Weight.mono _ _
      | exact shuttlelaw01_tells.mono _
      | exact shuttleref01_Apart.mono _ _ _
      | exact shuttleref01_Bytes.mono _ _
      | exact shuttleref01_Right.mono _ _
      | exact shuttleref01_Turn.mono _ _ _
      | exact LeO.none _
      | refine LeO.ite ?_ ?_
      | refine LeO.bind ?_ (fun _ => ?_)
def shuttlelaw01_BitsLists.T12 : Bool × List (List Nat × List Nat) := (true, [([], []), ([0], [0]), ([1, 0], [1]), ([2], [2]), ([3, 2, 2], [2, 3]), ([2], [2]), ([5, 4, 2], [2, 5]), ([4, 6, 2], [2, 4, 6]), ([2, 7], [2, 7]), ([8, 6], [8]), ([9], [9]), ([10, 9, 9], [9, 10]), ([9], [9]), ([11, 12, 9], [9, 11, 12]), ([9, 13], [9, 13]), ([14, 11], [14]), ([15], [15]), ([16, 15], [15, 16]), ([15], [15]), ([15], [15]), ([18, 19, 15, 15], [15, 18, 19]), ([20, 15], [15, 20]), ([17, 21, 15], [15, 17, 21]), ([15, 22], [15, 22]), ([23, 20], [23]), ([24], [24]), ([25, 24], [24, 25]), ([24], [24]), ([26, 27, 24], [24, 26, 27]), ([24, 28], [24, 28])])
def shuttlelaw01_BitsLists.B12 : List Nat := [0, 1, 3, 7, 15, 7, 63, 127, 255, 511, 1023, 2047, 1023, 8191, 16383, 32767, 65535, 131071, 65535, 65535, 851967, 1900543, 4194303, 8388607, 16777215, 33554431, 67108863, 33554431, 268435455, 536870911]
theorem shuttlelaw01_BitsLists.tab12 : rtab .any (opsOf Try.f9 12) = shuttlelaw01_BitsLists.T12 := by kernel_rfl
theorem shuttlelaw01_BitsLists.bits12 : waitsOk shuttlelaw01_BitsLists.T12.2 shuttlelaw01_BitsLists.B12 = true := by kernel_rfl
def shuttlelaw01_BitsLists.T17 : Bool × List (List Nat × List Nat) := (true, [([], []), ([0], [0]), ([1], [1]), ([2], [2]), ([3, 2], [2, 3]), ([2], [2]), ([5, 2, 2], [2, 5]), ([6, 2], [2, 6]), ([4, 7, 2], [2, 4, 7]), ([2, 8], [2, 8]), ([9, 6], [9]), ([10], [10]), ([10, 11], [10, 11]), ([12, 10], [12]), ([13], [13]), ([13], [13]), ([13], [13]), ([15, 16, 13, 13], [13, 15, 16]), ([14, 17, 13], [13, 14, 17]), ([13, 18], [13, 18]), ([19, 17, 0, 1, 2, 3, 4, 5, 6, 7, 8, 9, 10, 11, 12, 13, 14, 15, 16, 17, 18, 19], [19])])
def shuttlelaw01_BitsLists.B17 : List Nat := [0, 1, 3, 7, 15, 7, 39, 103, 255, 511, 1023, 2047, 4095, 8191, 16383, 16383, 16383, 114687, 262143, 524287, 1048575]
theorem shuttlelaw01_BitsLists.tab17 : rtab .any (opsOf Try.f9 17) = shuttlelaw01_BitsLists.T17 := by kernel_rfl
theorem shuttlelaw01_BitsLists.bits17 : waitsOk shuttlelaw01_BitsLists.T17.2 shuttlelaw01_BitsLists.B17 = true := by kernel_rfl
abbrev tY : Bool := true
abbrev tN : Bool := false
theorem sq_a1 {α : Type} (l : List α) (i : Nat) (x : α) : l.toArray.setIfInBounds i x = (l.set i x).toArray := List.setIfInBounds_toArray ..
theorem sq_a2 {α : Type} (a : α) (s : List α) (x : α) : (a :: s).set 0 x = x :: s := List.set_cons_zero
theorem sq_a3 {α : Type} (a : α) (s : List α) (n : Nat) (x : α) : (a :: s).set (n + 1) x = a :: s.set n x := List.set_cons_succ
set_option maxHeartbeats 8000000 in
set_option maxRecDepth 100000 in
theorem shuttlelaw01_BitsLists.calls (k : Nat) (A0 : Option Addr) (c0 : Nat) (l0 : List Int) (A1 : Option Addr) (c1 : Nat) (l1 : List Int) (r : Bool) (w : World) (hr0 : Kd.C (Kd.int .u8) w A0 l0.length l0) (hc0 : l0.length ≤ c0) (hr1 : Kd.C (Kd.int .i64) w A1 l1.length l1) (hc1 : l1.length ≤ c1) (h : shuttlelaw01_BitsLists.f k l0 l1 = some r) :
  Calls Try.prog 9 #[.slice A0 l0.length c0, .slice A1 l1.length c1] w fun e w' => e = .returned (.bool r) ∧ Below w.heap.size w w' := by
 have HR0 := Aside0.mk hr0
 have HC0 := Aside0.mk hc0
 clear hr0 hc0
 have HR1 := Aside0.mk hr1
 have HC1 := Aside0.mk hc1
 clear hr1 hc1
 have HB := Aside0.mk (Below.refl w.heap.size w)
 have H : ((some (([] : List Int) : List Int)).bind fun y243 => (if 0 ≤ (mn (l0.length : Int) 200) then (if (mn (l0.length : Int) 200) ≤ (l0.length : Int) then (if y243.length + (l0.take ((mn (l0.length : Int) 200) : Int).toNat).length < 140737488355328 then ((some (y243 ++ (l0.take ((mn (l0.length : Int) 200) : Int).toNat) : List Int)).bind fun y247 => (if 0 ≤ (mn (l1.length : Int) 20) then (if (mn (l1.length : Int) 20) ≤ (l1.length : Int) then ((bits_Bytes.f k y247).bind fun bt251 => (shuttlelaw01_BitsLists.l0 k y247 (l1.take ((mn (l1.length : Int) 20) : Int).toNat) (strOfNums y247) bt251.1 bt251.2 0 0)) else (none)) else (none))) else (none)) else (none)) else (none))) = some r := h
 clear h
 obtain ⟨y243, hy243⟩ : ∃ y_ : List Int, y_ = (([] : List Int)) := ⟨_, rfl⟩
 replace H : (if 0 ≤ (mn (l0.length : Int) 200) then (if (mn (l0.length : Int) 200) ≤ (l0.length : Int) then (if y243.length + (l0.take ((mn (l0.length : Int) 200) : Int).toNat).length < 140737488355328 then ((some (y243 ++ (l0.take ((mn (l0.length : Int) 200) : Int).toNat) : List Int)).bind fun y247 => (if 0 ≤ (mn (l1.length : Int) 20) then (if (mn (l1.length : Int) 20) ≤ (l1.length : Int) then ((bits_Bytes.f k y247).bind fun bt251 => (shuttlelaw01_BitsLists.l0 k y247 (l1.take ((mn (l1.length : Int) 20) : Int).toNat) (strOfNums y247) bt251.1 bt251.2 0 0)) else (none)) else (none))) else (none)) else (none)) else (none)) = some r := by first | (rw [hy243]; with_reducible exact H) | (have H2_ := (Option.bind_some _ _).symm.trans H; rw [hy243]; with_reducible exact H2_) | (have H2_ := (Option.bind_some _ _).symm.trans H; with_reducible exact H2_) | with_reducible exact H | (rw [hy243]; exact H) | exact H
 have Ny243 := Aside0.mk hy243
 clear hy243
 obtain ⟨ji3, hji3⟩ : ∃ j_ : Int, (mn (l0.length : Int) 200) = j_ := ⟨_, rfl⟩
 replace H : (if 0 ≤ (ji3) then (if (ji3) ≤ (l0.length : Int) then (if y243.length + (l0.take ((ji3) : Int).toNat).length < 140737488355328 then ((some (y243 ++ (l0.take ((ji3) : Int).toNat) : List Int)).bind fun y247 => (if 0 ≤ (mn (l1.length : Int) 20) then (if (mn (l1.length : Int) 20) ≤ (l1.length : Int) then ((bits_Bytes.f k y247).bind fun bt251 => (shuttlelaw01_BitsLists.l0 k y247 (l1.take ((mn (l1.length : Int) 20) : Int).toNat) (strOfNums y247) bt251.1 bt251.2 0 0)) else (none)) else (none))) else (none)) else (none)) else (none)) = some r := by first | (rw [hji3] at H; exact H) | (simp only [hji3] at H ⊢; exact H)
 (try (have hji3h : ji3 ≤ 200 := by (rw [← hji3]; unfold mn; (repeat' split) <;> omega)))
 (try (have hji3g : ji3 ≤ 64 := by omega))
 (try (have hji3l : 0 ≤ ji3 := by (rw [← hji3]; unfold mn; (repeat' split) <;> omega)))
 (try (have hji3m : 0 ≤ ji3 := by omega))
 have hji3_ : (if 200 < (l0.length : Int) then 200 else (l0.length : Int)) = ji3 := hji3
 by_cases c4 : 0 ≤ (ji3)
 ·rw [if_pos c4] at H
  have c4b0 := eq_true c4
  have c4b1 : decide (0 ≤ (ji3)) = true := decide_eq_true c4
  clear c4
  by_cases c5 : (ji3) ≤ (l0.length : Int)
  ·rw [if_pos c5] at H
   have c5b0 := eq_true c5
   have c5b1 : decide ((ji3) ≤ (l0.length : Int)) = true := decide_eq_true c5
   clear c5
   by_cases c6 : y243.length + (l0.take ((ji3) : Int).toNat).length < 140737488355328
   ·rw [if_pos c6] at H
    have LMc6 := Aside0.mk c6
    clear c6
    obtain ⟨y247, hy247⟩ : ∃ y_ : List Int, y_ = (y243 ++ (l0.take ((ji3) : Int).toNat)) := ⟨_, rfl⟩
    replace H : (if 0 ≤ (mn (l1.length : Int) 20) then (if (mn (l1.length : Int) 20) ≤ (l1.length : Int) then ((bits_Bytes.f k y247).bind fun bt251 => (shuttlelaw01_BitsLists.l0 k y247 (l1.take ((mn (l1.length : Int) 20) : Int).toNat) (strOfNums y247) bt251.1 bt251.2 0 0)) else (none)) else (none)) = some r := by first | (rw [hy247]; with_reducible exact H) | (have H2_ := (Option.bind_some _ _).symm.trans H; rw [hy247]; with_reducible exact H2_) | (have H2_ := (Option.bind_some _ _).symm.trans H; with_reducible exact H2_) | with_reducible exact H | (rw [hy247]; exact H) | exact H
    have Ny247 := Aside0.mk hy247
    clear hy247
    obtain ⟨ji7, hji7⟩ : ∃ j_ : Int, (mn (l1.length : Int) 20) = j_ := ⟨_, rfl⟩
    replace H : (if 0 ≤ (ji7) then (if (ji7) ≤ (l1.length : Int) then ((bits_Bytes.f k y247).bind fun bt251 => (shuttlelaw01_BitsLists.l0 k y247 (l1.take ((ji7) : Int).toNat) (strOfNums y247) bt251.1 bt251.2 0 0)) else (none)) else (none)) = some r := by first | (rw [hji7] at H; exact H) | (simp only [hji7] at H ⊢; exact H)
    (try (have hji7h : ji7 ≤ 20 := by (rw [← hji7]; unfold mn; (repeat' split) <;> omega)))
    (try (have hji7g : ji7 ≤ 64 := by omega))
    (try (have hji7l : 0 ≤ ji7 := by (rw [← hji7]; unfold mn; (repeat' split) <;> omega)))
    (try (have hji7m : 0 ≤ ji7 := by omega))
    have hji7_ : (if 20 < (l1.length : Int) then 20 else (l1.length : Int)) = ji7 := hji7
    by_cases c8 : 0 ≤ (ji7)
    ·rw [if_pos c8] at H
     have c8b0 := eq_true c8
     have c8b1 : decide (0 ≤ (ji7)) = true := decide_eq_true c8
     clear c8
     by_cases c9 : (ji7) ≤ (l1.length : Int)
     ·rw [if_pos c9] at H
      have c9b0 := eq_true c9
      have c9b1 : decide ((ji7) ≤ (l1.length : Int)) = true := decide_eq_true c9
      clear c9
      replace H := Option.bind_eq_some_iff.mp H
      obtain ⟨⟨t251, t252⟩, A100, H⟩ := H
      replace H : (shuttlelaw01_BitsLists.l0 k y247 (l1.take ((ji7) : Int).toNat) (strOfNums y247) t251 t252 0 0) = some r := H
      have A10 := Aside0.mk A100
      clear A100
      have H' := Aside0.mk H
      clear H
      go_enter Try.func9, Try.ntmps9
      go_wp2_with (first | ((with_reducible refine gate_dst (N := 13) rfl ?_); (try (refine gate_guard (by rfl) ?_; dsimp only)); refine Kd.R_lit (Kd.int .u8) _ 5 ?hg (N := 13) ?hd (xs := ([] : List Int)) (inner := []) (ok := fun _ => True) (okp := fun _ => True) ?hr ?hp (fun _ hk => hk) trivial (Below.refl _ _) (Nat.le_refl _) (by simp) ?_; (case hd => rfl); (case hg => rfl); (case hr => first | (go_simp; done) | (go_simp; rfl)); (case hp => exact (Reps.none _ _)); intro v244 w11 ho12 hb hg_ hnew_; clear hg_ hnew_; (first | rw [← Ny243.out] at ho12 | (simp only [Int.reduceToNat] at ho12; rw [← Ny243.out] at ho12)); have n0_ := Aside0.mk (Kd.R_lower ho12 (below_size (by repeat (first | (with_reducible first | exact HB.out | apply below_alloc | apply pw_below_drewN | apply below_drew1) | exact HB.out)))); have n1_ := Aside0.mk (below_step (by repeat (first | (with_reducible first | exact HB.out | apply below_alloc | apply pw_below_drewN | apply below_drew1) | exact HB.out)) hb); clear HB; have HO245 := n0_; have HB := n1_; clear n0_ n1_; clear hb ho12; obtain ⟨i013, hi013, _, hsz13, _⟩ := info_parts info5; obtain ⟨hcut13, hA13, hC13⟩ := print_take_of (P := Try.prog) (Value.int .u8) 0 29 5 .i64 Try.underlying29 hi013 hsz13 A0 c0 l0 (ji3) (of_decide_eq_true (by first | (with_reducible assumption) | assumption)) (of_decide_eq_true (by first | (with_reducible assumption) | assumption)) HC0.out; have HR246 := Aside0.mk (Kd.C_of_reads (h1 := fun _ => rfl) (hA13 _ (Kd.reads_of_C HR0.out))); have HC246 := Aside0.mk hC13; have HL246 := Aside0.mk (show (l0.take ((ji3) : Int).toNat).length = ((ji3) : Int).toNat from (by rw [List.length_take]; have h_ : ((ji3) : Int) ≤ (l0.length : Int) := of_decide_eq_true (by first | (with_reducible assumption) | assumption); omega)); clear hA13 hC13 hi013 hsz13) | ((with_reducible refine gate_builtin (b := .append) (xs := #[.tmp 13, .tmp 18]) rfl ?_); (try (refine gate_guard (by rfl) ?_; dsimp only)); at_builtin; refine Kd.R_append_rows (Kd.int .u8) (w0 := w) w.heap.size rfl (.tmp 13) (.tmp 18) 29 5 (.int .u8 0) 1 rfl Try.underlying29 info5 rfl (by decide) (by omega) v244 y243 (l0.take ((ji3) : Int).toNat) _ _ _ (fun _ => True) (fun _ => False) rfl rfl ?aO ?aR (fun _ _ h => h) (fun _ h => h.elim) ?aF ?aB ?aS ?aL ?_; (case aR => first | (refine reads_len (show (l0.take ((ji3) : Int).toNat).length = (ji3).toNat from (by rw [List.length_take]; have h_ : ((ji3) : Int) ≤ (l0.length : Int) := of_decide_eq_true (by first | (with_reducible assumption) | assumption); omega)) ?_; repeat (first | exact (Kd.C_below HR246.out HB.out) | (with_reducible refine Kd.C_alloc ?_ _) | (with_reducible refine Kd.C_drewN ?_ _) | (with_reducible refine Kd.C_drew ?_))) | (repeat (first | exact (Kd.C_below HR246.out HB.out) | (with_reducible refine Kd.C_alloc ?_ _) | (with_reducible refine Kd.C_drewN ?_ _) | (with_reducible refine Kd.C_drew ?_)))); (case aB => exact (by repeat (first | (with_reducible first | exact HB.out | apply below_alloc | apply pw_below_drewN | apply below_drew1) | exact HB.out))); (case aF => exact (fun _ _ => trivial)); (case aO => exact (by (with_reducible repeat (first | apply Kd.R_alloc | apply Kd.R_drewN | apply Kd.R_drew)); exact HO245.out)); (case aS => exact (below_size (by repeat (first | (with_reducible first | exact HB.out | apply below_alloc | apply pw_below_drewN | apply below_drew1) | exact HB.out)))); (case aL => have := LMc6.out; have hlx_ := (show (l0.take ((ji3) : Int).toNat).length = (ji3).toNat from (by rw [List.length_take]; have h_ : ((ji3) : Int) ≤ (l0.length : Int) := of_decide_eq_true (by first | (with_reducible assumption) | assumption); omega)); omega); intro v248 w14 ho hb hg hat; rw [← Ny247.out] at ho; have n0_ := Aside0.mk (hb); have n1_ := Aside0.mk (ho); clear HB; clear HO245; have HB := n0_; have HO249 := n1_; clear n0_ n1_; clear ho hb hg hat; obtain ⟨i015, hi015, _, hsz15, _⟩ := info_parts info3; obtain ⟨hcut15, hA15, hC15⟩ := print_take_of (P := Try.prog) (Value.int .i64) 0 27 3 .i64 Try.underlying27 hi015 hsz15 A1 c1 l1 (ji7) (of_decide_eq_true (by first | (with_reducible assumption) | assumption)) (of_decide_eq_true (by first | (with_reducible assumption) | assumption)) HC1.out; have HR250 := Aside0.mk (Kd.C_of_reads (h1 := fun _ => rfl) (hA15 _ (Kd.reads_of_C HR1.out))); have HC250 := Aside0.mk hC15; have HL250 := Aside0.mk (show (l1.take ((ji7) : Int).toNat).length = ((ji7) : Int).toNat from (by rw [List.length_take]; have h_ : ((ji7) : Int) ≤ (l1.length : Int) := of_decide_eq_true (by first | (with_reducible assumption) | assumption); omega)); clear hA15 hC15 hi015 hsz15; have hcv16 := own_string (P := Try.prog) Try.underlying29 Try.underlying5 Try.underlying9 (Kd.own_of_R HO249.out); obtain ⟨Ao17, co17, eo17⟩ := Kd.R_slice HO249.out; subst eo17) | ((with_reducible refine gate_callee (f := 28) rfl ?_); refine goesL_ (some 29) rfl rfl Try.func28 (by kernel_rfl) rfl #[.slice Ao17 y247.length co17] rfl (by (try simp only [List.map_toArray, List.map_cons, List.map_nil]); first | done | rfl | (simp only [List.length_drop, List.length_take]; rfl)) ?_; (with_reducible refine (bits_Bytes.calls k _ _ y247 t251 t252 _ ?side1 ?side2 A10.out).mono ?_); (case side1 => repeat (first | exact (Kd.R_reads' HO249.out).2.2 | (with_reducible refine Kd.C_alloc ?_ _) | (with_reducible refine Kd.C_drewN ?_ _) | (with_reducible refine Kd.C_drew ?_))); (case side2 => exact (Kd.R_reads' HO249.out).2.1); rintro e w18 ⟨v253, rfl, ho0, hb⟩; refine ⟨_, rfl, ?_⟩; have n0_ := Aside0.mk (Kd.R_elder' (by (with_reducible repeat (first | apply Kd.R_alloc | apply Kd.R_drewN | apply Kd.R_drew)); exact HO249.out) (Kd.R_base ho0) hb); have n1_ := Aside0.mk (Kd.R_lower (Kd.R_new' ho0 (Kd.R_lt (by (with_reducible repeat (first | apply Kd.R_alloc | apply Kd.R_drewN | apply Kd.R_drew)); exact HO249.out))) (below_size (by repeat (first | (with_reducible first | exact HB.out | apply below_alloc | apply pw_below_drewN | apply below_drew1) | exact HB.out)))); have n2_ := Aside0.mk (below_step (by repeat (first | (with_reducible first | exact HB.out | apply below_alloc | apply pw_below_drewN | apply below_drew1) | exact HB.out)) hb); clear HO249; clear HB; have HO249 := n0_; have HO254 := n1_; have HB := n2_; clear n0_ n1_ n2_; (try clear hb); (try clear hb2); (try clear hk); (try clear hi); (try clear ho0)))
      go_loopg [8, 9] k (fun kq v8 v9 w' => ∃ (x8_1 : Int) (x9_1 : Int), v8 = .int .i64 x8_1 ∧ v9 = .int .i64 x9_1 ∧ Aside0 (shuttlelaw01_BitsLists.l0 kq y247 (l1.take ((ji7) : Int).toNat) (strOfNums y247) t251 t252 x8_1 x9_1 = some r) ∧ Aside0 (kq ≤ k) ∧ Aside0 (Kd.R (Kd.int .u8) 5 w' w.heap.size (fun k_ => some k_ ≠ (v253 : Value).ownBlock) (.slice Ao17 y247.length co17) y247) ∧ Aside0 (Kd.R (Kd.int .u8) 5 w' w.heap.size (fun k_ => some k_ ≠ ((.slice Ao17 y247.length co17) : Value).ownBlock) v253 t251) ∧ Aside0 (Below w.heap.size w w'))
      case atStart => exact ⟨(0), (0), (by first | rfl | (simp; done) | (simp [*]; done)), (by first | rfl | (simp; done) | (simp [*]; done)), H', ⟨Nat.le_refl _⟩, ⟨by (with_reducible repeat (first | apply Kd.R_alloc | apply Kd.R_drewN | apply Kd.R_drew)); exact Kd.R_mono HO249.out (fun _ hk => hk.2)⟩, ⟨by (with_reducible repeat (first | apply Kd.R_alloc | apply Kd.R_drewN | apply Kd.R_drew)); exact Kd.R_mono HO254.out (fun _ hk => hk.2)⟩, ⟨by repeat (first | (with_reducible first | exact HB.out | apply below_alloc | apply pw_below_drewN | apply below_drew1) | exact HB.out)⟩⟩
      case round =>
       clear H'
       try clear c1
       try clear hcv1
       try clear c2
       try clear p2
       try clear c4
       try clear c4b0
       try clear c4b1
       try clear c5
       try clear c5b0
       try clear c5b1
       try clear c6
       try clear c8
       try clear c8b0
       try clear c8b1
       try clear c9
       try clear c9b0
       try clear c9b1
       try clear hcv16
       obtain ⟨x8_1, x9_1, rfl, rfl, HA, HK1, HO_0, HO_6, HB⟩ := hrel
       cases gk with
       | zero => exact absurd HA.out (by simp [shuttlelaw01_BitsLists.l0])
       | succ k1 =>
        have H := HA.out
        clear HA
        simp only [shuttlelaw01_BitsLists.l0] at H
        by_cases c19 : x9_1 < (y247.length : Int)
        ·rw [if_pos c19] at H
         have c19b0 : decide (x9_1 < (y247.length : Int)) = true := decide_eq_true c19
         clear c19
         by_cases c20 : 0 ≤ x9_1
         ·rw [if_pos c20] at H
          have c20b0 : decide (0 ≤ x9_1) = true := decide_eq_true c20
          clear c20
          by_cases c21 : (rd y247 x9_1) = 0
          ·rw [if_pos c21] at H
           have c21b0 : ((rd y247 x9_1) == 0) = true := beq_iff_eq.mpr c21
           have c21b1 : ((rd y247 x9_1) != 0) = false := bne_eq_false_iff_eq.mpr c21
           clear c21
           have H' := Aside0.mk H
           clear H
           have p255 : 0 ≤ (x9_1 : Int) := of_decide_eq_true (by first | (with_reducible assumption) | assumption)
           have q255 : x9_1 < (y247.length : Int) := of_decide_eq_true (by first | (with_reducible assumption) | assumption)
           obtain ⟨ad255, e255, hx255_0⟩ := Kd.at_int (Kd.R_reads' HO_0.out).2.2 x9_1 p255 q255
           cases e255
           replace p255 := eq_true p255
           replace q255 := eq_true q255
           go_wp2
           go_roundg k1
           case measure => have := HK1.out; omega
           case rel => exact ⟨(x8_1), (wrap64 (x9_1 + 1)), (by first | rfl | (simp; done) | (simp [*]; done)), (by first | rfl | (simp; done) | (simp [*]; done)), H', ⟨by have := HK1.out; omega⟩, ⟨by (with_reducible repeat (first | apply Kd.R_alloc | apply Kd.R_drewN | apply Kd.R_drew)); exact HO_0.out⟩, ⟨by (with_reducible repeat (first | apply Kd.R_alloc | apply Kd.R_drewN | apply Kd.R_drew)); exact HO_6.out⟩, ⟨by repeat (first | (with_reducible first | exact HB.out | apply below_alloc | apply pw_below_drewN | apply below_drew1) | exact HB.out)⟩⟩
          ·rw [if_neg c21] at H
           have c21b0 : ((rd y247 x9_1) == 0) = false := beq_eq_false_iff_ne.mpr c21
           have c21b1 : ((rd y247 x9_1) != 0) = true := bne_iff_ne.mpr c21
           have H' := Aside0.mk H
           clear H
           have p255 : 0 ≤ (x9_1 : Int) := of_decide_eq_true (by first | (with_reducible assumption) | assumption)
           have q255 : x9_1 < (y247.length : Int) := of_decide_eq_true (by first | (with_reducible assumption) | assumption)
           obtain ⟨ad255, e255, hx255_0⟩ := Kd.at_int (Kd.R_reads' HO_0.out).2.2 x9_1 p255 q255
           cases e255
           replace p255 := eq_true p255
           replace q255 := eq_true q255
           go_wp2
           go_roundg k1
           case measure => have := HK1.out; omega
           case rel => exact ⟨(wrap64 (x8_1 + 1)), (wrap64 (x9_1 + 1)), (by first | rfl | (simp; done) | (simp [*]; done)), (by first | rfl | (simp; done) | (simp [*]; done)), H', ⟨by have := HK1.out; omega⟩, ⟨by (with_reducible repeat (first | apply Kd.R_alloc | apply Kd.R_drewN | apply Kd.R_drew)); exact HO_0.out⟩, ⟨by (with_reducible repeat (first | apply Kd.R_alloc | apply Kd.R_drewN | apply Kd.R_drew)); exact HO_6.out⟩, ⟨by repeat (first | (with_reducible first | exact HB.out | apply below_alloc | apply pw_below_drewN | apply below_drew1) | exact HB.out)⟩⟩
         ·rw [if_neg c20] at H
          exact absurd H (by simp)
        ·rw [if_neg c19] at H
         have c19b0 : decide (x9_1 < (y247.length : Int)) = false := decide_eq_false c19
         clear c19
         replace H := Option.bind_eq_some_iff.mp H
         obtain ⟨t256, A220, H⟩ := H
         replace H : ((shuttlelaw01_tells.f k1).bind fun t259 => (if t259 = true then ((bits_Right.f k1 y247).bind fun t260 => ((shuttleref01_Right.f k1 y247).bind fun t261 => (if (t260 != t261) = true then (shuttlelaw01_BitsLists.j1 k1 y247 t251 t252 t256 true) else ((bits_Weight.f k1 y247).bind fun t262 => (if t262 = x8_1 then ((shuttleref01_Turn.f k1 y247 (l1.take ((ji7) : Int).toNat)).bind fun t263 => (if (strOfNums t256).toList = (strOfNums t263).toList then (shuttlelaw01_BitsLists.j1 k1 y247 t251 t252 t256 ((strOfNums y247).toList != (strOfNums y247).toList)) else (shuttlelaw01_BitsLists.j1 k1 y247 t251 t252 t256 true))) else (shuttlelaw01_BitsLists.j1 k1 y247 t251 t252 t256 true)))))) else (shuttlelaw01_BitsLists.j1 k1 y247 t251 t252 t256 true))) = some r := H
         have A22 := Aside0.mk A220
         clear A220
         have HC23 := Aside0.mk H
         clear H
         go_upto_region 12 with (first | ((with_reducible refine gate_callee (f := 32) rfl ?_); refine goesL_ (some 47) rfl rfl Try.func32 (by kernel_rfl) rfl #[.slice Ao17 y247.length co17, .slice A1 (l1.take ((ji7) : Int).toNat).length c1] rfl (by (try simp only [List.map_toArray, List.map_cons, List.map_nil]); first | done | (rw [HL250.out] <;> rfl) | (rw [show (l1.take ((ji7) : Int).toNat).length = (ji7).toNat from (by rw [List.length_take]; have h_ : ((ji7) : Int) ≤ (l1.length : Int) := of_decide_eq_true (by first | (with_reducible assumption) | assumption); omega)] <;> rfl) | (simp only [hji7]; rfl) | rfl | (simp only [List.length_drop, List.length_take]; rfl)) ?_; (with_reducible refine (bits_Turn.calls k1 _ _ y247 _ _ (l1.take ((ji7) : Int).toNat) t256 _ ?side1 ?side2 ?side3 ?side4 A22.out).mono ?_); (case side1 => repeat (first | exact (Kd.R_reads' HO_0.out).2.2 | (with_reducible refine Kd.C_alloc ?_ _) | (with_reducible refine Kd.C_drewN ?_ _) | (with_reducible refine Kd.C_drew ?_))); (case side2 => exact (Kd.R_reads' HO_0.out).2.1); (case side3 => repeat (first | exact (Kd.C_below HR250.out HB.out) | (with_reducible refine Kd.C_alloc ?_ _) | (with_reducible refine Kd.C_drewN ?_ _) | (with_reducible refine Kd.C_drew ?_))); (case side4 => exact HC250.out); rintro e w24 ⟨v257, rfl, ho0, hb⟩; refine ⟨_, rfl, ?_⟩; have n0_ := Aside0.mk (Kd.R_elder' (by (with_reducible repeat (first | apply Kd.R_alloc | apply Kd.R_drewN | apply Kd.R_drew)); exact HO_0.out) (Kd.R_base ho0) hb); have n1_ := Aside0.mk (Kd.R_elder' (by (with_reducible repeat (first | apply Kd.R_alloc | apply Kd.R_drewN | apply Kd.R_drew)); exact HO_6.out) (Kd.R_base ho0) hb); have n2_ := Aside0.mk (Kd.R_lower (Kd.R_new' (Kd.R_new' ho0 (Kd.R_lt (by (with_reducible repeat (first | apply Kd.R_alloc | apply Kd.R_drewN | apply Kd.R_drew)); exact HO_0.out))) (Kd.R_lt (by (with_reducible repeat (first | apply Kd.R_alloc | apply Kd.R_drewN | apply Kd.R_drew)); exact HO_6.out))) (below_size (by repeat (first | (with_reducible first | exact HB.out | apply below_alloc | apply pw_below_drewN | apply below_drew1) | exact HB.out)))); have n3_ := Aside0.mk (below_step (by repeat (first | (with_reducible first | exact HB.out | apply below_alloc | apply pw_below_drewN | apply below_drew1) | exact HB.out)) hb); clear HO_0; clear HO_6; clear HB; have HO_0 := n0_; have HO_6 := n1_; have HO258 := n2_; have HB := n3_; clear n0_ n1_ n2_ n3_; (try clear hb); (try clear hb2); (try clear hk); (try clear hi); (try clear ho0)))
         (try simp only [Act.put, sq_a1, sq_a2, sq_a3])
         go_cut [77] (fun v77 wc => ∃ (kq : Nat) (x77_22 : Bool), v77 = .bool x77_22 ∧ Aside0 (shuttlelaw01_BitsLists.j1 kq y247 t251 t252 t256 x77_22 = some r) ∧ Aside0 (kq ≤ k1) ∧ Aside0 (Kd.R (Kd.int .u8) 5 wc w.heap.size (fun k_ => some k_ ≠ (v253 : Value).ownBlock ∧ some k_ ≠ (v257 : Value).ownBlock) (.slice Ao17 y247.length co17) y247) ∧ Aside0 (Kd.R (Kd.int .u8) 5 wc w.heap.size (fun k_ => some k_ ≠ ((.slice Ao17 y247.length co17) : Value).ownBlock ∧ some k_ ≠ (v257 : Value).ownBlock) v253 t251) ∧ Aside0 (Kd.R (Kd.int .u8) 5 wc w.heap.size (fun k_ => some k_ ≠ ((.slice Ao17 y247.length co17) : Value).ownBlock ∧ some k_ ≠ (v253 : Value).ownBlock) v257 t256) ∧ Aside0 (Below w.heap.size w wc))
         case first =>
          have H := HC23.out
          clear HC23
          replace H := Option.bind_eq_some_iff.mp H
          obtain ⟨t259, A250, H⟩ := H
          replace H : (if t259 = true then ((bits_Right.f k1 y247).bind fun t260 => ((shuttleref01_Right.f k1 y247).bind fun t261 => (if (t260 != t261) = true then (shuttlelaw01_BitsLists.j1 k1 y247 t251 t252 t256 true) else ((bits_Weight.f k1 y247).bind fun t262 => (if t262 = x8_1 then ((shuttleref01_Turn.f k1 y247 (l1.take ((ji7) : Int).toNat)).bind fun t263 => (if (strOfNums t256).toList = (strOfNums t263).toList then (shuttlelaw01_BitsLists.j1 k1 y247 t251 t252 t256 ((strOfNums y247).toList != (strOfNums y247).toList)) else (shuttlelaw01_BitsLists.j1 k1 y247 t251 t252 t256 true))) else (shuttlelaw01_BitsLists.j1 k1 y247 t251 t252 t256 true)))))) else (shuttlelaw01_BitsLists.j1 k1 y247 t251 t252 t256 true)) = some r := H
          have A25 := Aside0.mk A250
          clear A250
          by_cases c26 : t259 = true
          ·subst c26
           have H1 : ((bits_Right.f k1 y247).bind fun t260 => ((shuttleref01_Right.f k1 y247).bind fun t261 => (if (t260 != t261) = true then (shuttlelaw01_BitsLists.j1 k1 y247 t251 t252 t256 true) else ((bits_Weight.f k1 y247).bind fun t262 => (if t262 = x8_1 then ((shuttleref01_Turn.f k1 y247 (l1.take ((ji7) : Int).toNat)).bind fun t263 => (if (strOfNums t256).toList = (strOfNums t263).toList then (shuttlelaw01_BitsLists.j1 k1 y247 t251 t252 t256 ((strOfNums y247).toList != (strOfNums y247).toList)) else (shuttlelaw01_BitsLists.j1 k1 y247 t251 t252 t256 true))) else (shuttlelaw01_BitsLists.j1 k1 y247 t251 t252 t256 true)))))) = some r := by rw [if_pos rfl] at H; exact H
           clear H
           have H := H1
           clear H1
           replace H := Option.bind_eq_some_iff.mp H
           obtain ⟨t260, A270, H⟩ := H
           replace H : ((shuttleref01_Right.f k1 y247).bind fun t261 => (if (t260 != t261) = true then (shuttlelaw01_BitsLists.j1 k1 y247 t251 t252 t256 true) else ((bits_Weight.f k1 y247).bind fun t262 => (if t262 = x8_1 then ((shuttleref01_Turn.f k1 y247 (l1.take ((ji7) : Int).toNat)).bind fun t263 => (if (strOfNums t256).toList = (strOfNums t263).toList then (shuttlelaw01_BitsLists.j1 k1 y247 t251 t252 t256 ((strOfNums y247).toList != (strOfNums y247).toList)) else (shuttlelaw01_BitsLists.j1 k1 y247 t251 t252 t256 true))) else (shuttlelaw01_BitsLists.j1 k1 y247 t251 t252 t256 true))))) = some r := H
           have A27 := Aside0.mk A270
           clear A270
           replace H := Option.bind_eq_some_iff.mp H
           obtain ⟨t261, A280, H⟩ := H
           replace H : (if (t260 != t261) = true then (shuttlelaw01_BitsLists.j1 k1 y247 t251 t252 t256 true) else ((bits_Weight.f k1 y247).bind fun t262 => (if t262 = x8_1 then ((shuttleref01_Turn.f k1 y247 (l1.take ((ji7) : Int).toNat)).bind fun t263 => (if (strOfNums t256).toList = (strOfNums t263).toList then (shuttlelaw01_BitsLists.j1 k1 y247 t251 t252 t256 ((strOfNums y247).toList != (strOfNums y247).toList)) else (shuttlelaw01_BitsLists.j1 k1 y247 t251 t252 t256 true))) else (shuttlelaw01_BitsLists.j1 k1 y247 t251 t252 t256 true)))) = some r := H
           have A28 := Aside0.mk A280
           clear A280
           by_cases c29 : (t260 != t261) = true
           ·rw [if_pos c29] at H
            have c29b0 : (t260 != t261) = true := c29
            (try (have c29b1 : decide (t260 = t261) = false := by simpa using c29))
            (try (have c29b2 : (t260 == t261) = false := by simpa using c29))
            (try (have c29b3 : ¬ (t260 = t261) := by simpa using c29))
            clear c29
            (first | rw [c29b0] | (simp only [i64_w, i32_w]; rw [c29b0]) | skip)
            have H' := Aside0.mk H
            clear H
            try go_wp2
            have n0_ := Aside0.mk (Kd.R_drew HO_0.out)
            have n1_ := Aside0.mk (Kd.R_drew HO_6.out)
            have n2_ := Aside0.mk (Kd.R_drew HO258.out)
            have n3_ := Aside0.mk (below_drew1 HB.out)
            clear HO_0
            clear HO_6
            clear HO258
            clear HB
            have HO_0 := n0_
            have HO_6 := n1_
            have HO258 := n2_
            have HB := n3_
            clear n0_ n1_ n2_ n3_
            refine start_ (n := 30) (S := fun w' => True) (ds := []) #[tN,tN,tN,tN,tN,tN,tN,tN,tN,tN,tN,tN,tN,tN,tN,tN,tN,tN,tN,tN,tN,tN,tN,tN,tN,tN,tN,tN,tN,tN] (by kernel_rfl) rfl rfl trivial (fun hHeld => ?_); refine with_tabW shuttlelaw01_BitsLists.tab12 shuttlelaw01_BitsLists.bits12 (fun HT_ HW_ => ?_)
            generalize w24.drew = w30 at HO_0 HO_6 HO258 HB hHeld ⊢
            refine one_ (i := 0) (N := some 48) #[tY,tN,tN,tN,tN,tN,tN,tN,tN,tN,tN,tN,tN,tN,tN,tN,tN,tN,tN,tN,tN,tN,tN,tN,tN,tN,tN,tN,tN,tN] rfl rfl (one_of HT_.out (by kernel_rfl)) (by decide) (fun K hK => ?_)
            refine goes_ Try.func29 (by kernel_rfl) rfl #[] (by rfl) rfl rfl (by (try simp only [List.map_toArray, List.map_cons, List.map_nil]); first | done | rfl | (simp only [List.length_drop, List.length_take]; rfl)) ?_
            with_reducible refine (shuttlelaw01_tells.calls k1  true _ A25.out).mono ?_
            rintro e w31 ⟨rfl, hb⟩
            refine ⟨_, rfl, ?_⟩
            have n0_ := Aside0.mk (Kd.R_below (by (with_reducible repeat (first | apply Kd.R_alloc | apply Kd.R_drewN | apply Kd.R_drew)); exact HO_0.out) hb)
            have n1_ := Aside0.mk (Kd.R_below (by (with_reducible repeat (first | apply Kd.R_alloc | apply Kd.R_drewN | apply Kd.R_drew)); exact HO_6.out) hb)
            have n2_ := Aside0.mk (Kd.R_below (by (with_reducible repeat (first | apply Kd.R_alloc | apply Kd.R_drewN | apply Kd.R_drew)); exact HO258.out) hb)
            have n3_ := Aside0.mk (below_step (by repeat (first | (with_reducible first | exact HB.out | apply below_alloc | apply pw_below_drewN | apply below_drew1) | exact HB.out)) hb)
            clear HO_0
            clear HO_6
            clear HO258
            clear HB
            have HO_0 := n0_
            have HO_6 := n1_
            have HO258 := n2_
            have HB := n3_
            clear n0_ n1_ n2_ n3_
            (try clear hb)
            (try clear hb2)
            (try clear hk)
            (try clear hi)
            refine hK.out _ _ trivial (fun hHeld => ?_)
            clear hK K
            refine norm_ (a' := ?_) ?_ ?_
            rotate_left
            ·show Act.put _ (some 48) _ = _
             simp only [Act.put, sq_a1, sq_a2, sq_a3, i64_w, i32_w]
             rfl
            refine pure_ (i := 1) (N := some 49) (v := ?_) (a' := ?_) #[tY,tY,tN,tN,tN,tN,tN,tN,tN,tN,tN,tN,tN,tN,tN,tN,tN,tN,tN,tN,tN,tN,tN,tN,tN,tN,tN,tN,tN,tN] rfl rfl (any_of HT_.out (by kernel_rfl)) (fun _ _ _ h => h) (Or.inl ⟨by rfl, ?_⟩) ?_ ?_
            rotate_left
            ·intro w'
             go_simp
             with_reducible rfl
            rotate_left
            ·simp only [Act.put, sq_a1, sq_a2, sq_a3, i64_w, i32_w]
             rfl
            refine pure_ (i := 2) (N := some 50) (v := ?_) (a' := ?_) #[tY,tY,tY,tN,tN,tN,tN,tN,tN,tN,tN,tN,tN,tN,tN,tN,tN,tN,tN,tN,tN,tN,tN,tN,tN,tN,tN,tN,tN,tN] rfl rfl (any_of HT_.out (by kernel_rfl)) (fun _ _ _ h => h) (Or.inl ⟨by rfl, ?_⟩) ?_ ?_
            rotate_left
            ·intro w'
             go_simp
             with_reducible rfl
            rotate_left
            ·simp only [Act.put, sq_a1, sq_a2, sq_a3, i64_w, i32_w]
             rfl
            refine pure_ (i := 3) (N := some 51) (v := ?_) (a' := ?_) #[tY,tY,tY,tY,tN,tN,tN,tN,tN,tN,tN,tN,tN,tN,tN,tN,tN,tN,tN,tN,tN,tN,tN,tN,tN,tN,tN,tN,tN,tN] rfl rfl (any_of HT_.out (by kernel_rfl)) (fun _ _ _ h => h) (Or.inl ⟨by rfl, ?_⟩) ?_ ?_
            rotate_left
            ·intro w'
             go_simp
             with_reducible rfl
            rotate_left
            ·simp only [Act.put, sq_a1, sq_a2, sq_a3, i64_w, i32_w]
             rfl
            refine pure_ (i := 5) (N := some 53) (v := ?_) (a' := ?_) #[tY,tY,tY,tY,tN,tY,tN,tN,tN,tN,tN,tN,tN,tN,tN,tN,tN,tN,tN,tN,tN,tN,tN,tN,tN,tN,tN,tN,tN,tN] rfl rfl (any_of HT_.out (by kernel_rfl)) (fun _ _ _ h => h) (Or.inl ⟨by rfl, ?_⟩) ?_ ?_
            rotate_left
            ·intro w'
             go_simp
             with_reducible rfl
            rotate_left
            ·simp only [Act.put, sq_a1, sq_a2, sq_a3, i64_w, i32_w]
             rfl
            refine one_ (i := 4) (N := some 52) #[tY,tY,tY,tY,tY,tY,tN,tN,tN,tN,tN,tN,tN,tN,tN,tN,tN,tN,tN,tN,tN,tN,tN,tN,tN,tN,tN,tN,tN,tN] rfl rfl (one_of HT_.out (by kernel_rfl)) (by decide) (fun K hK => ?_)
            refine goes_ Try.func33 (by kernel_rfl) rfl #[.slice Ao17 y247.length co17] (by rfl) rfl rfl (by (try simp only [List.map_toArray, List.map_cons, List.map_nil]); first | done | rfl | (simp only [List.length_drop, List.length_take]; rfl)) ?_
            with_reducible refine (bits_Right.calls k1 _ _ y247 t260 _ ?side1 ?side2 A27.out).mono ?_
            (case side1 => repeat (first | exact (Kd.R_reads' HO_0.out).2.2 | (with_reducible refine Kd.C_alloc ?_ _) | (with_reducible refine Kd.C_drewN ?_ _) | (with_reducible refine Kd.C_drew ?_)))
            (case side2 => exact (Kd.R_reads' HO_0.out).2.1)
            rintro e w' ⟨rfl, ⟨nd, rfl⟩⟩
            refine ⟨_, rfl, ?_⟩
            refine hK.out _ _ trivial (fun hHeld => ?_)
            clear hK K
            refine norm_ (a' := ?_) ?_ ?_
            rotate_left
            ·show Act.put _ (some 52) _ = _
             simp only [Act.put, sq_a1, sq_a2, sq_a3, i64_w, i32_w]
             rfl
            refine one_ (i := 6) (N := some 54) #[tY,tY,tY,tY,tY,tY,tY,tN,tN,tN,tN,tN,tN,tN,tN,tN,tN,tN,tN,tN,tN,tN,tN,tN,tN,tN,tN,tN,tN,tN] rfl rfl (one_of HT_.out (by kernel_rfl)) (by decide) (fun K hK => ?_)
            refine goes_ Try.func20 (by kernel_rfl) rfl #[.slice Ao17 y247.length co17] (by rfl) rfl rfl (by (try simp only [List.map_toArray, List.map_cons, List.map_nil]); first | done | rfl | (simp only [List.length_drop, List.length_take]; rfl)) ?_
            with_reducible refine (shuttleref01_Right.calls k1 _ _ y247 t261 _ ?side1 ?side2 A28.out).mono ?_
            (case side1 => repeat (first | exact (Kd.R_reads' HO_0.out).2.2 | (with_reducible refine Kd.C_alloc ?_ _) | (with_reducible refine Kd.C_drewN ?_ _) | (with_reducible refine Kd.C_drew ?_)))
            (case side2 => exact (Kd.R_reads' HO_0.out).2.1)
            rintro e w' ⟨rfl, ⟨nd, rfl⟩⟩
            refine ⟨_, rfl, ?_⟩
            refine hK.out _ _ trivial (fun hHeld => ?_)
            clear hK K
            refine norm_ (a' := ?_) ?_ ?_
            rotate_left
            ·show Act.put _ (some 54) _ = _
             simp only [Act.put, sq_a1, sq_a2, sq_a3, i64_w, i32_w]
             rfl
            refine pure_ (i := 7) (N := some 55) (v := ?_) (a' := ?_) #[tY,tY,tY,tY,tY,tY,tY,tY,tN,tN,tN,tN,tN,tN,tN,tN,tN,tN,tN,tN,tN,tN,tN,tN,tN,tN,tN,tN,tN,tN] rfl rfl (any_of HT_.out (by kernel_rfl)) (fun _ _ _ h => h) (Or.inl ⟨by rfl, ?_⟩) ?_ ?_
            rotate_left
            ·intro w'
             go_simp
             with_reducible rfl
            rotate_left
            ·simp only [Act.put, sq_a1, sq_a2, sq_a3, i64_w, i32_w]
             rfl
            refine pure_ (i := 8) (N := some 56) (v := ?_) (a' := ?_) #[tY,tY,tY,tY,tY,tY,tY,tY,tY,tN,tN,tN,tN,tN,tN,tN,tN,tN,tN,tN,tN,tN,tN,tN,tN,tN,tN,tN,tN,tN] rfl rfl (any_of HT_.out (by kernel_rfl)) (fun _ _ _ h => h) (Or.inl ⟨by rfl, ?_⟩) ?_ ?_
            rotate_left
            ·intro w'
             go_simp
             with_reducible rfl
            rotate_left
            ·simp only [Act.put, sq_a1, sq_a2, sq_a3, i64_w, i32_w]
             rfl
            refine pure_ (i := 9) (N := some 57) (v := ?_) (a' := ?_) #[tY,tY,tY,tY,tY,tY,tY,tY,tY,tY,tN,tN,tN,tN,tN,tN,tN,tN,tN,tN,tN,tN,tN,tN,tN,tN,tN,tN,tN,tN] rfl rfl (any_of HT_.out (by kernel_rfl)) (fun _ _ _ h => h) (Or.inl ⟨by rfl, ?_⟩) ?_ ?_
            rotate_left
            ·intro w'
             go_simp
             with_reducible rfl
            rotate_left
            ·simp only [Act.put, sq_a1, sq_a2, sq_a3, i64_w, i32_w]
             rfl
            refine pure_ (i := 10) (N := some 58) (v := undef) (a' := ?_) #[tY,tY,tY,tY,tY,tY,tY,tY,tY,tY,tY,tN,tN,tN,tN,tN,tN,tN,tN,tN,tN,tN,tN,tN,tN,tN,tN,tN,tN,tN] rfl rfl (any_of HT_.out (by kernel_rfl)) (fun _ _ _ h => h) (Or.inr ⟨by rfl, rfl⟩) ?_ ?_
            rotate_left
            ·simp only [Act.put, sq_a1, sq_a2, sq_a3, i64_w, i32_w]
             rfl
            refine pure_ (i := 11) (N := some 59) (v := undef) (a' := ?_) #[tY,tY,tY,tY,tY,tY,tY,tY,tY,tY,tY,tY,tN,tN,tN,tN,tN,tN,tN,tN,tN,tN,tN,tN,tN,tN,tN,tN,tN,tN] rfl rfl (any_of HT_.out (by kernel_rfl)) (fun _ _ _ h => h) (Or.inr ⟨by rfl, rfl⟩) ?_ ?_
            rotate_left
            ·simp only [Act.put, sq_a1, sq_a2, sq_a3, i64_w, i32_w]
             rfl
            refine pure_ (i := 12) (N := some 60) (v := undef) (a' := ?_) #[tY,tY,tY,tY,tY,tY,tY,tY,tY,tY,tY,tY,tY,tN,tN,tN,tN,tN,tN,tN,tN,tN,tN,tN,tN,tN,tN,tN,tN,tN] rfl rfl (any_of HT_.out (by kernel_rfl)) (fun _ _ _ h => h) (Or.inr ⟨by rfl, rfl⟩) ?_ ?_
            rotate_left
            ·simp only [Act.put, sq_a1, sq_a2, sq_a3, i64_w, i32_w]
             rfl
            refine pure_ (i := 13) (N := some 61) (v := undef) (a' := ?_) #[tY,tY,tY,tY,tY,tY,tY,tY,tY,tY,tY,tY,tY,tY,tN,tN,tN,tN,tN,tN,tN,tN,tN,tN,tN,tN,tN,tN,tN,tN] rfl rfl (any_of HT_.out (by kernel_rfl)) (fun _ _ _ h => h) (Or.inr ⟨by rfl, rfl⟩) ?_ ?_
            rotate_left
            ·simp only [Act.put, sq_a1, sq_a2, sq_a3, i64_w, i32_w]
             rfl
            refine pure_ (i := 14) (N := some 62) (v := ?_) (a' := ?_) #[tY,tY,tY,tY,tY,tY,tY,tY,tY,tY,tY,tY,tY,tY,tY,tN,tN,tN,tN,tN,tN,tN,tN,tN,tN,tN,tN,tN,tN,tN] rfl rfl (any_of HT_.out (by kernel_rfl)) (fun _ _ _ h => h) (Or.inl ⟨by rfl, ?_⟩) ?_ ?_
            rotate_left
            ·intro w'
             go_simp
             with_reducible rfl
            rotate_left
            ·simp only [Act.put, sq_a1, sq_a2, sq_a3, i64_w, i32_w]
             rfl
            refine pure_ (i := 15) (N := some 63) (v := ?_) (a' := ?_) #[tY,tY,tY,tY,tY,tY,tY,tY,tY,tY,tY,tY,tY,tY,tY,tY,tN,tN,tN,tN,tN,tN,tN,tN,tN,tN,tN,tN,tN,tN] rfl rfl (any_of HT_.out (by kernel_rfl)) (fun _ _ _ h => h) (Or.inl ⟨by rfl, ?_⟩) ?_ ?_
            rotate_left
            ·intro w'
             go_simp
             with_reducible rfl
            rotate_left
            ·simp only [Act.put, sq_a1, sq_a2, sq_a3, i64_w, i32_w]
             rfl
            refine pure_ (i := 16) (N := some 64) (v := undef) (a' := ?_) #[tY,tY,tY,tY,tY,tY,tY,tY,tY,tY,tY,tY,tY,tY,tY,tY,tY,tN,tN,tN,tN,tN,tN,tN,tN,tN,tN,tN,tN,tN] rfl rfl (any_of HT_.out (by kernel_rfl)) (fun _ _ _ h => h) (Or.inr ⟨by rfl, rfl⟩) ?_ ?_
            rotate_left
            ·simp only [Act.put, sq_a1, sq_a2, sq_a3, i64_w, i32_w]
             rfl
            refine pure_ (i := 17) (N := some 65) (v := undef) (a' := ?_) #[tY,tY,tY,tY,tY,tY,tY,tY,tY,tY,tY,tY,tY,tY,tY,tY,tY,tY,tN,tN,tN,tN,tN,tN,tN,tN,tN,tN,tN,tN] rfl rfl (any_of HT_.out (by kernel_rfl)) (fun _ _ _ h => h) (Or.inr ⟨by rfl, rfl⟩) ?_ ?_
            rotate_left
            ·simp only [Act.put, sq_a1, sq_a2, sq_a3, i64_w, i32_w]
             rfl
            refine pure_ (i := 18) (N := some 66) (v := undef) (a' := ?_) #[tY,tY,tY,tY,tY,tY,tY,tY,tY,tY,tY,tY,tY,tY,tY,tY,tY,tY,tY,tN,tN,tN,tN,tN,tN,tN,tN,tN,tN,tN] rfl rfl (any_of HT_.out (by kernel_rfl)) (fun _ _ _ h => h) (Or.inr ⟨by rfl, rfl⟩) ?_ ?_
            rotate_left
            ·simp only [Act.put, sq_a1, sq_a2, sq_a3, i64_w, i32_w]
             rfl
            refine pure_ (i := 19) (N := some 67) (v := undef) (a' := ?_) #[tY,tY,tY,tY,tY,tY,tY,tY,tY,tY,tY,tY,tY,tY,tY,tY,tY,tY,tY,tY,tN,tN,tN,tN,tN,tN,tN,tN,tN,tN] rfl rfl (any_of HT_.out (by kernel_rfl)) (fun _ _ _ h => h) (Or.inr ⟨by rfl, rfl⟩) ?_ ?_
            rotate_left
            ·simp only [Act.put, sq_a1, sq_a2, sq_a3, i64_w, i32_w]
             rfl
            refine pure_ (i := 20) (N := some 68) (v := undef) (a' := ?_) #[tY,tY,tY,tY,tY,tY,tY,tY,tY,tY,tY,tY,tY,tY,tY,tY,tY,tY,tY,tY,tY,tN,tN,tN,tN,tN,tN,tN,tN,tN] rfl rfl (any_of HT_.out (by kernel_rfl)) (fun _ _ _ h => h) (Or.inr ⟨by rfl, rfl⟩) ?_ ?_
            rotate_left
            ·simp only [Act.put, sq_a1, sq_a2, sq_a3, i64_w, i32_w]
             rfl
            refine pure_ (i := 21) (N := some 69) (v := undef) (a' := ?_) #[tY,tY,tY,tY,tY,tY,tY,tY,tY,tY,tY,tY,tY,tY,tY,tY,tY,tY,tY,tY,tY,tY,tN,tN,tN,tN,tN,tN,tN,tN] rfl rfl (any_of HT_.out (by kernel_rfl)) (fun _ _ _ h => h) (Or.inr ⟨by rfl, rfl⟩) ?_ ?_
            rotate_left
            ·simp only [Act.put, sq_a1, sq_a2, sq_a3, i64_w, i32_w]
             rfl
            refine pure_ (i := 22) (N := some 70) (v := undef) (a' := ?_) #[tY,tY,tY,tY,tY,tY,tY,tY,tY,tY,tY,tY,tY,tY,tY,tY,tY,tY,tY,tY,tY,tY,tY,tN,tN,tN,tN,tN,tN,tN] rfl rfl (any_of HT_.out (by kernel_rfl)) (fun _ _ _ h => h) (Or.inr ⟨by rfl, rfl⟩) ?_ ?_
            rotate_left
            ·simp only [Act.put, sq_a1, sq_a2, sq_a3, i64_w, i32_w]
             rfl
            refine pure_ (i := 23) (N := some 71) (v := ?_) (a' := ?_) #[tY,tY,tY,tY,tY,tY,tY,tY,tY,tY,tY,tY,tY,tY,tY,tY,tY,tY,tY,tY,tY,tY,tY,tY,tN,tN,tN,tN,tN,tN] rfl rfl (any_of HT_.out (by kernel_rfl)) (fun _ _ _ h => h) (Or.inl ⟨by rfl, ?_⟩) ?_ ?_
            rotate_left
            ·intro w'
             go_simp
             with_reducible rfl
            rotate_left
            ·simp only [Act.put, sq_a1, sq_a2, sq_a3, i64_w, i32_w]
             rfl
            refine pure_ (i := 24) (N := some 72) (v := ?_) (a' := ?_) #[tY,tY,tY,tY,tY,tY,tY,tY,tY,tY,tY,tY,tY,tY,tY,tY,tY,tY,tY,tY,tY,tY,tY,tY,tY,tN,tN,tN,tN,tN] rfl rfl (any_of HT_.out (by kernel_rfl)) (fun _ _ _ h => h) (Or.inl ⟨by rfl, ?_⟩) ?_ ?_
            rotate_left
            ·intro w'
             go_simp
             with_reducible rfl
            rotate_left
            ·simp only [Act.put, sq_a1, sq_a2, sq_a3, i64_w, i32_w]
             rfl
            refine pure_ (i := 25) (N := some 73) (v := undef) (a' := ?_) #[tY,tY,tY,tY,tY,tY,tY,tY,tY,tY,tY,tY,tY,tY,tY,tY,tY,tY,tY,tY,tY,tY,tY,tY,tY,tY,tN,tN,tN,tN] rfl rfl (any_of HT_.out (by kernel_rfl)) (fun _ _ _ h => h) (Or.inr ⟨by rfl, rfl⟩) ?_ ?_
            rotate_left
            ·simp only [Act.put, sq_a1, sq_a2, sq_a3, i64_w, i32_w]
             rfl
            refine pure_ (i := 26) (N := some 74) (v := undef) (a' := ?_) #[tY,tY,tY,tY,tY,tY,tY,tY,tY,tY,tY,tY,tY,tY,tY,tY,tY,tY,tY,tY,tY,tY,tY,tY,tY,tY,tY,tN,tN,tN] rfl rfl (any_of HT_.out (by kernel_rfl)) (fun _ _ _ h => h) (Or.inr ⟨by rfl, rfl⟩) ?_ ?_
            rotate_left
            ·simp only [Act.put, sq_a1, sq_a2, sq_a3, i64_w, i32_w]
             rfl
            refine pure_ (i := 27) (N := some 75) (v := undef) (a' := ?_) #[tY,tY,tY,tY,tY,tY,tY,tY,tY,tY,tY,tY,tY,tY,tY,tY,tY,tY,tY,tY,tY,tY,tY,tY,tY,tY,tY,tY,tN,tN] rfl rfl (any_of HT_.out (by kernel_rfl)) (fun _ _ _ h => h) (Or.inr ⟨by rfl, rfl⟩) ?_ ?_
            rotate_left
            ·simp only [Act.put, sq_a1, sq_a2, sq_a3, i64_w, i32_w]
             rfl
            refine pure_ (i := 28) (N := some 76) (v := undef) (a' := ?_) #[tY,tY,tY,tY,tY,tY,tY,tY,tY,tY,tY,tY,tY,tY,tY,tY,tY,tY,tY,tY,tY,tY,tY,tY,tY,tY,tY,tY,tY,tN] rfl rfl (any_of HT_.out (by kernel_rfl)) (fun _ _ _ h => h) (Or.inr ⟨by rfl, rfl⟩) ?_ ?_
            rotate_left
            ·simp only [Act.put, sq_a1, sq_a2, sq_a3, i64_w, i32_w]
             rfl
            refine pure_ (i := 29) (N := some 77) (v := ?_) (a' := ?_) #[tY,tY,tY,tY,tY,tY,tY,tY,tY,tY,tY,tY,tY,tY,tY,tY,tY,tY,tY,tY,tY,tY,tY,tY,tY,tY,tY,tY,tY,tY] rfl rfl (any_of HT_.out (by kernel_rfl)) (fun _ _ _ h => h) (Or.inl ⟨by rfl, ?_⟩) ?_ ?_
            rotate_left
            ·intro w'
             go_simp
             with_reducible rfl
            rotate_left
            ·simp only [Act.put, sq_a1, sq_a2, sq_a3, i64_w, i32_w]
             rfl
            refine done_ (done_of HT_.out (by kernel_rfl)) ?_
            try go_wp2
            go_meet
            case rel => exact ⟨_, (true), (by first | rfl | (simp; done) | (simp [*]; done)), H', ⟨by have := HK1.out; first | omega | exact Nat.le_refl _⟩, ⟨by (with_reducible repeat (first | apply Kd.R_alloc | apply Kd.R_drewN | apply Kd.R_drew)); exact HO_0.out⟩, ⟨by (with_reducible repeat (first | apply Kd.R_alloc | apply Kd.R_drewN | apply Kd.R_drew)); exact HO_6.out⟩, ⟨by (with_reducible repeat (first | apply Kd.R_alloc | apply Kd.R_drewN | apply Kd.R_drew)); exact Kd.R_mono HO258.out (fun _ hk => by first | exact ⟨hk.1.2, hk.2⟩ | (simp [hk]; done))⟩, ⟨by repeat (first | (with_reducible first | exact HB.out | apply below_alloc | apply pw_below_drewN | apply below_drew1) | exact HB.out)⟩⟩
           ·rw [if_neg c29] at H
            have c29b0 : (t260 != t261) = false := by simpa using c29
            (try (have c29b1 : decide (t260 = t261) = true := by simpa using c29))
            (try (have c29b2 : (t260 == t261) = true := by simpa using c29))
            clear c29
            (first | rw [c29b0] | (simp only [i64_w, i32_w]; rw [c29b0]) | skip)
            replace H := Option.bind_eq_some_iff.mp H
            obtain ⟨t262, A320, H⟩ := H
            replace H : (if t262 = x8_1 then ((shuttleref01_Turn.f k1 y247 (l1.take ((ji7) : Int).toNat)).bind fun t263 => (if (strOfNums t256).toList = (strOfNums t263).toList then (shuttlelaw01_BitsLists.j1 k1 y247 t251 t252 t256 ((strOfNums y247).toList != (strOfNums y247).toList)) else (shuttlelaw01_BitsLists.j1 k1 y247 t251 t252 t256 true))) else (shuttlelaw01_BitsLists.j1 k1 y247 t251 t252 t256 true)) = some r := H
            have A32 := Aside0.mk A320
            clear A320
            by_cases c33 : t262 = x8_1
            ·rw [if_pos c33] at H
             have c33b0 : (t262 == x8_1) = true := beq_iff_eq.mpr c33
             have c33b1 : (t262 != x8_1) = false := bne_eq_false_iff_eq.mpr c33
             clear c33
             replace H := Option.bind_eq_some_iff.mp H
             obtain ⟨t263, A340, H⟩ := H
             replace H : (if (strOfNums t256).toList = (strOfNums t263).toList then (shuttlelaw01_BitsLists.j1 k1 y247 t251 t252 t256 ((strOfNums y247).toList != (strOfNums y247).toList)) else (shuttlelaw01_BitsLists.j1 k1 y247 t251 t252 t256 true)) = some r := H
             have A34 := Aside0.mk A340
             clear A340
             by_cases c35 : (strOfNums t256).toList = (strOfNums t263).toList
             ·rw [if_pos c35] at H
              have c35b0 : ((strOfNums t256).toList == (strOfNums t263).toList) = true := beq_iff_eq.mpr c35
              have c35b1 : ((strOfNums t256).toList != (strOfNums t263).toList) = false := bne_eq_false_iff_eq.mpr c35
              clear c35
              have H' := Aside0.mk H
              clear H
              try go_wp2
              have n0_ := Aside0.mk (Kd.R_drew HO_0.out)
              have n1_ := Aside0.mk (Kd.R_drew HO_6.out)
              have n2_ := Aside0.mk (Kd.R_drew HO258.out)
              have n3_ := Aside0.mk (below_drew1 HB.out)
              clear HO_0
              clear HO_6
              clear HO258
              clear HB
              have HO_0 := n0_
              have HO_6 := n1_
              have HO258 := n2_
              have HB := n3_
              clear n0_ n1_ n2_ n3_
              refine start_ (n := 30) (S := fun w' => True) (ds := []) #[tN,tN,tN,tN,tN,tN,tN,tN,tN,tN,tN,tN,tN,tN,tN,tN,tN,tN,tN,tN,tN,tN,tN,tN,tN,tN,tN,tN,tN,tN] (by kernel_rfl) rfl rfl trivial (fun hHeld => ?_); refine with_tabW shuttlelaw01_BitsLists.tab12 shuttlelaw01_BitsLists.bits12 (fun HT_ HW_ => ?_)
              generalize w24.drew = w36 at HO_0 HO_6 HO258 HB hHeld ⊢
              refine one_ (i := 0) (N := some 48) #[tY,tN,tN,tN,tN,tN,tN,tN,tN,tN,tN,tN,tN,tN,tN,tN,tN,tN,tN,tN,tN,tN,tN,tN,tN,tN,tN,tN,tN,tN] rfl rfl (one_of HT_.out (by kernel_rfl)) (by decide) (fun K hK => ?_)
              refine goes_ Try.func29 (by kernel_rfl) rfl #[] (by rfl) rfl rfl (by (try simp only [List.map_toArray, List.map_cons, List.map_nil]); first | done | rfl | (simp only [List.length_drop, List.length_take]; rfl)) ?_
              with_reducible refine (shuttlelaw01_tells.calls k1  true _ A25.out).mono ?_
              rintro e w37 ⟨rfl, hb⟩
              refine ⟨_, rfl, ?_⟩
              have n0_ := Aside0.mk (Kd.R_below (by (with_reducible repeat (first | apply Kd.R_alloc | apply Kd.R_drewN | apply Kd.R_drew)); exact HO_0.out) hb)
              have n1_ := Aside0.mk (Kd.R_below (by (with_reducible repeat (first | apply Kd.R_alloc | apply Kd.R_drewN | apply Kd.R_drew)); exact HO_6.out) hb)
              have n2_ := Aside0.mk (Kd.R_below (by (with_reducible repeat (first | apply Kd.R_alloc | apply Kd.R_drewN | apply Kd.R_drew)); exact HO258.out) hb)
              have n3_ := Aside0.mk (below_step (by repeat (first | (with_reducible first | exact HB.out | apply below_alloc | apply pw_below_drewN | apply below_drew1) | exact HB.out)) hb)
              clear HO_0
              clear HO_6
              clear HO258
              clear HB
              have HO_0 := n0_
              have HO_6 := n1_
              have HO258 := n2_
              have HB := n3_
              clear n0_ n1_ n2_ n3_
              (try clear hb)
              (try clear hb2)
              (try clear hk)
              (try clear hi)
              refine hK.out _ _ trivial (fun hHeld => ?_)
              clear hK K
              refine norm_ (a' := ?_) ?_ ?_
              rotate_left
              ·show Act.put _ (some 48) _ = _
               simp only [Act.put, sq_a1, sq_a2, sq_a3, i64_w, i32_w]
               rfl
              refine pure_ (i := 1) (N := some 49) (v := ?_) (a' := ?_) #[tY,tY,tN,tN,tN,tN,tN,tN,tN,tN,tN,tN,tN,tN,tN,tN,tN,tN,tN,tN,tN,tN,tN,tN,tN,tN,tN,tN,tN,tN] rfl rfl (any_of HT_.out (by kernel_rfl)) (fun _ _ _ h => h) (Or.inl ⟨by rfl, ?_⟩) ?_ ?_
              rotate_left
              ·intro w'
               go_simp
               with_reducible rfl
              rotate_left
              ·simp only [Act.put, sq_a1, sq_a2, sq_a3, i64_w, i32_w]
               rfl
              refine pure_ (i := 2) (N := some 50) (v := ?_) (a' := ?_) #[tY,tY,tY,tN,tN,tN,tN,tN,tN,tN,tN,tN,tN,tN,tN,tN,tN,tN,tN,tN,tN,tN,tN,tN,tN,tN,tN,tN,tN,tN] rfl rfl (any_of HT_.out (by kernel_rfl)) (fun _ _ _ h => h) (Or.inl ⟨by rfl, ?_⟩) ?_ ?_
              rotate_left
              ·intro w'
               go_simp
               with_reducible rfl
              rotate_left
              ·simp only [Act.put, sq_a1, sq_a2, sq_a3, i64_w, i32_w]
               rfl
              refine pure_ (i := 3) (N := some 51) (v := ?_) (a' := ?_) #[tY,tY,tY,tY,tN,tN,tN,tN,tN,tN,tN,tN,tN,tN,tN,tN,tN,tN,tN,tN,tN,tN,tN,tN,tN,tN,tN,tN,tN,tN] rfl rfl (any_of HT_.out (by kernel_rfl)) (fun _ _ _ h => h) (Or.inl ⟨by rfl, ?_⟩) ?_ ?_
              rotate_left
              ·intro w'
               go_simp
               with_reducible rfl
              rotate_left
              ·simp only [Act.put, sq_a1, sq_a2, sq_a3, i64_w, i32_w]
               rfl
              refine pure_ (i := 5) (N := some 53) (v := ?_) (a' := ?_) #[tY,tY,tY,tY,tN,tY,tN,tN,tN,tN,tN,tN,tN,tN,tN,tN,tN,tN,tN,tN,tN,tN,tN,tN,tN,tN,tN,tN,tN,tN] rfl rfl (any_of HT_.out (by kernel_rfl)) (fun _ _ _ h => h) (Or.inl ⟨by rfl, ?_⟩) ?_ ?_
              rotate_left
              ·intro w'
               go_simp
               with_reducible rfl
              rotate_left
              ·simp only [Act.put, sq_a1, sq_a2, sq_a3, i64_w, i32_w]
               rfl
              refine one_ (i := 4) (N := some 52) #[tY,tY,tY,tY,tY,tY,tN,tN,tN,tN,tN,tN,tN,tN,tN,tN,tN,tN,tN,tN,tN,tN,tN,tN,tN,tN,tN,tN,tN,tN] rfl rfl (one_of HT_.out (by kernel_rfl)) (by decide) (fun K hK => ?_)
              refine goes_ Try.func33 (by kernel_rfl) rfl #[.slice Ao17 y247.length co17] (by rfl) rfl rfl (by (try simp only [List.map_toArray, List.map_cons, List.map_nil]); first | done | rfl | (simp only [List.length_drop, List.length_take]; rfl)) ?_
              with_reducible refine (bits_Right.calls k1 _ _ y247 t260 _ ?side1 ?side2 A27.out).mono ?_
              (case side1 => repeat (first | exact (Kd.R_reads' HO_0.out).2.2 | (with_reducible refine Kd.C_alloc ?_ _) | (with_reducible refine Kd.C_drewN ?_ _) | (with_reducible refine Kd.C_drew ?_)))
              (case side2 => exact (Kd.R_reads' HO_0.out).2.1)
              rintro e w' ⟨rfl, ⟨nd, rfl⟩⟩
              refine ⟨_, rfl, ?_⟩
              refine hK.out _ _ trivial (fun hHeld => ?_)
              clear hK K
              refine norm_ (a' := ?_) ?_ ?_
              rotate_left
              ·show Act.put _ (some 52) _ = _
               simp only [Act.put, sq_a1, sq_a2, sq_a3, i64_w, i32_w]
               rfl
              refine one_ (i := 6) (N := some 54) #[tY,tY,tY,tY,tY,tY,tY,tN,tN,tN,tN,tN,tN,tN,tN,tN,tN,tN,tN,tN,tN,tN,tN,tN,tN,tN,tN,tN,tN,tN] rfl rfl (one_of HT_.out (by kernel_rfl)) (by decide) (fun K hK => ?_)
              refine goes_ Try.func20 (by kernel_rfl) rfl #[.slice Ao17 y247.length co17] (by rfl) rfl rfl (by (try simp only [List.map_toArray, List.map_cons, List.map_nil]); first | done | rfl | (simp only [List.length_drop, List.length_take]; rfl)) ?_
              with_reducible refine (shuttleref01_Right.calls k1 _ _ y247 t261 _ ?side1 ?side2 A28.out).mono ?_
              (case side1 => repeat (first | exact (Kd.R_reads' HO_0.out).2.2 | (with_reducible refine Kd.C_alloc ?_ _) | (with_reducible refine Kd.C_drewN ?_ _) | (with_reducible refine Kd.C_drew ?_)))
              (case side2 => exact (Kd.R_reads' HO_0.out).2.1)
              rintro e w' ⟨rfl, ⟨nd, rfl⟩⟩
              refine ⟨_, rfl, ?_⟩
              refine hK.out _ _ trivial (fun hHeld => ?_)
              clear hK K
              refine norm_ (a' := ?_) ?_ ?_
              rotate_left
              ·show Act.put _ (some 54) _ = _
               simp only [Act.put, sq_a1, sq_a2, sq_a3, i64_w, i32_w]
               rfl
              refine pure_ (i := 7) (N := some 55) (v := ?_) (a' := ?_) #[tY,tY,tY,tY,tY,tY,tY,tY,tN,tN,tN,tN,tN,tN,tN,tN,tN,tN,tN,tN,tN,tN,tN,tN,tN,tN,tN,tN,tN,tN] rfl rfl (any_of HT_.out (by kernel_rfl)) (fun _ _ _ h => h) (Or.inl ⟨by rfl, ?_⟩) ?_ ?_
              rotate_left
              ·intro w'
               go_simp
               with_reducible rfl
              rotate_left
              ·simp only [Act.put, sq_a1, sq_a2, sq_a3, i64_w, i32_w]
               rfl
              refine pure_ (i := 8) (N := some 56) (v := ?_) (a' := ?_) #[tY,tY,tY,tY,tY,tY,tY,tY,tY,tN,tN,tN,tN,tN,tN,tN,tN,tN,tN,tN,tN,tN,tN,tN,tN,tN,tN,tN,tN,tN] rfl rfl (any_of HT_.out (by kernel_rfl)) (fun _ _ _ h => h) (Or.inl ⟨by rfl, ?_⟩) ?_ ?_
              rotate_left
              ·intro w'
               go_simp
               with_reducible rfl
              rotate_left
              ·simp only [Act.put, sq_a1, sq_a2, sq_a3, i64_w, i32_w]
               rfl
              refine pure_ (i := 9) (N := some 57) (v := ?_) (a' := ?_) #[tY,tY,tY,tY,tY,tY,tY,tY,tY,tY,tN,tN,tN,tN,tN,tN,tN,tN,tN,tN,tN,tN,tN,tN,tN,tN,tN,tN,tN,tN] rfl rfl (any_of HT_.out (by kernel_rfl)) (fun _ _ _ h => h) (Or.inl ⟨by rfl, ?_⟩) ?_ ?_
              rotate_left
              ·intro w'
               go_simp
               with_reducible rfl
              rotate_left
              ·simp only [Act.put, sq_a1, sq_a2, sq_a3, i64_w, i32_w]
               rfl
              refine pure_ (i := 10) (N := some 58) (v := ?_) (a' := ?_) #[tY,tY,tY,tY,tY,tY,tY,tY,tY,tY,tY,tN,tN,tN,tN,tN,tN,tN,tN,tN,tN,tN,tN,tN,tN,tN,tN,tN,tN,tN] rfl rfl (any_of HT_.out (by kernel_rfl)) (fun _ _ _ h => h) (Or.inl ⟨by rfl, ?_⟩) ?_ ?_
              rotate_left
              ·intro w'
               go_simp
               with_reducible rfl
              rotate_left
              ·simp only [Act.put, sq_a1, sq_a2, sq_a3, i64_w, i32_w]
               rfl
              refine pure_ (i := 12) (N := some 60) (v := ?_) (a' := ?_) #[tY,tY,tY,tY,tY,tY,tY,tY,tY,tY,tY,tN,tY,tN,tN,tN,tN,tN,tN,tN,tN,tN,tN,tN,tN,tN,tN,tN,tN,tN] rfl rfl (any_of HT_.out (by kernel_rfl)) (fun _ _ _ h => h) (Or.inl ⟨by rfl, ?_⟩) ?_ ?_
              rotate_left
              ·intro w'
               go_simp
               with_reducible rfl
              rotate_left
              ·simp only [Act.put, sq_a1, sq_a2, sq_a3, i64_w, i32_w]
               rfl
              refine one_ (i := 11) (N := some 59) #[tY,tY,tY,tY,tY,tY,tY,tY,tY,tY,tY,tY,tY,tN,tN,tN,tN,tN,tN,tN,tN,tN,tN,tN,tN,tN,tN,tN,tN,tN] rfl rfl (one_of HT_.out (by kernel_rfl)) (by decide) (fun K hK => ?_)
              refine goes_ Try.func34 (by kernel_rfl) rfl #[.slice Ao17 y247.length co17] (by rfl) rfl rfl (by (try simp only [List.map_toArray, List.map_cons, List.map_nil]); first | done | rfl | (simp only [List.length_drop, List.length_take]; rfl)) ?_
              with_reducible refine (bits_Weight.calls k1 _ _ y247 t262 _ ?side1 ?side2 A32.out).mono ?_
              (case side1 => repeat (first | exact (Kd.R_reads' HO_0.out).2.2 | (with_reducible refine Kd.C_alloc ?_ _) | (with_reducible refine Kd.C_drewN ?_ _) | (with_reducible refine Kd.C_drew ?_)))
              (case side2 => exact (Kd.R_reads' HO_0.out).2.1)
              rintro e w' ⟨rfl, ⟨nd, rfl⟩⟩
              refine ⟨_, rfl, ?_⟩
              refine hK.out _ _ trivial (fun hHeld => ?_)
              clear hK K
              refine norm_ (a' := ?_) ?_ ?_
              rotate_left
              ·show Act.put _ (some 59) _ = _
               simp only [Act.put, sq_a1, sq_a2, sq_a3, i64_w, i32_w]
               rfl
              refine pure_ (i := 13) (N := some 61) (v := ?_) (a' := ?_) #[tY,tY,tY,tY,tY,tY,tY,tY,tY,tY,tY,tY,tY,tY,tN,tN,tN,tN,tN,tN,tN,tN,tN,tN,tN,tN,tN,tN,tN,tN] rfl rfl (any_of HT_.out (by kernel_rfl)) (fun _ _ _ h => h) (Or.inl ⟨by rfl, ?_⟩) ?_ ?_
              rotate_left
              ·intro w'
               go_simp
               with_reducible rfl
              rotate_left
              ·simp only [Act.put, sq_a1, sq_a2, sq_a3, i64_w, i32_w]
               rfl
              refine pure_ (i := 14) (N := some 62) (v := ?_) (a' := ?_) #[tY,tY,tY,tY,tY,tY,tY,tY,tY,tY,tY,tY,tY,tY,tY,tN,tN,tN,tN,tN,tN,tN,tN,tN,tN,tN,tN,tN,tN,tN] rfl rfl (any_of HT_.out (by kernel_rfl)) (fun _ _ _ h => h) (Or.inl ⟨by rfl, ?_⟩) ?_ ?_
              rotate_left
              ·intro w'
               go_simp
               with_reducible rfl
              rotate_left
              ·simp only [Act.put, sq_a1, sq_a2, sq_a3, i64_w, i32_w]
               rfl
              refine pure_ (i := 15) (N := some 63) (v := ?_) (a' := ?_) #[tY,tY,tY,tY,tY,tY,tY,tY,tY,tY,tY,tY,tY,tY,tY,tY,tN,tN,tN,tN,tN,tN,tN,tN,tN,tN,tN,tN,tN,tN] rfl rfl (any_of HT_.out (by kernel_rfl)) (fun _ _ _ h => h) (Or.inl ⟨by rfl, ?_⟩) ?_ ?_
              rotate_left
              ·intro w'
               go_simp
               with_reducible rfl
              rotate_left
              ·simp only [Act.put, sq_a1, sq_a2, sq_a3, i64_w, i32_w]
               rfl
              refine pure_ (i := 16) (N := some 64) (v := ?_) (a' := ?_) #[tY,tY,tY,tY,tY,tY,tY,tY,tY,tY,tY,tY,tY,tY,tY,tY,tY,tN,tN,tN,tN,tN,tN,tN,tN,tN,tN,tN,tN,tN] rfl rfl (any_of HT_.out (by kernel_rfl)) (fun _ _ _ h => h) (Or.inl ⟨by rfl, ?_⟩) ?_ ?_
              rotate_left
              ·intro w'
               go_simp
               with_reducible rfl
              rotate_left
              ·simp only [Act.put, sq_a1, sq_a2, sq_a3, i64_w, i32_w]
               rfl
              refine pure_ (i := 18) (N := some 66) (v := ?_) (a' := ?_) #[tY,tY,tY,tY,tY,tY,tY,tY,tY,tY,tY,tY,tY,tY,tY,tY,tY,tN,tY,tN,tN,tN,tN,tN,tN,tN,tN,tN,tN,tN] rfl rfl (any_of HT_.out (by kernel_rfl)) (fun _ _ _ h => h) (Or.inl ⟨by rfl, ?_⟩) ?_ ?_
              rotate_left
              ·intro w'
               go_simp
               with_reducible rfl
              rotate_left
              ·simp only [Act.put, sq_a1, sq_a2, sq_a3, i64_w, i32_w]
               rfl
              refine pure_ (i := 19) (N := some 67) (v := ?_) (a' := ?_) #[tY,tY,tY,tY,tY,tY,tY,tY,tY,tY,tY,tY,tY,tY,tY,tY,tY,tN,tY,tY,tN,tN,tN,tN,tN,tN,tN,tN,tN,tN] rfl rfl (any_of HT_.out (by kernel_rfl)) (fun _ _ _ h => h) (Or.inl ⟨by rfl, ?_⟩) ?_ ?_
              rotate_left
              ·intro w'
               go_simp
               with_reducible rfl
              rotate_left
              ·simp only [Act.put, sq_a1, sq_a2, sq_a3, i64_w, i32_w]
               rfl
              refine join_ (σ := Value) 8 #[tY,tY,tY,tY,tY,tY,tY,tY,tY,tY,tY,tY,tY,tY,tY,tY,tY,tY,tY,tY,tY,tY,tN,tN,tN,tN,tN,tN,tN,tN] (fun s_ => [(65, .string (strOfNums t256)), (68, s_), (69, .string (strOfNums t263))]) (fun s_ w' => (Kd.R (Kd.int .u8) 5 w' w.heap.size (fun k_ => some k_ ≠ (s_ : Value).ownBlock ∧ some k_ ≠ (.slice Ao17 y247.length co17 : Value).ownBlock ∧ some k_ ≠ (v253 : Value).ownBlock) v257 t256) ∧ (Kd.R (Kd.int .u8) 5 w' w.heap.size (fun k_ => some k_ ≠ (v257 : Value).ownBlock ∧ some k_ ≠ (.slice Ao17 y247.length co17 : Value).ownBlock ∧ some k_ ≠ (v253 : Value).ownBlock) s_ t263) ∧ (Kd.R (Kd.int .u8) 5 w' w.heap.size (fun k_ => some k_ ≠ (v257 : Value).ownBlock ∧ some k_ ≠ (s_ : Value).ownBlock ∧ some k_ ≠ (v253 : Value).ownBlock) (.slice Ao17 y247.length co17) y247) ∧ (Kd.R (Kd.int .u8) 5 w' w.heap.size (fun k_ => some k_ ≠ (v257 : Value).ownBlock ∧ some k_ ≠ (s_ : Value).ownBlock ∧ some k_ ≠ (.slice Ao17 y247.length co17 : Value).ownBlock) v253 t251) ∧ (Below w.heap.size w w')) ?_ ?_
              rotate_left
              ·intro hCont
               refine two_ (i := 17) (j := 20) (Ni := some 65) (Nj := some 68) #[tY,tY,tY,tY,tY,tY,tY,tY,tY,tY,tY,tY,tY,tY,tY,tY,tY,tY,tY,tY,tN,tN,tN,tN,tN,tN,tN,tN,tN,tN] #[tY,tY,tY,tY,tY,tY,tY,tY,tY,tY,tY,tY,tY,tY,tY,tY,tY,tN,tY,tY,tY,tN,tN,tN,tN,tN,tN,tN,tN,tN] rfl rfl rfl rfl (two_of HT_.out (by kernel_rfl)) (by decide) (by decide) (fun K hK => ?_) (fun K hK => ?_)
               ·skip
                (have hcv38 := own_string (P := Try.prog) Try.underlying29 Try.underlying5 Try.underlying9 (Kd.own_of_R HO258.out); have hcv38d := fun n_ : Nat => own_string (P := Try.prog) Try.underlying29 Try.underlying5 Try.underlying9 (Kd.own_of_R (Kd.R_drewN HO258.out n_)))
                refine value_ (w1 := ?_) (v := ?_) (by rfl) rfl ?_ ?_
                rotate_left 2
                ·go_simp
                 constructor
                 ·rfl
                 ·rfl
                clear hcv38 hcv38d
                refine hK.out _ _ trivial (fun hHeld => ?_)
                clear hK K
                refine norm_ (a' := ?_) ?_ ?_
                rotate_left
                ·show Act.put _ (some 65) _ = _
                 simp only [Act.put, sq_a1, sq_a2, sq_a3, i64_w, i32_w]
                 rfl
                refine one_ (i := 20) (N := some 68) #[tY,tY,tY,tY,tY,tY,tY,tY,tY,tY,tY,tY,tY,tY,tY,tY,tY,tY,tY,tY,tY,tN,tN,tN,tN,tN,tN,tN,tN,tN] rfl rfl (one_of HT_.out (by kernel_rfl)) (by decide) (fun K hK => ?_)
                refine goes_ Try.func24 (by kernel_rfl) rfl #[.slice Ao17 y247.length co17, .slice A1 (l1.take ((ji7) : Int).toNat).length c1] (by rfl) rfl rfl (by (try simp only [List.map_toArray, List.map_cons, List.map_nil]); first | done | (rw [HL250.out] <;> rfl) | (rw [show (l1.take ((ji7) : Int).toNat).length = (ji7).toNat from (by rw [List.length_take]; have h_ : ((ji7) : Int) ≤ (l1.length : Int) := of_decide_eq_true (by first | (with_reducible assumption) | assumption); omega)] <;> rfl) | (simp only [hji7]; rfl) | rfl | (simp only [List.length_drop, List.length_take]; rfl)) ?_
                with_reducible refine (shuttleref01_Turn.calls k1 _ _ y247 _ _ (l1.take ((ji7) : Int).toNat) t263 _ ?side1 ?side2 ?side3 ?side4 A34.out).mono ?_
                (case side1 => repeat (first | exact (Kd.R_reads' HO_0.out).2.2 | (with_reducible refine Kd.C_alloc ?_ _) | (with_reducible refine Kd.C_drewN ?_ _) | (with_reducible refine Kd.C_drew ?_)))
                (case side2 => exact (Kd.R_reads' HO_0.out).2.1)
                (case side3 => repeat (first | exact (Kd.C_below HR250.out (by repeat (first | (with_reducible first | exact HB.out | apply below_alloc | apply pw_below_drewN | apply below_drew1) | exact HB.out))) | (with_reducible refine Kd.C_alloc ?_ _) | (with_reducible refine Kd.C_drewN ?_ _) | (with_reducible refine Kd.C_drew ?_)))
                (case side4 => exact HC250.out)
                rintro e w39 ⟨v264, rfl, ho0, hb⟩
                refine ⟨_, rfl, ?_⟩
                have n0_ := Aside0.mk (Kd.R_elder' (by (with_reducible repeat (first | apply Kd.R_alloc | apply Kd.R_drewN | apply Kd.R_drew)); exact HO_0.out) (Kd.R_base ho0) hb)
                have n1_ := Aside0.mk (Kd.R_elder' (by (with_reducible repeat (first | apply Kd.R_alloc | apply Kd.R_drewN | apply Kd.R_drew)); exact HO_6.out) (Kd.R_base ho0) hb)
                have n2_ := Aside0.mk (Kd.R_elder' (by (with_reducible repeat (first | apply Kd.R_alloc | apply Kd.R_drewN | apply Kd.R_drew)); exact HO258.out) (Kd.R_base ho0) hb)
                have n3_ := Aside0.mk (Kd.R_lower (Kd.R_new' (Kd.R_new' (Kd.R_new' ho0 (Kd.R_lt (by (with_reducible repeat (first | apply Kd.R_alloc | apply Kd.R_drewN | apply Kd.R_drew)); exact HO_0.out))) (Kd.R_lt (by (with_reducible repeat (first | apply Kd.R_alloc | apply Kd.R_drewN | apply Kd.R_drew)); exact HO_6.out))) (Kd.R_lt (by (with_reducible repeat (first | apply Kd.R_alloc | apply Kd.R_drewN | apply Kd.R_drew)); exact HO258.out))) (below_size (by repeat (first | (with_reducible first | exact HB.out | apply below_alloc | apply pw_below_drewN | apply below_drew1) | exact HB.out))))
                have n4_ := Aside0.mk (below_step (by repeat (first | (with_reducible first | exact HB.out | apply below_alloc | apply pw_below_drewN | apply below_drew1) | exact HB.out)) hb)
                clear HO_0
                clear HO_6
                clear HO258
                clear HB
                have HO_0 := n0_
                have HO_6 := n1_
                have HO258 := n2_
                have HO265 := n3_
                have HB := n4_
                clear n0_ n1_ n2_ n3_ n4_
                (try clear hb)
                (try clear hb2)
                (try clear hk)
                (try clear hi)
                (try clear ho0)
                refine hK.out _ _ trivial (fun hHeld => ?_)
                clear hK K
                refine norm_ (a' := ?_) ?_ ?_
                rotate_left
                ·show Act.put _ (some 68) _ = _
                 simp only [Act.put, sq_a1, sq_a2, sq_a3, i64_w, i32_w]
                 rfl
                refine one_ (i := 21) (N := some 69) #[tY,tY,tY,tY,tY,tY,tY,tY,tY,tY,tY,tY,tY,tY,tY,tY,tY,tY,tY,tY,tY,tY,tN,tN,tN,tN,tN,tN,tN,tN] rfl rfl (one_of HT_.out (by kernel_rfl)) (by decide) (fun K hK => ?_)
                (have hcv40 := own_string (P := Try.prog) Try.underlying29 Try.underlying5 Try.underlying9 (Kd.own_of_R HO265.out); have hcv40d := fun n_ : Nat => own_string (P := Try.prog) Try.underlying29 Try.underlying5 Try.underlying9 (Kd.own_of_R (Kd.R_drewN HO265.out n_)))
                refine value_ (w1 := ?_) (v := ?_) (by rfl) rfl ?_ ?_
                rotate_left 2
                ·go_simp
                 constructor
                 ·rfl
                 ·rfl
                clear hcv40 hcv40d
                refine hK.out _ _ trivial (fun hHeld => ?_)
                clear hK K
                refine norm_ (a' := ?_) ?_ ?_
                rotate_left
                ·show Act.put _ (some 69) _ = _
                 simp only [Act.put, sq_a1, sq_a2, sq_a3, i64_w, i32_w]
                 rfl
                exact norm_ (by simp only [putAll, Act.put, sq_a1, sq_a2, sq_a3]) (hCont (v264) _ ⟨(by (with_reducible repeat (first | apply Kd.R_alloc | apply Kd.R_drewN | apply Kd.R_drew)); exact Kd.R_mono HO258.out (fun _ hk => by first | exact ⟨hk.2, ⟨hk.1.1.2, hk.1.2⟩⟩ | (simp [hk]; done))), (by (with_reducible repeat (first | apply Kd.R_alloc | apply Kd.R_drewN | apply Kd.R_drew)); exact Kd.R_mono HO265.out (fun _ hk => by first | exact ⟨hk.2, ⟨hk.1.1.2, hk.1.2⟩⟩ | (simp [hk]; done))), (by (with_reducible repeat (first | apply Kd.R_alloc | apply Kd.R_drewN | apply Kd.R_drew)); exact Kd.R_mono HO_0.out (fun _ hk => by first | exact ⟨hk.1.2, ⟨hk.2, hk.1.1⟩⟩ | (simp [hk]; done))), (by (with_reducible repeat (first | apply Kd.R_alloc | apply Kd.R_drewN | apply Kd.R_drew)); exact Kd.R_mono HO_6.out (fun _ hk => by first | exact ⟨hk.1.2, ⟨hk.2, hk.1.1⟩⟩ | (simp [hk]; done))), (by repeat (first | (with_reducible first | exact HB.out | apply below_alloc | apply pw_below_drewN | apply below_drew1) | exact HB.out))⟩)
               ·skip
                refine goes_ Try.func24 (by kernel_rfl) rfl #[.slice Ao17 y247.length co17, .slice A1 (l1.take ((ji7) : Int).toNat).length c1] (by rfl) rfl rfl (by (try simp only [List.map_toArray, List.map_cons, List.map_nil]); first | done | (rw [HL250.out] <;> rfl) | (rw [show (l1.take ((ji7) : Int).toNat).length = (ji7).toNat from (by rw [List.length_take]; have h_ : ((ji7) : Int) ≤ (l1.length : Int) := of_decide_eq_true (by first | (with_reducible assumption) | assumption); omega)] <;> rfl) | (simp only [hji7]; rfl) | rfl | (simp only [List.length_drop, List.length_take]; rfl)) ?_
                with_reducible refine (shuttleref01_Turn.calls k1 _ _ y247 _ _ (l1.take ((ji7) : Int).toNat) t263 _ ?side1 ?side2 ?side3 ?side4 A34.out).mono ?_
                (case side1 => repeat (first | exact (Kd.R_reads' HO_0.out).2.2 | (with_reducible refine Kd.C_alloc ?_ _) | (with_reducible refine Kd.C_drewN ?_ _) | (with_reducible refine Kd.C_drew ?_)))
                (case side2 => exact (Kd.R_reads' HO_0.out).2.1)
                (case side3 => repeat (first | exact (Kd.C_below HR250.out (by repeat (first | (with_reducible first | exact HB.out | apply below_alloc | apply pw_below_drewN | apply below_drew1) | exact HB.out))) | (with_reducible refine Kd.C_alloc ?_ _) | (with_reducible refine Kd.C_drewN ?_ _) | (with_reducible refine Kd.C_drew ?_)))
                (case side4 => exact HC250.out)
                rintro e w38 ⟨v264, rfl, ho0, hb⟩
                refine ⟨_, rfl, ?_⟩
                have n0_ := Aside0.mk (Kd.R_elder' (by (with_reducible repeat (first | apply Kd.R_alloc | apply Kd.R_drewN | apply Kd.R_drew)); exact HO_0.out) (Kd.R_base ho0) hb)
                have n1_ := Aside0.mk (Kd.R_elder' (by (with_reducible repeat (first | apply Kd.R_alloc | apply Kd.R_drewN | apply Kd.R_drew)); exact HO_6.out) (Kd.R_base ho0) hb)
                have n2_ := Aside0.mk (Kd.R_elder' (by (with_reducible repeat (first | apply Kd.R_alloc | apply Kd.R_drewN | apply Kd.R_drew)); exact HO258.out) (Kd.R_base ho0) hb)
                have n3_ := Aside0.mk (Kd.R_lower (Kd.R_new' (Kd.R_new' (Kd.R_new' ho0 (Kd.R_lt (by (with_reducible repeat (first | apply Kd.R_alloc | apply Kd.R_drewN | apply Kd.R_drew)); exact HO_0.out))) (Kd.R_lt (by (with_reducible repeat (first | apply Kd.R_alloc | apply Kd.R_drewN | apply Kd.R_drew)); exact HO_6.out))) (Kd.R_lt (by (with_reducible repeat (first | apply Kd.R_alloc | apply Kd.R_drewN | apply Kd.R_drew)); exact HO258.out))) (below_size (by repeat (first | (with_reducible first | exact HB.out | apply below_alloc | apply pw_below_drewN | apply below_drew1) | exact HB.out))))
                have n4_ := Aside0.mk (below_step (by repeat (first | (with_reducible first | exact HB.out | apply below_alloc | apply pw_below_drewN | apply below_drew1) | exact HB.out)) hb)
                clear HO_0
                clear HO_6
                clear HO258
                clear HB
                have HO_0 := n0_
                have HO_6 := n1_
                have HO258 := n2_
                have HO265 := n3_
                have HB := n4_
                clear n0_ n1_ n2_ n3_ n4_
                (try clear hb)
                (try clear hb2)
                (try clear hk)
                (try clear hi)
                (try clear ho0)
                refine hK.out _ _ trivial (fun hHeld => ?_)
                clear hK K
                refine norm_ (a' := ?_) ?_ ?_
                rotate_left
                ·show Act.put _ (some 68) _ = _
                 simp only [Act.put, sq_a1, sq_a2, sq_a3, i64_w, i32_w]
                 rfl
                refine two_ (i := 17) (j := 21) (Ni := some 65) (Nj := some 69) #[tY,tY,tY,tY,tY,tY,tY,tY,tY,tY,tY,tY,tY,tY,tY,tY,tY,tY,tY,tY,tY,tN,tN,tN,tN,tN,tN,tN,tN,tN] #[tY,tY,tY,tY,tY,tY,tY,tY,tY,tY,tY,tY,tY,tY,tY,tY,tY,tN,tY,tY,tY,tY,tN,tN,tN,tN,tN,tN,tN,tN] rfl rfl rfl rfl (two_of HT_.out (by kernel_rfl)) (by decide) (by decide) (fun K hK => ?_) (fun K hK => ?_)
                ·skip
                 (have hcv39 := own_string (P := Try.prog) Try.underlying29 Try.underlying5 Try.underlying9 (Kd.own_of_R HO258.out); have hcv39d := fun n_ : Nat => own_string (P := Try.prog) Try.underlying29 Try.underlying5 Try.underlying9 (Kd.own_of_R (Kd.R_drewN HO258.out n_)))
                 refine value_ (w1 := ?_) (v := ?_) (by rfl) rfl ?_ ?_
                 rotate_left 2
                 ·go_simp
                  constructor
                  ·rfl
                  ·rfl
                 clear hcv39 hcv39d
                 refine hK.out _ _ trivial (fun hHeld => ?_)
                 clear hK K
                 refine norm_ (a' := ?_) ?_ ?_
                 rotate_left
                 ·show Act.put _ (some 65) _ = _
                  simp only [Act.put, sq_a1, sq_a2, sq_a3, i64_w, i32_w]
                  rfl
                 refine one_ (i := 21) (N := some 69) #[tY,tY,tY,tY,tY,tY,tY,tY,tY,tY,tY,tY,tY,tY,tY,tY,tY,tY,tY,tY,tY,tY,tN,tN,tN,tN,tN,tN,tN,tN] rfl rfl (one_of HT_.out (by kernel_rfl)) (by decide) (fun K hK => ?_)
                 (have hcv40 := own_string (P := Try.prog) Try.underlying29 Try.underlying5 Try.underlying9 (Kd.own_of_R HO265.out); have hcv40d := fun n_ : Nat => own_string (P := Try.prog) Try.underlying29 Try.underlying5 Try.underlying9 (Kd.own_of_R (Kd.R_drewN HO265.out n_)))
                 refine value_ (w1 := ?_) (v := ?_) (by rfl) rfl ?_ ?_
                 rotate_left 2
                 ·go_simp
                  constructor
                  ·rfl
                  ·rfl
                 clear hcv40 hcv40d
                 refine hK.out _ _ trivial (fun hHeld => ?_)
                 clear hK K
                 refine norm_ (a' := ?_) ?_ ?_
                 rotate_left
                 ·show Act.put _ (some 69) _ = _
                  simp only [Act.put, sq_a1, sq_a2, sq_a3, i64_w, i32_w]
                  rfl
                 exact norm_ (by simp only [putAll, Act.put, sq_a1, sq_a2, sq_a3]) (hCont (v264) _ ⟨(by (with_reducible repeat (first | apply Kd.R_alloc | apply Kd.R_drewN | apply Kd.R_drew)); exact Kd.R_mono HO258.out (fun _ hk => by first | exact ⟨hk.2, ⟨hk.1.1.2, hk.1.2⟩⟩ | (simp [hk]; done))), (by (with_reducible repeat (first | apply Kd.R_alloc | apply Kd.R_drewN | apply Kd.R_drew)); exact Kd.R_mono HO265.out (fun _ hk => by first | exact ⟨hk.2, ⟨hk.1.1.2, hk.1.2⟩⟩ | (simp [hk]; done))), (by (with_reducible repeat (first | apply Kd.R_alloc | apply Kd.R_drewN | apply Kd.R_drew)); exact Kd.R_mono HO_0.out (fun _ hk => by first | exact ⟨hk.1.2, ⟨hk.2, hk.1.1⟩⟩ | (simp [hk]; done))), (by (with_reducible repeat (first | apply Kd.R_alloc | apply Kd.R_drewN | apply Kd.R_drew)); exact Kd.R_mono HO_6.out (fun _ hk => by first | exact ⟨hk.1.2, ⟨hk.2, hk.1.1⟩⟩ | (simp [hk]; done))), (by repeat (first | (with_reducible first | exact HB.out | apply below_alloc | apply pw_below_drewN | apply below_drew1) | exact HB.out))⟩)
                ·skip
                 (have hcv39 := own_string (P := Try.prog) Try.underlying29 Try.underlying5 Try.underlying9 (Kd.own_of_R HO265.out); have hcv39d := fun n_ : Nat => own_string (P := Try.prog) Try.underlying29 Try.underlying5 Try.underlying9 (Kd.own_of_R (Kd.R_drewN HO265.out n_)))
                 refine value_ (w1 := ?_) (v := ?_) (by rfl) rfl ?_ ?_
                 rotate_left 2
                 ·go_simp
                  constructor
                  ·rfl
                  ·rfl
                 clear hcv39 hcv39d
                 refine hK.out _ _ trivial (fun hHeld => ?_)
                 clear hK K
                 refine norm_ (a' := ?_) ?_ ?_
                 rotate_left
                 ·show Act.put _ (some 69) _ = _
                  simp only [Act.put, sq_a1, sq_a2, sq_a3, i64_w, i32_w]
                  rfl
                 refine one_ (i := 17) (N := some 65) #[tY,tY,tY,tY,tY,tY,tY,tY,tY,tY,tY,tY,tY,tY,tY,tY,tY,tY,tY,tY,tY,tY,tN,tN,tN,tN,tN,tN,tN,tN] rfl rfl (one_of HT_.out (by kernel_rfl)) (by decide) (fun K hK => ?_)
                 (have hcv40 := own_string (P := Try.prog) Try.underlying29 Try.underlying5 Try.underlying9 (Kd.own_of_R HO258.out); have hcv40d := fun n_ : Nat => own_string (P := Try.prog) Try.underlying29 Try.underlying5 Try.underlying9 (Kd.own_of_R (Kd.R_drewN HO258.out n_)))
                 refine value_ (w1 := ?_) (v := ?_) (by rfl) rfl ?_ ?_
                 rotate_left 2
                 ·go_simp
                  constructor
                  ·rfl
                  ·rfl
                 clear hcv40 hcv40d
                 refine hK.out _ _ trivial (fun hHeld => ?_)
                 clear hK K
                 refine norm_ (a' := ?_) ?_ ?_
                 rotate_left
                 ·show Act.put _ (some 65) _ = _
                  simp only [Act.put, sq_a1, sq_a2, sq_a3, i64_w, i32_w]
                  rfl
                 exact norm_ (by simp only [putAll, Act.put, sq_a1, sq_a2, sq_a3]) (hCont (v264) _ ⟨(by (with_reducible repeat (first | apply Kd.R_alloc | apply Kd.R_drewN | apply Kd.R_drew)); exact Kd.R_mono HO258.out (fun _ hk => by first | exact ⟨hk.2, ⟨hk.1.1.2, hk.1.2⟩⟩ | (simp [hk]; done))), (by (with_reducible repeat (first | apply Kd.R_alloc | apply Kd.R_drewN | apply Kd.R_drew)); exact Kd.R_mono HO265.out (fun _ hk => by first | exact ⟨hk.2, ⟨hk.1.1.2, hk.1.2⟩⟩ | (simp [hk]; done))), (by (with_reducible repeat (first | apply Kd.R_alloc | apply Kd.R_drewN | apply Kd.R_drew)); exact Kd.R_mono HO_0.out (fun _ hk => by first | exact ⟨hk.1.2, ⟨hk.2, hk.1.1⟩⟩ | (simp [hk]; done))), (by (with_reducible repeat (first | apply Kd.R_alloc | apply Kd.R_drewN | apply Kd.R_drew)); exact Kd.R_mono HO_6.out (fun _ hk => by first | exact ⟨hk.1.2, ⟨hk.2, hk.1.1⟩⟩ | (simp [hk]; done))), (by repeat (first | (with_reducible first | exact HB.out | apply below_alloc | apply pw_below_drewN | apply below_drew1) | exact HB.out))⟩)
              rintro v264 w41 ⟨h0_, h1_, h2_, h3_, h4_⟩
              have n0_ : Aside0 (Kd.R (Kd.int .u8) 5 w41 w.heap.size (fun k_ => some k_ ≠ (v264 : Value).ownBlock ∧ some k_ ≠ (.slice Ao17 y247.length co17 : Value).ownBlock ∧ some k_ ≠ (v253 : Value).ownBlock) v257 t256) := ⟨h0_⟩
              have n1_ : Aside0 (Kd.R (Kd.int .u8) 5 w41 w.heap.size (fun k_ => some k_ ≠ (v257 : Value).ownBlock ∧ some k_ ≠ (.slice Ao17 y247.length co17 : Value).ownBlock ∧ some k_ ≠ (v253 : Value).ownBlock) v264 t263) := ⟨h1_⟩
              have n2_ : Aside0 (Kd.R (Kd.int .u8) 5 w41 w.heap.size (fun k_ => some k_ ≠ (v257 : Value).ownBlock ∧ some k_ ≠ (v264 : Value).ownBlock ∧ some k_ ≠ (v253 : Value).ownBlock) (.slice Ao17 y247.length co17) y247) := ⟨h2_⟩
              have n3_ : Aside0 (Kd.R (Kd.int .u8) 5 w41 w.heap.size (fun k_ => some k_ ≠ (v257 : Value).ownBlock ∧ some k_ ≠ (v264 : Value).ownBlock ∧ some k_ ≠ (.slice Ao17 y247.length co17 : Value).ownBlock) v253 t251) := ⟨h3_⟩
              have n4_ : Aside0 (Below w.heap.size w w41) := ⟨h4_⟩
              clear HO_0
              clear HO_6
              clear HO258
              clear HB
              clear h0_ h1_ h2_ h3_ h4_
              have HO258 := n0_
              have HO265 := n1_
              have HO_0 := n2_
              have HO_6 := n3_
              have HB := n4_
              clear n0_ n1_ n2_ n3_ n4_
              have hHeld := trivial
              refine norm_ (a' := ?_) ?_ ?_
              rotate_left
              ·simp only [putAll, Act.put, sq_a1, sq_a2, sq_a3]
               rfl
              refine pure_ (i := 22) (N := some 70) (v := ?_) (a' := ?_) #[tY,tY,tY,tY,tY,tY,tY,tY,tY,tY,tY,tY,tY,tY,tY,tY,tY,tY,tY,tY,tY,tY,tY,tN,tN,tN,tN,tN,tN,tN] rfl rfl (any_of HT_.out (by kernel_rfl)) (fun _ _ _ h => h) (Or.inl ⟨by rfl, ?_⟩) ?_ ?_
              rotate_left
              ·intro w'
               go_simp
               with_reducible rfl
              rotate_left
              ·simp only [Act.put, sq_a1, sq_a2, sq_a3, i64_w, i32_w]
               rfl
              refine pure_ (i := 23) (N := some 71) (v := ?_) (a' := ?_) #[tY,tY,tY,tY,tY,tY,tY,tY,tY,tY,tY,tY,tY,tY,tY,tY,tY,tY,tY,tY,tY,tY,tY,tY,tN,tN,tN,tN,tN,tN] rfl rfl (any_of HT_.out (by kernel_rfl)) (fun _ _ _ h => h) (Or.inl ⟨by rfl, ?_⟩) ?_ ?_
              rotate_left
              ·intro w'
               go_simp
               with_reducible rfl
              rotate_left
              ·simp only [Act.put, sq_a1, sq_a2, sq_a3, i64_w, i32_w]
               rfl
              refine pure_ (i := 24) (N := some 72) (v := ?_) (a' := ?_) #[tY,tY,tY,tY,tY,tY,tY,tY,tY,tY,tY,tY,tY,tY,tY,tY,tY,tY,tY,tY,tY,tY,tY,tY,tY,tN,tN,tN,tN,tN] rfl rfl (any_of HT_.out (by kernel_rfl)) (fun _ _ _ h => h) (Or.inl ⟨by rfl, ?_⟩) ?_ ?_
              rotate_left
              ·intro w'
               go_simp
               with_reducible rfl
              rotate_left
              ·simp only [Act.put, sq_a1, sq_a2, sq_a3, i64_w, i32_w]
               rfl
              refine pure_ (i := 25) (N := some 73) (v := ?_) (a' := ?_) #[tY,tY,tY,tY,tY,tY,tY,tY,tY,tY,tY,tY,tY,tY,tY,tY,tY,tY,tY,tY,tY,tY,tY,tY,tY,tY,tN,tN,tN,tN] rfl rfl (any_of HT_.out (by kernel_rfl)) (fun _ _ _ h => h) (Or.inl ⟨by rfl, ?_⟩) ?_ ?_
              rotate_left
              ·intro w'
               go_simp
               with_reducible rfl
              rotate_left
              ·simp only [Act.put, sq_a1, sq_a2, sq_a3, i64_w, i32_w]
               rfl
              refine pure_ (i := 27) (N := some 75) (v := ?_) (a' := ?_) #[tY,tY,tY,tY,tY,tY,tY,tY,tY,tY,tY,tY,tY,tY,tY,tY,tY,tY,tY,tY,tY,tY,tY,tY,tY,tY,tN,tY,tN,tN] rfl rfl (any_of HT_.out (by kernel_rfl)) (fun _ _ _ h => h) (Or.inl ⟨by rfl, ?_⟩) ?_ ?_
              rotate_left
              ·intro w'
               go_simp
               with_reducible rfl
              rotate_left
              ·simp only [Act.put, sq_a1, sq_a2, sq_a3, i64_w, i32_w]
               rfl
              refine one_ (i := 26) (N := some 74) #[tY,tY,tY,tY,tY,tY,tY,tY,tY,tY,tY,tY,tY,tY,tY,tY,tY,tY,tY,tY,tY,tY,tY,tY,tY,tY,tY,tY,tN,tN] rfl rfl (one_of HT_.out (by kernel_rfl)) (by decide) (fun K hK => ?_)
              (have hcv42 := own_string (P := Try.prog) Try.underlying29 Try.underlying5 Try.underlying9 (Kd.own_of_R HO_0.out); have hcv42d := fun n_ : Nat => own_string (P := Try.prog) Try.underlying29 Try.underlying5 Try.underlying9 (Kd.own_of_R (Kd.R_drewN HO_0.out n_)))
              refine value_ (w1 := ?_) (v := ?_) (by rfl) rfl ?_ ?_
              rotate_left 2
              ·go_simp
               constructor
               ·rfl
               ·rfl
              clear hcv42 hcv42d
              refine hK.out _ _ trivial (fun hHeld => ?_)
              clear hK K
              refine norm_ (a' := ?_) ?_ ?_
              rotate_left
              ·show Act.put _ (some 74) _ = _
               simp only [Act.put, sq_a1, sq_a2, sq_a3, i64_w, i32_w]
               rfl
              refine pure_ (i := 28) (N := some 76) (v := ?_) (a' := ?_) #[tY,tY,tY,tY,tY,tY,tY,tY,tY,tY,tY,tY,tY,tY,tY,tY,tY,tY,tY,tY,tY,tY,tY,tY,tY,tY,tY,tY,tY,tN] rfl rfl (any_of HT_.out (by kernel_rfl)) (fun _ _ _ h => h) (Or.inl ⟨by rfl, ?_⟩) ?_ ?_
              rotate_left
              ·intro w'
               go_simp
               with_reducible rfl
              rotate_left
              ·simp only [Act.put, sq_a1, sq_a2, sq_a3, i64_w, i32_w]
               rfl
              refine pure_ (i := 29) (N := some 77) (v := ?_) (a' := ?_) #[tY,tY,tY,tY,tY,tY,tY,tY,tY,tY,tY,tY,tY,tY,tY,tY,tY,tY,tY,tY,tY,tY,tY,tY,tY,tY,tY,tY,tY,tY] rfl rfl (any_of HT_.out (by kernel_rfl)) (fun _ _ _ h => h) (Or.inl ⟨by rfl, ?_⟩) ?_ ?_
              rotate_left
              ·intro w'
               go_simp
               with_reducible rfl
              rotate_left
              ·simp only [Act.put, sq_a1, sq_a2, sq_a3, i64_w, i32_w]
               rfl
              refine done_ (done_of HT_.out (by kernel_rfl)) ?_
              try go_wp2
              go_meet
              case rel => exact ⟨_, (((strOfNums y247).toList != (strOfNums y247).toList)), (by first | rfl | (simp; done) | (simp [*]; done)), H', ⟨by have := HK1.out; first | omega | exact Nat.le_refl _⟩, ⟨by (with_reducible repeat (first | apply Kd.R_alloc | apply Kd.R_drewN | apply Kd.R_drew)); exact Kd.R_mono HO_0.out (fun _ hk => by first | exact ⟨hk.2.2, hk.1⟩ | (simp [hk]; done))⟩, ⟨by (with_reducible repeat (first | apply Kd.R_alloc | apply Kd.R_drewN | apply Kd.R_drew)); exact Kd.R_mono HO_6.out (fun _ hk => by first | exact ⟨hk.2.2, hk.1⟩ | (simp [hk]; done))⟩, ⟨by (with_reducible repeat (first | apply Kd.R_alloc | apply Kd.R_drewN | apply Kd.R_drew)); exact Kd.R_mono HO258.out (fun _ hk => by first | exact ⟨hk.2.1, hk.2.2⟩ | (simp [hk]; done))⟩, ⟨by repeat (first | (with_reducible first | exact HB.out | apply below_alloc | apply pw_below_drewN | apply below_drew1) | exact HB.out)⟩⟩
             ·rw [if_neg c35] at H
              have c35b0 : ((strOfNums t256).toList == (strOfNums t263).toList) = false := beq_eq_false_iff_ne.mpr c35
              have c35b1 : ((strOfNums t256).toList != (strOfNums t263).toList) = true := bne_iff_ne.mpr c35
              have H' := Aside0.mk H
              clear H
              try go_wp2
              have n0_ := Aside0.mk (Kd.R_drew HO_0.out)
              have n1_ := Aside0.mk (Kd.R_drew HO_6.out)
              have n2_ := Aside0.mk (Kd.R_drew HO258.out)
              have n3_ := Aside0.mk (below_drew1 HB.out)
              clear HO_0
              clear HO_6
              clear HO258
              clear HB
              have HO_0 := n0_
              have HO_6 := n1_
              have HO258 := n2_
              have HB := n3_
              clear n0_ n1_ n2_ n3_
              refine start_ (n := 30) (S := fun w' => True) (ds := []) #[tN,tN,tN,tN,tN,tN,tN,tN,tN,tN,tN,tN,tN,tN,tN,tN,tN,tN,tN,tN,tN,tN,tN,tN,tN,tN,tN,tN,tN,tN] (by kernel_rfl) rfl rfl trivial (fun hHeld => ?_); refine with_tabW shuttlelaw01_BitsLists.tab12 shuttlelaw01_BitsLists.bits12 (fun HT_ HW_ => ?_)
              generalize w24.drew = w43 at HO_0 HO_6 HO258 HB hHeld ⊢
              refine one_ (i := 0) (N := some 48) #[tY,tN,tN,tN,tN,tN,tN,tN,tN,tN,tN,tN,tN,tN,tN,tN,tN,tN,tN,tN,tN,tN,tN,tN,tN,tN,tN,tN,tN,tN] rfl rfl (one_of HT_.out (by kernel_rfl)) (by decide) (fun K hK => ?_)
              refine goes_ Try.func29 (by kernel_rfl) rfl #[] (by rfl) rfl rfl (by (try simp only [List.map_toArray, List.map_cons, List.map_nil]); first | done | rfl | (simp only [List.length_drop, List.length_take]; rfl)) ?_
              with_reducible refine (shuttlelaw01_tells.calls k1  true _ A25.out).mono ?_
              rintro e w44 ⟨rfl, hb⟩
              refine ⟨_, rfl, ?_⟩
              have n0_ := Aside0.mk (Kd.R_below (by (with_reducible repeat (first | apply Kd.R_alloc | apply Kd.R_drewN | apply Kd.R_drew)); exact HO_0.out) hb)
              have n1_ := Aside0.mk (Kd.R_below (by (with_reducible repeat (first | apply Kd.R_alloc | apply Kd.R_drewN | apply Kd.R_drew)); exact HO_6.out) hb)
              have n2_ := Aside0.mk (Kd.R_below (by (with_reducible repeat (first | apply Kd.R_alloc | apply Kd.R_drewN | apply Kd.R_drew)); exact HO258.out) hb)
              have n3_ := Aside0.mk (below_step (by repeat (first | (with_reducible first | exact HB.out | apply below_alloc | apply pw_below_drewN | apply below_drew1) | exact HB.out)) hb)
              clear HO_0
              clear HO_6
              clear HO258
              clear HB
              have HO_0 := n0_
              have HO_6 := n1_
              have HO258 := n2_
              have HB := n3_
              clear n0_ n1_ n2_ n3_
              (try clear hb)
              (try clear hb2)
              (try clear hk)
              (try clear hi)
              refine hK.out _ _ trivial (fun hHeld => ?_)
              clear hK K
              refine norm_ (a' := ?_) ?_ ?_
              rotate_left
              ·show Act.put _ (some 48) _ = _
               simp only [Act.put, sq_a1, sq_a2, sq_a3, i64_w, i32_w]
               rfl
              refine pure_ (i := 1) (N := some 49) (v := ?_) (a' := ?_) #[tY,tY,tN,tN,tN,tN,tN,tN,tN,tN,tN,tN,tN,tN,tN,tN,tN,tN,tN,tN,tN,tN,tN,tN,tN,tN,tN,tN,tN,tN] rfl rfl (any_of HT_.out (by kernel_rfl)) (fun _ _ _ h => h) (Or.inl ⟨by rfl, ?_⟩) ?_ ?_
              rotate_left
              ·intro w'
               go_simp
               with_reducible rfl
              rotate_left
              ·simp only [Act.put, sq_a1, sq_a2, sq_a3, i64_w, i32_w]
               rfl
              refine pure_ (i := 2) (N := some 50) (v := ?_) (a' := ?_) #[tY,tY,tY,tN,tN,tN,tN,tN,tN,tN,tN,tN,tN,tN,tN,tN,tN,tN,tN,tN,tN,tN,tN,tN,tN,tN,tN,tN,tN,tN] rfl rfl (any_of HT_.out (by kernel_rfl)) (fun _ _ _ h => h) (Or.inl ⟨by rfl, ?_⟩) ?_ ?_
              rotate_left
              ·intro w'
               go_simp
               with_reducible rfl
              rotate_left
              ·simp only [Act.put, sq_a1, sq_a2, sq_a3, i64_w, i32_w]
               rfl
              refine pure_ (i := 3) (N := some 51) (v := ?_) (a' := ?_) #[tY,tY,tY,tY,tN,tN,tN,tN,tN,tN,tN,tN,tN,tN,tN,tN,tN,tN,tN,tN,tN,tN,tN,tN,tN,tN,tN,tN,tN,tN] rfl rfl (any_of HT_.out (by kernel_rfl)) (fun _ _ _ h => h) (Or.inl ⟨by rfl, ?_⟩) ?_ ?_
              rotate_left
              ·intro w'
               go_simp
               with_reducible rfl
              rotate_left
              ·simp only [Act.put, sq_a1, sq_a2, sq_a3, i64_w, i32_w]
               rfl
              refine pure_ (i := 5) (N := some 53) (v := ?_) (a' := ?_) #[tY,tY,tY,tY,tN,tY,tN,tN,tN,tN,tN,tN,tN,tN,tN,tN,tN,tN,tN,tN,tN,tN,tN,tN,tN,tN,tN,tN,tN,tN] rfl rfl (any_of HT_.out (by kernel_rfl)) (fun _ _ _ h => h) (Or.inl ⟨by rfl, ?_⟩) ?_ ?_
              rotate_left
              ·intro w'
               go_simp
               with_reducible rfl
              rotate_left
              ·simp only [Act.put, sq_a1, sq_a2, sq_a3, i64_w, i32_w]
               rfl
              refine one_ (i := 4) (N := some 52) #[tY,tY,tY,tY,tY,tY,tN,tN,tN,tN,tN,tN,tN,tN,tN,tN,tN,tN,tN,tN,tN,tN,tN,tN,tN,tN,tN,tN,tN,tN] rfl rfl (one_of HT_.out (by kernel_rfl)) (by decide) (fun K hK => ?_)
              refine goes_ Try.func33 (by kernel_rfl) rfl #[.slice Ao17 y247.length co17] (by rfl) rfl rfl (by (try simp only [List.map_toArray, List.map_cons, List.map_nil]); first | done | rfl | (simp only [List.length_drop, List.length_take]; rfl)) ?_
              with_reducible refine (bits_Right.calls k1 _ _ y247 t260 _ ?side1 ?side2 A27.out).mono ?_
              (case side1 => repeat (first | exact (Kd.R_reads' HO_0.out).2.2 | (with_reducible refine Kd.C_alloc ?_ _) | (with_reducible refine Kd.C_drewN ?_ _) | (with_reducible refine Kd.C_drew ?_)))
              (case side2 => exact (Kd.R_reads' HO_0.out).2.1)
              rintro e w' ⟨rfl, ⟨nd, rfl⟩⟩
              refine ⟨_, rfl, ?_⟩
              refine hK.out _ _ trivial (fun hHeld => ?_)
              clear hK K
              refine norm_ (a' := ?_) ?_ ?_
              rotate_left
              ·show Act.put _ (some 52) _ = _
               simp only [Act.put, sq_a1, sq_a2, sq_a3, i64_w, i32_w]
               rfl
              refine one_ (i := 6) (N := some 54) #[tY,tY,tY,tY,tY,tY,tY,tN,tN,tN,tN,tN,tN,tN,tN,tN,tN,tN,tN,tN,tN,tN,tN,tN,tN,tN,tN,tN,tN,tN] rfl rfl (one_of HT_.out (by kernel_rfl)) (by decide) (fun K hK => ?_)
              refine goes_ Try.func20 (by kernel_rfl) rfl #[.slice Ao17 y247.length co17] (by rfl) rfl rfl (by (try simp only [List.map_toArray, List.map_cons, List.map_nil]); first | done | rfl | (simp only [List.length_drop, List.length_take]; rfl)) ?_
              with_reducible refine (shuttleref01_Right.calls k1 _ _ y247 t261 _ ?side1 ?side2 A28.out).mono ?_
              (case side1 => repeat (first | exact (Kd.R_reads' HO_0.out).2.2 | (with_reducible refine Kd.C_alloc ?_ _) | (with_reducible refine Kd.C_drewN ?_ _) | (with_reducible refine Kd.C_drew ?_)))
              (case side2 => exact (Kd.R_reads' HO_0.out).2.1)
              rintro e w' ⟨rfl, ⟨nd, rfl⟩⟩
              refine ⟨_, rfl, ?_⟩
              refine hK.out _ _ trivial (fun hHeld => ?_)
              clear hK K
              refine norm_ (a' := ?_) ?_ ?_
              rotate_left
              ·show Act.put _ (some 54) _ = _
               simp only [Act.put, sq_a1, sq_a2, sq_a3, i64_w, i32_w]
               rfl
              refine pure_ (i := 7) (N := some 55) (v := ?_) (a' := ?_) #[tY,tY,tY,tY,tY,tY,tY,tY,tN,tN,tN,tN,tN,tN,tN,tN,tN,tN,tN,tN,tN,tN,tN,tN,tN,tN,tN,tN,tN,tN] rfl rfl (any_of HT_.out (by kernel_rfl)) (fun _ _ _ h => h) (Or.inl ⟨by rfl, ?_⟩) ?_ ?_
              rotate_left
              ·intro w'
               go_simp
               with_reducible rfl
              rotate_left
              ·simp only [Act.put, sq_a1, sq_a2, sq_a3, i64_w, i32_w]
               rfl
              refine pure_ (i := 8) (N := some 56) (v := ?_) (a' := ?_) #[tY,tY,tY,tY,tY,tY,tY,tY,tY,tN,tN,tN,tN,tN,tN,tN,tN,tN,tN,tN,tN,tN,tN,tN,tN,tN,tN,tN,tN,tN] rfl rfl (any_of HT_.out (by kernel_rfl)) (fun _ _ _ h => h) (Or.inl ⟨by rfl, ?_⟩) ?_ ?_
              rotate_left
              ·intro w'
               go_simp
               with_reducible rfl
              rotate_left
              ·simp only [Act.put, sq_a1, sq_a2, sq_a3, i64_w, i32_w]
               rfl
              refine pure_ (i := 9) (N := some 57) (v := ?_) (a' := ?_) #[tY,tY,tY,tY,tY,tY,tY,tY,tY,tY,tN,tN,tN,tN,tN,tN,tN,tN,tN,tN,tN,tN,tN,tN,tN,tN,tN,tN,tN,tN] rfl rfl (any_of HT_.out (by kernel_rfl)) (fun _ _ _ h => h) (Or.inl ⟨by rfl, ?_⟩) ?_ ?_
              rotate_left
              ·intro w'
               go_simp
               with_reducible rfl
              rotate_left
              ·simp only [Act.put, sq_a1, sq_a2, sq_a3, i64_w, i32_w]
               rfl
              refine pure_ (i := 10) (N := some 58) (v := ?_) (a' := ?_) #[tY,tY,tY,tY,tY,tY,tY,tY,tY,tY,tY,tN,tN,tN,tN,tN,tN,tN,tN,tN,tN,tN,tN,tN,tN,tN,tN,tN,tN,tN] rfl rfl (any_of HT_.out (by kernel_rfl)) (fun _ _ _ h => h) (Or.inl ⟨by rfl, ?_⟩) ?_ ?_
              rotate_left
              ·intro w'
               go_simp
               with_reducible rfl
              rotate_left
              ·simp only [Act.put, sq_a1, sq_a2, sq_a3, i64_w, i32_w]
               rfl
              refine pure_ (i := 12) (N := some 60) (v := ?_) (a' := ?_) #[tY,tY,tY,tY,tY,tY,tY,tY,tY,tY,tY,tN,tY,tN,tN,tN,tN,tN,tN,tN,tN,tN,tN,tN,tN,tN,tN,tN,tN,tN] rfl rfl (any_of HT_.out (by kernel_rfl)) (fun _ _ _ h => h) (Or.inl ⟨by rfl, ?_⟩) ?_ ?_
              rotate_left
              ·intro w'
               go_simp
               with_reducible rfl
              rotate_left
              ·simp only [Act.put, sq_a1, sq_a2, sq_a3, i64_w, i32_w]
               rfl
              refine one_ (i := 11) (N := some 59) #[tY,tY,tY,tY,tY,tY,tY,tY,tY,tY,tY,tY,tY,tN,tN,tN,tN,tN,tN,tN,tN,tN,tN,tN,tN,tN,tN,tN,tN,tN] rfl rfl (one_of HT_.out (by kernel_rfl)) (by decide) (fun K hK => ?_)
              refine goes_ Try.func34 (by kernel_rfl) rfl #[.slice Ao17 y247.length co17] (by rfl) rfl rfl (by (try simp only [List.map_toArray, List.map_cons, List.map_nil]); first | done | rfl | (simp only [List.length_drop, List.length_take]; rfl)) ?_
              with_reducible refine (bits_Weight.calls k1 _ _ y247 t262 _ ?side1 ?side2 A32.out).mono ?_
              (case side1 => repeat (first | exact (Kd.R_reads' HO_0.out).2.2 | (with_reducible refine Kd.C_alloc ?_ _) | (with_reducible refine Kd.C_drewN ?_ _) | (with_reducible refine Kd.C_drew ?_)))
              (case side2 => exact (Kd.R_reads' HO_0.out).2.1)
              rintro e w' ⟨rfl, ⟨nd, rfl⟩⟩
              refine ⟨_, rfl, ?_⟩
              refine hK.out _ _ trivial (fun hHeld => ?_)
              clear hK K
              refine norm_ (a' := ?_) ?_ ?_
              rotate_left
              ·show Act.put _ (some 59) _ = _
               simp only [Act.put, sq_a1, sq_a2, sq_a3, i64_w, i32_w]
               rfl
              refine pure_ (i := 13) (N := some 61) (v := ?_) (a' := ?_) #[tY,tY,tY,tY,tY,tY,tY,tY,tY,tY,tY,tY,tY,tY,tN,tN,tN,tN,tN,tN,tN,tN,tN,tN,tN,tN,tN,tN,tN,tN] rfl rfl (any_of HT_.out (by kernel_rfl)) (fun _ _ _ h => h) (Or.inl ⟨by rfl, ?_⟩) ?_ ?_
              rotate_left
              ·intro w'
               go_simp
               with_reducible rfl
              rotate_left
              ·simp only [Act.put, sq_a1, sq_a2, sq_a3, i64_w, i32_w]
               rfl
              refine pure_ (i := 14) (N := some 62) (v := ?_) (a' := ?_) #[tY,tY,tY,tY,tY,tY,tY,tY,tY,tY,tY,tY,tY,tY,tY,tN,tN,tN,tN,tN,tN,tN,tN,tN,tN,tN,tN,tN,tN,tN] rfl rfl (any_of HT_.out (by kernel_rfl)) (fun _ _ _ h => h) (Or.inl ⟨by rfl, ?_⟩) ?_ ?_
              rotate_left
              ·intro w'
               go_simp
               with_reducible rfl
              rotate_left
              ·simp only [Act.put, sq_a1, sq_a2, sq_a3, i64_w, i32_w]
               rfl
              refine pure_ (i := 15) (N := some 63) (v := ?_) (a' := ?_) #[tY,tY,tY,tY,tY,tY,tY,tY,tY,tY,tY,tY,tY,tY,tY,tY,tN,tN,tN,tN,tN,tN,tN,tN,tN,tN,tN,tN,tN,tN] rfl rfl (any_of HT_.out (by kernel_rfl)) (fun _ _ _ h => h) (Or.inl ⟨by rfl, ?_⟩) ?_ ?_
              rotate_left
              ·intro w'
               go_simp
               with_reducible rfl
              rotate_left
              ·simp only [Act.put, sq_a1, sq_a2, sq_a3, i64_w, i32_w]
               rfl
              refine pure_ (i := 16) (N := some 64) (v := ?_) (a' := ?_) #[tY,tY,tY,tY,tY,tY,tY,tY,tY,tY,tY,tY,tY,tY,tY,tY,tY,tN,tN,tN,tN,tN,tN,tN,tN,tN,tN,tN,tN,tN] rfl rfl (any_of HT_.out (by kernel_rfl)) (fun _ _ _ h => h) (Or.inl ⟨by rfl, ?_⟩) ?_ ?_
              rotate_left
              ·intro w'
               go_simp
               with_reducible rfl
              rotate_left
              ·simp only [Act.put, sq_a1, sq_a2, sq_a3, i64_w, i32_w]
               rfl
              refine pure_ (i := 18) (N := some 66) (v := ?_) (a' := ?_) #[tY,tY,tY,tY,tY,tY,tY,tY,tY,tY,tY,tY,tY,tY,tY,tY,tY,tN,tY,tN,tN,tN,tN,tN,tN,tN,tN,tN,tN,tN] rfl rfl (any_of HT_.out (by kernel_rfl)) (fun _ _ _ h => h) (Or.inl ⟨by rfl, ?_⟩) ?_ ?_
              rotate_left
              ·intro w'
               go_simp
               with_reducible rfl
              rotate_left
              ·simp only [Act.put, sq_a1, sq_a2, sq_a3, i64_w, i32_w]
               rfl
              refine pure_ (i := 19) (N := some 67) (v := ?_) (a' := ?_) #[tY,tY,tY,tY,tY,tY,tY,tY,tY,tY,tY,tY,tY,tY,tY,tY,tY,tN,tY,tY,tN,tN,tN,tN,tN,tN,tN,tN,tN,tN] rfl rfl (any_of HT_.out (by kernel_rfl)) (fun _ _ _ h => h) (Or.inl ⟨by rfl, ?_⟩) ?_ ?_
              rotate_left
              ·intro w'
               go_simp
               with_reducible rfl
              rotate_left
              ·simp only [Act.put, sq_a1, sq_a2, sq_a3, i64_w, i32_w]
               rfl
              refine join_ (σ := Value) 8 #[tY,tY,tY,tY,tY,tY,tY,tY,tY,tY,tY,tY,tY,tY,tY,tY,tY,tY,tY,tY,tY,tY,tN,tN,tN,tN,tN,tN,tN,tN] (fun s_ => [(65, .string (strOfNums t256)), (68, s_), (69, .string (strOfNums t263))]) (fun s_ w' => (Kd.R (Kd.int .u8) 5 w' w.heap.size (fun k_ => some k_ ≠ (s_ : Value).ownBlock ∧ some k_ ≠ (.slice Ao17 y247.length co17 : Value).ownBlock ∧ some k_ ≠ (v253 : Value).ownBlock) v257 t256) ∧ (Kd.R (Kd.int .u8) 5 w' w.heap.size (fun k_ => some k_ ≠ (v257 : Value).ownBlock ∧ some k_ ≠ (.slice Ao17 y247.length co17 : Value).ownBlock ∧ some k_ ≠ (v253 : Value).ownBlock) s_ t263) ∧ (Kd.R (Kd.int .u8) 5 w' w.heap.size (fun k_ => some k_ ≠ (v257 : Value).ownBlock ∧ some k_ ≠ (s_ : Value).ownBlock ∧ some k_ ≠ (v253 : Value).ownBlock) (.slice Ao17 y247.length co17) y247) ∧ (Kd.R (Kd.int .u8) 5 w' w.heap.size (fun k_ => some k_ ≠ (v257 : Value).ownBlock ∧ some k_ ≠ (s_ : Value).ownBlock ∧ some k_ ≠ (.slice Ao17 y247.length co17 : Value).ownBlock) v253 t251) ∧ (Below w.heap.size w w')) ?_ ?_
              rotate_left
              ·intro hCont
               refine two_ (i := 17) (j := 20) (Ni := some 65) (Nj := some 68) #[tY,tY,tY,tY,tY,tY,tY,tY,tY,tY,tY,tY,tY,tY,tY,tY,tY,tY,tY,tY,tN,tN,tN,tN,tN,tN,tN,tN,tN,tN] #[tY,tY,tY,tY,tY,tY,tY,tY,tY,tY,tY,tY,tY,tY,tY,tY,tY,tN,tY,tY,tY,tN,tN,tN,tN,tN,tN,tN,tN,tN] rfl rfl rfl rfl (two_of HT_.out (by kernel_rfl)) (by decide) (by decide) (fun K hK => ?_) (fun K hK => ?_)
               ·skip
                (have hcv45 := own_string (P := Try.prog) Try.underlying29 Try.underlying5 Try.underlying9 (Kd.own_of_R HO258.out); have hcv45d := fun n_ : Nat => own_string (P := Try.prog) Try.underlying29 Try.underlying5 Try.underlying9 (Kd.own_of_R (Kd.R_drewN HO258.out n_)))
                refine value_ (w1 := ?_) (v := ?_) (by rfl) rfl ?_ ?_
                rotate_left 2
                ·go_simp
                 constructor
                 ·rfl
                 ·rfl
                clear hcv45 hcv45d
                refine hK.out _ _ trivial (fun hHeld => ?_)
                clear hK K
                refine norm_ (a' := ?_) ?_ ?_
                rotate_left
                ·show Act.put _ (some 65) _ = _
                 simp only [Act.put, sq_a1, sq_a2, sq_a3, i64_w, i32_w]
                 rfl
                refine one_ (i := 20) (N := some 68) #[tY,tY,tY,tY,tY,tY,tY,tY,tY,tY,tY,tY,tY,tY,tY,tY,tY,tY,tY,tY,tY,tN,tN,tN,tN,tN,tN,tN,tN,tN] rfl rfl (one_of HT_.out (by kernel_rfl)) (by decide) (fun K hK => ?_)
                refine goes_ Try.func24 (by kernel_rfl) rfl #[.slice Ao17 y247.length co17, .slice A1 (l1.take ((ji7) : Int).toNat).length c1] (by rfl) rfl rfl (by (try simp only [List.map_toArray, List.map_cons, List.map_nil]); first | done | (rw [HL250.out] <;> rfl) | (rw [show (l1.take ((ji7) : Int).toNat).length = (ji7).toNat from (by rw [List.length_take]; have h_ : ((ji7) : Int) ≤ (l1.length : Int) := of_decide_eq_true (by first | (with_reducible assumption) | assumption); omega)] <;> rfl) | (simp only [hji7]; rfl) | rfl | (simp only [List.length_drop, List.length_take]; rfl)) ?_
                with_reducible refine (shuttleref01_Turn.calls k1 _ _ y247 _ _ (l1.take ((ji7) : Int).toNat) t263 _ ?side1 ?side2 ?side3 ?side4 A34.out).mono ?_
                (case side1 => repeat (first | exact (Kd.R_reads' HO_0.out).2.2 | (with_reducible refine Kd.C_alloc ?_ _) | (with_reducible refine Kd.C_drewN ?_ _) | (with_reducible refine Kd.C_drew ?_)))
                (case side2 => exact (Kd.R_reads' HO_0.out).2.1)
                (case side3 => repeat (first | exact (Kd.C_below HR250.out (by repeat (first | (with_reducible first | exact HB.out | apply below_alloc | apply pw_below_drewN | apply below_drew1) | exact HB.out))) | (with_reducible refine Kd.C_alloc ?_ _) | (with_reducible refine Kd.C_drewN ?_ _) | (with_reducible refine Kd.C_drew ?_)))
                (case side4 => exact HC250.out)
                rintro e w46 ⟨v264, rfl, ho0, hb⟩
                refine ⟨_, rfl, ?_⟩
                have n0_ := Aside0.mk (Kd.R_elder' (by (with_reducible repeat (first | apply Kd.R_alloc | apply Kd.R_drewN | apply Kd.R_drew)); exact HO_0.out) (Kd.R_base ho0) hb)
                have n1_ := Aside0.mk (Kd.R_elder' (by (with_reducible repeat (first | apply Kd.R_alloc | apply Kd.R_drewN | apply Kd.R_drew)); exact HO_6.out) (Kd.R_base ho0) hb)
                have n2_ := Aside0.mk (Kd.R_elder' (by (with_reducible repeat (first | apply Kd.R_alloc | apply Kd.R_drewN | apply Kd.R_drew)); exact HO258.out) (Kd.R_base ho0) hb)
                have n3_ := Aside0.mk (Kd.R_lower (Kd.R_new' (Kd.R_new' (Kd.R_new' ho0 (Kd.R_lt (by (with_reducible repeat (first | apply Kd.R_alloc | apply Kd.R_drewN | apply Kd.R_drew)); exact HO_0.out))) (Kd.R_lt (by (with_reducible repeat (first | apply Kd.R_alloc | apply Kd.R_drewN | apply Kd.R_drew)); exact HO_6.out))) (Kd.R_lt (by (with_reducible repeat (first | apply Kd.R_alloc | apply Kd.R_drewN | apply Kd.R_drew)); exact HO258.out))) (below_size (by repeat (first | (with_reducible first | exact HB.out | apply below_alloc | apply pw_below_drewN | apply below_drew1) | exact HB.out))))
                have n4_ := Aside0.mk (below_step (by repeat (first | (with_reducible first | exact HB.out | apply below_alloc | apply pw_below_drewN | apply below_drew1) | exact HB.out)) hb)
                clear HO_0
                clear HO_6
                clear HO258
                clear HB
                have HO_0 := n0_
                have HO_6 := n1_
                have HO258 := n2_
                have HO265 := n3_
                have HB := n4_
                clear n0_ n1_ n2_ n3_ n4_
                (try clear hb)
                (try clear hb2)
                (try clear hk)
                (try clear hi)
                (try clear ho0)
                refine hK.out _ _ trivial (fun hHeld => ?_)
                clear hK K
                refine norm_ (a' := ?_) ?_ ?_
                rotate_left
                ·show Act.put _ (some 68) _ = _
                 simp only [Act.put, sq_a1, sq_a2, sq_a3, i64_w, i32_w]
                 rfl
                refine one_ (i := 21) (N := some 69) #[tY,tY,tY,tY,tY,tY,tY,tY,tY,tY,tY,tY,tY,tY,tY,tY,tY,tY,tY,tY,tY,tY,tN,tN,tN,tN,tN,tN,tN,tN] rfl rfl (one_of HT_.out (by kernel_rfl)) (by decide) (fun K hK => ?_)
                (have hcv47 := own_string (P := Try.prog) Try.underlying29 Try.underlying5 Try.underlying9 (Kd.own_of_R HO265.out); have hcv47d := fun n_ : Nat => own_string (P := Try.prog) Try.underlying29 Try.underlying5 Try.underlying9 (Kd.own_of_R (Kd.R_drewN HO265.out n_)))
                refine value_ (w1 := ?_) (v := ?_) (by rfl) rfl ?_ ?_
                rotate_left 2
                ·go_simp
                 constructor
                 ·rfl
                 ·rfl
                clear hcv47 hcv47d
                refine hK.out _ _ trivial (fun hHeld => ?_)
                clear hK K
                refine norm_ (a' := ?_) ?_ ?_
                rotate_left
                ·show Act.put _ (some 69) _ = _
                 simp only [Act.put, sq_a1, sq_a2, sq_a3, i64_w, i32_w]
                 rfl
                exact norm_ (by simp only [putAll, Act.put, sq_a1, sq_a2, sq_a3]) (hCont (v264) _ ⟨(by (with_reducible repeat (first | apply Kd.R_alloc | apply Kd.R_drewN | apply Kd.R_drew)); exact Kd.R_mono HO258.out (fun _ hk => by first | exact ⟨hk.2, ⟨hk.1.1.2, hk.1.2⟩⟩ | (simp [hk]; done))), (by (with_reducible repeat (first | apply Kd.R_alloc | apply Kd.R_drewN | apply Kd.R_drew)); exact Kd.R_mono HO265.out (fun _ hk => by first | exact ⟨hk.2, ⟨hk.1.1.2, hk.1.2⟩⟩ | (simp [hk]; done))), (by (with_reducible repeat (first | apply Kd.R_alloc | apply Kd.R_drewN | apply Kd.R_drew)); exact Kd.R_mono HO_0.out (fun _ hk => by first | exact ⟨hk.1.2, ⟨hk.2, hk.1.1⟩⟩ | (simp [hk]; done))), (by (with_reducible repeat (first | apply Kd.R_alloc | apply Kd.R_drewN | apply Kd.R_drew)); exact Kd.R_mono HO_6.out (fun _ hk => by first | exact ⟨hk.1.2, ⟨hk.2, hk.1.1⟩⟩ | (simp [hk]; done))), (by repeat (first | (with_reducible first | exact HB.out | apply below_alloc | apply pw_below_drewN | apply below_drew1) | exact HB.out))⟩)
               ·skip
                refine goes_ Try.func24 (by kernel_rfl) rfl #[.slice Ao17 y247.length co17, .slice A1 (l1.take ((ji7) : Int).toNat).length c1] (by rfl) rfl rfl (by (try simp only [List.map_toArray, List.map_cons, List.map_nil]); first | done | (rw [HL250.out] <;> rfl) | (rw [show (l1.take ((ji7) : Int).toNat).length = (ji7).toNat from (by rw [List.length_take]; have h_ : ((ji7) : Int) ≤ (l1.length : Int) := of_decide_eq_true (by first | (with_reducible assumption) | assumption); omega)] <;> rfl) | (simp only [hji7]; rfl) | rfl | (simp only [List.length_drop, List.length_take]; rfl)) ?_
                with_reducible refine (shuttleref01_Turn.calls k1 _ _ y247 _ _ (l1.take ((ji7) : Int).toNat) t263 _ ?side1 ?side2 ?side3 ?side4 A34.out).mono ?_
                (case side1 => repeat (first | exact (Kd.R_reads' HO_0.out).2.2 | (with_reducible refine Kd.C_alloc ?_ _) | (with_reducible refine Kd.C_drewN ?_ _) | (with_reducible refine Kd.C_drew ?_)))
                (case side2 => exact (Kd.R_reads' HO_0.out).2.1)
                (case side3 => repeat (first | exact (Kd.C_below HR250.out (by repeat (first | (with_reducible first | exact HB.out | apply below_alloc | apply pw_below_drewN | apply below_drew1) | exact HB.out))) | (with_reducible refine Kd.C_alloc ?_ _) | (with_reducible refine Kd.C_drewN ?_ _) | (with_reducible refine Kd.C_drew ?_)))
                (case side4 => exact HC250.out)
                rintro e w45 ⟨v264, rfl, ho0, hb⟩
                refine ⟨_, rfl, ?_⟩
                have n0_ := Aside0.mk (Kd.R_elder' (by (with_reducible repeat (first | apply Kd.R_alloc | apply Kd.R_drewN | apply Kd.R_drew)); exact HO_0.out) (Kd.R_base ho0) hb)
                have n1_ := Aside0.mk (Kd.R_elder' (by (with_reducible repeat (first | apply Kd.R_alloc | apply Kd.R_drewN | apply Kd.R_drew)); exact HO_6.out) (Kd.R_base ho0) hb)
                have n2_ := Aside0.mk (Kd.R_elder' (by (with_reducible repeat (first | apply Kd.R_alloc | apply Kd.R_drewN | apply Kd.R_drew)); exact HO258.out) (Kd.R_base ho0) hb)
                have n3_ := Aside0.mk (Kd.R_lower (Kd.R_new' (Kd.R_new' (Kd.R_new' ho0 (Kd.R_lt (by (with_reducible repeat (first | apply Kd.R_alloc | apply Kd.R_drewN | apply Kd.R_drew)); exact HO_0.out))) (Kd.R_lt (by (with_reducible repeat (first | apply Kd.R_alloc | apply Kd.R_drewN | apply Kd.R_drew)); exact HO_6.out))) (Kd.R_lt (by (with_reducible repeat (first | apply Kd.R_alloc | apply Kd.R_drewN | apply Kd.R_drew)); exact HO258.out))) (below_size (by repeat (first | (with_reducible first | exact HB.out | apply below_alloc | apply pw_below_drewN | apply below_drew1) | exact HB.out))))
                have n4_ := Aside0.mk (below_step (by repeat (first | (with_reducible first | exact HB.out | apply below_alloc | apply pw_below_drewN | apply below_drew1) | exact HB.out)) hb)
                clear HO_0
                clear HO_6
                clear HO258
                clear HB
                have HO_0 := n0_
                have HO_6 := n1_
                have HO258 := n2_
                have HO265 := n3_
                have HB := n4_
                clear n0_ n1_ n2_ n3_ n4_
                (try clear hb)
                (try clear hb2)
                (try clear hk)
                (try clear hi)
                (try clear ho0)
                refine hK.out _ _ trivial (fun hHeld => ?_)
                clear hK K
                refine norm_ (a' := ?_) ?_ ?_
                rotate_left
                ·show Act.put _ (some 68) _ = _
                 simp only [Act.put, sq_a1, sq_a2, sq_a3, i64_w, i32_w]
                 rfl
                refine two_ (i := 17) (j := 21) (Ni := some 65) (Nj := some 69) #[tY,tY,tY,tY,tY,tY,tY,tY,tY,tY,tY,tY,tY,tY,tY,tY,tY,tY,tY,tY,tY,tN,tN,tN,tN,tN,tN,tN,tN,tN] #[tY,tY,tY,tY,tY,tY,tY,tY,tY,tY,tY,tY,tY,tY,tY,tY,tY,tN,tY,tY,tY,tY,tN,tN,tN,tN,tN,tN,tN,tN] rfl rfl rfl rfl (two_of HT_.out (by kernel_rfl)) (by decide) (by decide) (fun K hK => ?_) (fun K hK => ?_)
                ·skip
                 (have hcv46 := own_string (P := Try.prog) Try.underlying29 Try.underlying5 Try.underlying9 (Kd.own_of_R HO258.out); have hcv46d := fun n_ : Nat => own_string (P := Try.prog) Try.underlying29 Try.underlying5 Try.underlying9 (Kd.own_of_R (Kd.R_drewN HO258.out n_)))
                 refine value_ (w1 := ?_) (v := ?_) (by rfl) rfl ?_ ?_
                 rotate_left 2
                 ·go_simp
                  constructor
                  ·rfl
                  ·rfl
                 clear hcv46 hcv46d
                 refine hK.out _ _ trivial (fun hHeld => ?_)
                 clear hK K
                 refine norm_ (a' := ?_) ?_ ?_
                 rotate_left
                 ·show Act.put _ (some 65) _ = _
                  simp only [Act.put, sq_a1, sq_a2, sq_a3, i64_w, i32_w]
                  rfl
                 refine one_ (i := 21) (N := some 69) #[tY,tY,tY,tY,tY,tY,tY,tY,tY,tY,tY,tY,tY,tY,tY,tY,tY,tY,tY,tY,tY,tY,tN,tN,tN,tN,tN,tN,tN,tN] rfl rfl (one_of HT_.out (by kernel_rfl)) (by decide) (fun K hK => ?_)
                 (have hcv47 := own_string (P := Try.prog) Try.underlying29 Try.underlying5 Try.underlying9 (Kd.own_of_R HO265.out); have hcv47d := fun n_ : Nat => own_string (P := Try.prog) Try.underlying29 Try.underlying5 Try.underlying9 (Kd.own_of_R (Kd.R_drewN HO265.out n_)))
                 refine value_ (w1 := ?_) (v := ?_) (by rfl) rfl ?_ ?_
                 rotate_left 2
                 ·go_simp
                  constructor
                  ·rfl
                  ·rfl
                 clear hcv47 hcv47d
                 refine hK.out _ _ trivial (fun hHeld => ?_)
                 clear hK K
                 refine norm_ (a' := ?_) ?_ ?_
                 rotate_left
                 ·show Act.put _ (some 69) _ = _
                  simp only [Act.put, sq_a1, sq_a2, sq_a3, i64_w, i32_w]
                  rfl
                 exact norm_ (by simp only [putAll, Act.put, sq_a1, sq_a2, sq_a3]) (hCont (v264) _ ⟨(by (with_reducible repeat (first | apply Kd.R_alloc | apply Kd.R_drewN | apply Kd.R_drew)); exact Kd.R_mono HO258.out (fun _ hk => by first | exact ⟨hk.2, ⟨hk.1.1.2, hk.1.2⟩⟩ | (simp [hk]; done))), (by (with_reducible repeat (first | apply Kd.R_alloc | apply Kd.R_drewN | apply Kd.R_drew)); exact Kd.R_mono HO265.out (fun _ hk => by first | exact ⟨hk.2, ⟨hk.1.1.2, hk.1.2⟩⟩ | (simp [hk]; done))), (by (with_reducible repeat (first | apply Kd.R_alloc | apply Kd.R_drewN | apply Kd.R_drew)); exact Kd.R_mono HO_0.out (fun _ hk => by first | exact ⟨hk.1.2, ⟨hk.2, hk.1.1⟩⟩ | (simp [hk]; done))), (by (with_reducible repeat (first | apply Kd.R_alloc | apply Kd.R_drewN | apply Kd.R_drew)); exact Kd.R_mono HO_6.out (fun _ hk => by first | exact ⟨hk.1.2, ⟨hk.2, hk.1.1⟩⟩ | (simp [hk]; done))), (by repeat (first | (with_reducible first | exact HB.out | apply below_alloc | apply pw_below_drewN | apply below_drew1) | exact HB.out))⟩)
                ·skip
                 (have hcv46 := own_string (P := Try.prog) Try.underlying29 Try.underlying5 Try.underlying9 (Kd.own_of_R HO265.out); have hcv46d := fun n_ : Nat => own_string (P := Try.prog) Try.underlying29 Try.underlying5 Try.underlying9 (Kd.own_of_R (Kd.R_drewN HO265.out n_)))
                 refine value_ (w1 := ?_) (v := ?_) (by rfl) rfl ?_ ?_
                 rotate_left 2
                 ·go_simp
                  constructor
                  ·rfl
                  ·rfl
                 clear hcv46 hcv46d
                 refine hK.out _ _ trivial (fun hHeld => ?_)
                 clear hK K
                 refine norm_ (a' := ?_) ?_ ?_
                 rotate_left
                 ·show Act.put _ (some 69) _ = _
                  simp only [Act.put, sq_a1, sq_a2, sq_a3, i64_w, i32_w]
                  rfl
                 refine one_ (i := 17) (N := some 65) #[tY,tY,tY,tY,tY,tY,tY,tY,tY,tY,tY,tY,tY,tY,tY,tY,tY,tY,tY,tY,tY,tY,tN,tN,tN,tN,tN,tN,tN,tN] rfl rfl (one_of HT_.out (by kernel_rfl)) (by decide) (fun K hK => ?_)
                 (have hcv47 := own_string (P := Try.prog) Try.underlying29 Try.underlying5 Try.underlying9 (Kd.own_of_R HO258.out); have hcv47d := fun n_ : Nat => own_string (P := Try.prog) Try.underlying29 Try.underlying5 Try.underlying9 (Kd.own_of_R (Kd.R_drewN HO258.out n_)))
                 refine value_ (w1 := ?_) (v := ?_) (by rfl) rfl ?_ ?_
                 rotate_left 2
                 ·go_simp
                  constructor
                  ·rfl
                  ·rfl
                 clear hcv47 hcv47d
                 refine hK.out _ _ trivial (fun hHeld => ?_)
                 clear hK K
                 refine norm_ (a' := ?_) ?_ ?_
                 rotate_left
                 ·show Act.put _ (some 65) _ = _
                  simp only [Act.put, sq_a1, sq_a2, sq_a3, i64_w, i32_w]
                  rfl
                 exact norm_ (by simp only [putAll, Act.put, sq_a1, sq_a2, sq_a3]) (hCont (v264) _ ⟨(by (with_reducible repeat (first | apply Kd.R_alloc | apply Kd.R_drewN | apply Kd.R_drew)); exact Kd.R_mono HO258.out (fun _ hk => by first | exact ⟨hk.2, ⟨hk.1.1.2, hk.1.2⟩⟩ | (simp [hk]; done))), (by (with_reducible repeat (first | apply Kd.R_alloc | apply Kd.R_drewN | apply Kd.R_drew)); exact Kd.R_mono HO265.out (fun _ hk => by first | exact ⟨hk.2, ⟨hk.1.1.2, hk.1.2⟩⟩ | (simp [hk]; done))), (by (with_reducible repeat (first | apply Kd.R_alloc | apply Kd.R_drewN | apply Kd.R_drew)); exact Kd.R_mono HO_0.out (fun _ hk => by first | exact ⟨hk.1.2, ⟨hk.2, hk.1.1⟩⟩ | (simp [hk]; done))), (by (with_reducible repeat (first | apply Kd.R_alloc | apply Kd.R_drewN | apply Kd.R_drew)); exact Kd.R_mono HO_6.out (fun _ hk => by first | exact ⟨hk.1.2, ⟨hk.2, hk.1.1⟩⟩ | (simp [hk]; done))), (by repeat (first | (with_reducible first | exact HB.out | apply below_alloc | apply pw_below_drewN | apply below_drew1) | exact HB.out))⟩)
              rintro v264 w48 ⟨h0_, h1_, h2_, h3_, h4_⟩
              have n0_ : Aside0 (Kd.R (Kd.int .u8) 5 w48 w.heap.size (fun k_ => some k_ ≠ (v264 : Value).ownBlock ∧ some k_ ≠ (.slice Ao17 y247.length co17 : Value).ownBlock ∧ some k_ ≠ (v253 : Value).ownBlock) v257 t256) := ⟨h0_⟩
              have n1_ : Aside0 (Kd.R (Kd.int .u8) 5 w48 w.heap.size (fun k_ => some k_ ≠ (v257 : Value).ownBlock ∧ some k_ ≠ (.slice Ao17 y247.length co17 : Value).ownBlock ∧ some k_ ≠ (v253 : Value).ownBlock) v264 t263) := ⟨h1_⟩
              have n2_ : Aside0 (Kd.R (Kd.int .u8) 5 w48 w.heap.size (fun k_ => some k_ ≠ (v257 : Value).ownBlock ∧ some k_ ≠ (v264 : Value).ownBlock ∧ some k_ ≠ (v253 : Value).ownBlock) (.slice Ao17 y247.length co17) y247) := ⟨h2_⟩
              have n3_ : Aside0 (Kd.R (Kd.int .u8) 5 w48 w.heap.size (fun k_ => some k_ ≠ (v257 : Value).ownBlock ∧ some k_ ≠ (v264 : Value).ownBlock ∧ some k_ ≠ (.slice Ao17 y247.length co17 : Value).ownBlock) v253 t251) := ⟨h3_⟩
              have n4_ : Aside0 (Below w.heap.size w w48) := ⟨h4_⟩
              clear HO_0
              clear HO_6
              clear HO258
              clear HB
              clear h0_ h1_ h2_ h3_ h4_
              have HO258 := n0_
              have HO265 := n1_
              have HO_0 := n2_
              have HO_6 := n3_
              have HB := n4_
              clear n0_ n1_ n2_ n3_ n4_
              have hHeld := trivial
              refine norm_ (a' := ?_) ?_ ?_
              rotate_left
              ·simp only [putAll, Act.put, sq_a1, sq_a2, sq_a3]
               rfl
              refine pure_ (i := 22) (N := some 70) (v := ?_) (a' := ?_) #[tY,tY,tY,tY,tY,tY,tY,tY,tY,tY,tY,tY,tY,tY,tY,tY,tY,tY,tY,tY,tY,tY,tY,tN,tN,tN,tN,tN,tN,tN] rfl rfl (any_of HT_.out (by kernel_rfl)) (fun _ _ _ h => h) (Or.inl ⟨by rfl, ?_⟩) ?_ ?_
              rotate_left
              ·intro w'
               go_simp
               with_reducible rfl
              rotate_left
              ·simp only [Act.put, sq_a1, sq_a2, sq_a3, i64_w, i32_w]
               rfl
              refine pure_ (i := 23) (N := some 71) (v := ?_) (a' := ?_) #[tY,tY,tY,tY,tY,tY,tY,tY,tY,tY,tY,tY,tY,tY,tY,tY,tY,tY,tY,tY,tY,tY,tY,tY,tN,tN,tN,tN,tN,tN] rfl rfl (any_of HT_.out (by kernel_rfl)) (fun _ _ _ h => h) (Or.inl ⟨by rfl, ?_⟩) ?_ ?_
              rotate_left
              ·intro w'
               go_simp
               with_reducible rfl
              rotate_left
              ·simp only [Act.put, sq_a1, sq_a2, sq_a3, i64_w, i32_w]
               rfl
              refine pure_ (i := 24) (N := some 72) (v := ?_) (a' := ?_) #[tY,tY,tY,tY,tY,tY,tY,tY,tY,tY,tY,tY,tY,tY,tY,tY,tY,tY,tY,tY,tY,tY,tY,tY,tY,tN,tN,tN,tN,tN] rfl rfl (any_of HT_.out (by kernel_rfl)) (fun _ _ _ h => h) (Or.inl ⟨by rfl, ?_⟩) ?_ ?_
              rotate_left
              ·intro w'
               go_simp
               with_reducible rfl
              rotate_left
              ·simp only [Act.put, sq_a1, sq_a2, sq_a3, i64_w, i32_w]
               rfl
              refine pure_ (i := 25) (N := some 73) (v := undef) (a' := ?_) #[tY,tY,tY,tY,tY,tY,tY,tY,tY,tY,tY,tY,tY,tY,tY,tY,tY,tY,tY,tY,tY,tY,tY,tY,tY,tY,tN,tN,tN,tN] rfl rfl (any_of HT_.out (by kernel_rfl)) (fun _ _ _ h => h) (Or.inr ⟨by rfl, rfl⟩) ?_ ?_
              rotate_left
              ·simp only [Act.put, sq_a1, sq_a2, sq_a3, i64_w, i32_w]
               rfl
              refine pure_ (i := 26) (N := some 74) (v := undef) (a' := ?_) #[tY,tY,tY,tY,tY,tY,tY,tY,tY,tY,tY,tY,tY,tY,tY,tY,tY,tY,tY,tY,tY,tY,tY,tY,tY,tY,tY,tN,tN,tN] rfl rfl (any_of HT_.out (by kernel_rfl)) (fun _ _ _ h => h) (Or.inr ⟨by rfl, rfl⟩) ?_ ?_
              rotate_left
              ·simp only [Act.put, sq_a1, sq_a2, sq_a3, i64_w, i32_w]
               rfl
              refine pure_ (i := 27) (N := some 75) (v := undef) (a' := ?_) #[tY,tY,tY,tY,tY,tY,tY,tY,tY,tY,tY,tY,tY,tY,tY,tY,tY,tY,tY,tY,tY,tY,tY,tY,tY,tY,tY,tY,tN,tN] rfl rfl (any_of HT_.out (by kernel_rfl)) (fun _ _ _ h => h) (Or.inr ⟨by rfl, rfl⟩) ?_ ?_
              rotate_left
              ·simp only [Act.put, sq_a1, sq_a2, sq_a3, i64_w, i32_w]
               rfl
              refine pure_ (i := 28) (N := some 76) (v := undef) (a' := ?_) #[tY,tY,tY,tY,tY,tY,tY,tY,tY,tY,tY,tY,tY,tY,tY,tY,tY,tY,tY,tY,tY,tY,tY,tY,tY,tY,tY,tY,tY,tN] rfl rfl (any_of HT_.out (by kernel_rfl)) (fun _ _ _ h => h) (Or.inr ⟨by rfl, rfl⟩) ?_ ?_
              rotate_left
              ·simp only [Act.put, sq_a1, sq_a2, sq_a3, i64_w, i32_w]
               rfl
              refine pure_ (i := 29) (N := some 77) (v := ?_) (a' := ?_) #[tY,tY,tY,tY,tY,tY,tY,tY,tY,tY,tY,tY,tY,tY,tY,tY,tY,tY,tY,tY,tY,tY,tY,tY,tY,tY,tY,tY,tY,tY] rfl rfl (any_of HT_.out (by kernel_rfl)) (fun _ _ _ h => h) (Or.inl ⟨by rfl, ?_⟩) ?_ ?_
              rotate_left
              ·intro w'
               go_simp
               with_reducible rfl
              rotate_left
              ·simp only [Act.put, sq_a1, sq_a2, sq_a3, i64_w, i32_w]
               rfl
              refine done_ (done_of HT_.out (by kernel_rfl)) ?_
              try go_wp2
              go_meet
              case rel => exact ⟨_, (true), (by first | rfl | (simp; done) | (simp [*]; done)), H', ⟨by have := HK1.out; first | omega | exact Nat.le_refl _⟩, ⟨by (with_reducible repeat (first | apply Kd.R_alloc | apply Kd.R_drewN | apply Kd.R_drew)); exact Kd.R_mono HO_0.out (fun _ hk => by first | exact ⟨hk.2.2, hk.1⟩ | (simp [hk]; done))⟩, ⟨by (with_reducible repeat (first | apply Kd.R_alloc | apply Kd.R_drewN | apply Kd.R_drew)); exact Kd.R_mono HO_6.out (fun _ hk => by first | exact ⟨hk.2.2, hk.1⟩ | (simp [hk]; done))⟩, ⟨by (with_reducible repeat (first | apply Kd.R_alloc | apply Kd.R_drewN | apply Kd.R_drew)); exact Kd.R_mono HO258.out (fun _ hk => by first | exact ⟨hk.2.1, hk.2.2⟩ | (simp [hk]; done))⟩, ⟨by repeat (first | (with_reducible first | exact HB.out | apply below_alloc | apply pw_below_drewN | apply below_drew1) | exact HB.out)⟩⟩
            ·rw [if_neg c33] at H
             have c33b0 : (t262 == x8_1) = false := beq_eq_false_iff_ne.mpr c33
             have c33b1 : (t262 != x8_1) = true := bne_iff_ne.mpr c33
             have H' := Aside0.mk H
             clear H
             try go_wp2
             have n0_ := Aside0.mk (Kd.R_drew HO_0.out)
             have n1_ := Aside0.mk (Kd.R_drew HO_6.out)
             have n2_ := Aside0.mk (Kd.R_drew HO258.out)
             have n3_ := Aside0.mk (below_drew1 HB.out)
             clear HO_0
             clear HO_6
             clear HO258
             clear HB
             have HO_0 := n0_
             have HO_6 := n1_
             have HO258 := n2_
             have HB := n3_
             clear n0_ n1_ n2_ n3_
             refine start_ (n := 30) (S := fun w' => True) (ds := []) #[tN,tN,tN,tN,tN,tN,tN,tN,tN,tN,tN,tN,tN,tN,tN,tN,tN,tN,tN,tN,tN,tN,tN,tN,tN,tN,tN,tN,tN,tN] (by kernel_rfl) rfl rfl trivial (fun hHeld => ?_); refine with_tabW shuttlelaw01_BitsLists.tab12 shuttlelaw01_BitsLists.bits12 (fun HT_ HW_ => ?_)
             generalize w24.drew = w49 at HO_0 HO_6 HO258 HB hHeld ⊢
             refine one_ (i := 0) (N := some 48) #[tY,tN,tN,tN,tN,tN,tN,tN,tN,tN,tN,tN,tN,tN,tN,tN,tN,tN,tN,tN,tN,tN,tN,tN,tN,tN,tN,tN,tN,tN] rfl rfl (one_of HT_.out (by kernel_rfl)) (by decide) (fun K hK => ?_)
             refine goes_ Try.func29 (by kernel_rfl) rfl #[] (by rfl) rfl rfl (by (try simp only [List.map_toArray, List.map_cons, List.map_nil]); first | done | rfl | (simp only [List.length_drop, List.length_take]; rfl)) ?_
             with_reducible refine (shuttlelaw01_tells.calls k1  true _ A25.out).mono ?_
             rintro e w50 ⟨rfl, hb⟩
             refine ⟨_, rfl, ?_⟩
             have n0_ := Aside0.mk (Kd.R_below (by (with_reducible repeat (first | apply Kd.R_alloc | apply Kd.R_drewN | apply Kd.R_drew)); exact HO_0.out) hb)
             have n1_ := Aside0.mk (Kd.R_below (by (with_reducible repeat (first | apply Kd.R_alloc | apply Kd.R_drewN | apply Kd.R_drew)); exact HO_6.out) hb)
             have n2_ := Aside0.mk (Kd.R_below (by (with_reducible repeat (first | apply Kd.R_alloc | apply Kd.R_drewN | apply Kd.R_drew)); exact HO258.out) hb)
             have n3_ := Aside0.mk (below_step (by repeat (first | (with_reducible first | exact HB.out | apply below_alloc | apply pw_below_drewN | apply below_drew1) | exact HB.out)) hb)
             clear HO_0
             clear HO_6
             clear HO258
             clear HB
             have HO_0 := n0_
             have HO_6 := n1_
             have HO258 := n2_
             have HB := n3_
             clear n0_ n1_ n2_ n3_
             (try clear hb)
             (try clear hb2)
             (try clear hk)
             (try clear hi)
             refine hK.out _ _ trivial (fun hHeld => ?_)
             clear hK K
             refine norm_ (a' := ?_) ?_ ?_
             rotate_left
             ·show Act.put _ (some 48) _ = _
              simp only [Act.put, sq_a1, sq_a2, sq_a3, i64_w, i32_w]
              rfl
             refine pure_ (i := 1) (N := some 49) (v := ?_) (a' := ?_) #[tY,tY,tN,tN,tN,tN,tN,tN,tN,tN,tN,tN,tN,tN,tN,tN,tN,tN,tN,tN,tN,tN,tN,tN,tN,tN,tN,tN,tN,tN] rfl rfl (any_of HT_.out (by kernel_rfl)) (fun _ _ _ h => h) (Or.inl ⟨by rfl, ?_⟩) ?_ ?_
             rotate_left
             ·intro w'
              go_simp
              with_reducible rfl
             rotate_left
             ·simp only [Act.put, sq_a1, sq_a2, sq_a3, i64_w, i32_w]
              rfl
             refine pure_ (i := 2) (N := some 50) (v := ?_) (a' := ?_) #[tY,tY,tY,tN,tN,tN,tN,tN,tN,tN,tN,tN,tN,tN,tN,tN,tN,tN,tN,tN,tN,tN,tN,tN,tN,tN,tN,tN,tN,tN] rfl rfl (any_of HT_.out (by kernel_rfl)) (fun _ _ _ h => h) (Or.inl ⟨by rfl, ?_⟩) ?_ ?_
             rotate_left
             ·intro w'
              go_simp
              with_reducible rfl
             rotate_left
             ·simp only [Act.put, sq_a1, sq_a2, sq_a3, i64_w, i32_w]
              rfl
             refine pure_ (i := 3) (N := some 51) (v := ?_) (a' := ?_) #[tY,tY,tY,tY,tN,tN,tN,tN,tN,tN,tN,tN,tN,tN,tN,tN,tN,tN,tN,tN,tN,tN,tN,tN,tN,tN,tN,tN,tN,tN] rfl rfl (any_of HT_.out (by kernel_rfl)) (fun _ _ _ h => h) (Or.inl ⟨by rfl, ?_⟩) ?_ ?_
             rotate_left
             ·intro w'
              go_simp
              with_reducible rfl
             rotate_left
             ·simp only [Act.put, sq_a1, sq_a2, sq_a3, i64_w, i32_w]
              rfl
             refine pure_ (i := 5) (N := some 53) (v := ?_) (a' := ?_) #[tY,tY,tY,tY,tN,tY,tN,tN,tN,tN,tN,tN,tN,tN,tN,tN,tN,tN,tN,tN,tN,tN,tN,tN,tN,tN,tN,tN,tN,tN] rfl rfl (any_of HT_.out (by kernel_rfl)) (fun _ _ _ h => h) (Or.inl ⟨by rfl, ?_⟩) ?_ ?_
             rotate_left
             ·intro w'
              go_simp
              with_reducible rfl
             rotate_left
             ·simp only [Act.put, sq_a1, sq_a2, sq_a3, i64_w, i32_w]
              rfl
             refine one_ (i := 4) (N := some 52) #[tY,tY,tY,tY,tY,tY,tN,tN,tN,tN,tN,tN,tN,tN,tN,tN,tN,tN,tN,tN,tN,tN,tN,tN,tN,tN,tN,tN,tN,tN] rfl rfl (one_of HT_.out (by kernel_rfl)) (by decide) (fun K hK => ?_)
             refine goes_ Try.func33 (by kernel_rfl) rfl #[.slice Ao17 y247.length co17] (by rfl) rfl rfl (by (try simp only [List.map_toArray, List.map_cons, List.map_nil]); first | done | rfl | (simp only [List.length_drop, List.length_take]; rfl)) ?_
             with_reducible refine (bits_Right.calls k1 _ _ y247 t260 _ ?side1 ?side2 A27.out).mono ?_
             (case side1 => repeat (first | exact (Kd.R_reads' HO_0.out).2.2 | (with_reducible refine Kd.C_alloc ?_ _) | (with_reducible refine Kd.C_drewN ?_ _) | (with_reducible refine Kd.C_drew ?_)))
             (case side2 => exact (Kd.R_reads' HO_0.out).2.1)
             rintro e w' ⟨rfl, ⟨nd, rfl⟩⟩
             refine ⟨_, rfl, ?_⟩
             refine hK.out _ _ trivial (fun hHeld => ?_)
             clear hK K
             refine norm_ (a' := ?_) ?_ ?_
             rotate_left
             ·show Act.put _ (some 52) _ = _
              simp only [Act.put, sq_a1, sq_a2, sq_a3, i64_w, i32_w]
              rfl
             refine one_ (i := 6) (N := some 54) #[tY,tY,tY,tY,tY,tY,tY,tN,tN,tN,tN,tN,tN,tN,tN,tN,tN,tN,tN,tN,tN,tN,tN,tN,tN,tN,tN,tN,tN,tN] rfl rfl (one_of HT_.out (by kernel_rfl)) (by decide) (fun K hK => ?_)
             refine goes_ Try.func20 (by kernel_rfl) rfl #[.slice Ao17 y247.length co17] (by rfl) rfl rfl (by (try simp only [List.map_toArray, List.map_cons, List.map_nil]); first | done | rfl | (simp only [List.length_drop, List.length_take]; rfl)) ?_
             with_reducible refine (shuttleref01_Right.calls k1 _ _ y247 t261 _ ?side1 ?side2 A28.out).mono ?_
             (case side1 => repeat (first | exact (Kd.R_reads' HO_0.out).2.2 | (with_reducible refine Kd.C_alloc ?_ _) | (with_reducible refine Kd.C_drewN ?_ _) | (with_reducible refine Kd.C_drew ?_)))
             (case side2 => exact (Kd.R_reads' HO_0.out).2.1)
             rintro e w' ⟨rfl, ⟨nd, rfl⟩⟩
             refine ⟨_, rfl, ?_⟩
             refine hK.out _ _ trivial (fun hHeld => ?_)
             clear hK K
             refine norm_ (a' := ?_) ?_ ?_
             rotate_left
             ·show Act.put _ (some 54) _ = _
              simp only [Act.put, sq_a1, sq_a2, sq_a3, i64_w, i32_w]
              rfl
             refine pure_ (i := 7) (N := some 55) (v := ?_) (a' := ?_) #[tY,tY,tY,tY,tY,tY,tY,tY,tN,tN,tN,tN,tN,tN,tN,tN,tN,tN,tN,tN,tN,tN,tN,tN,tN,tN,tN,tN,tN,tN] rfl rfl (any_of HT_.out (by kernel_rfl)) (fun _ _ _ h => h) (Or.inl ⟨by rfl, ?_⟩) ?_ ?_
             rotate_left
             ·intro w'
              go_simp
              with_reducible rfl
             rotate_left
             ·simp only [Act.put, sq_a1, sq_a2, sq_a3, i64_w, i32_w]
              rfl
             refine pure_ (i := 8) (N := some 56) (v := ?_) (a' := ?_) #[tY,tY,tY,tY,tY,tY,tY,tY,tY,tN,tN,tN,tN,tN,tN,tN,tN,tN,tN,tN,tN,tN,tN,tN,tN,tN,tN,tN,tN,tN] rfl rfl (any_of HT_.out (by kernel_rfl)) (fun _ _ _ h => h) (Or.inl ⟨by rfl, ?_⟩) ?_ ?_
             rotate_left
             ·intro w'
              go_simp
              with_reducible rfl
             rotate_left
             ·simp only [Act.put, sq_a1, sq_a2, sq_a3, i64_w, i32_w]
              rfl
             refine pure_ (i := 9) (N := some 57) (v := ?_) (a' := ?_) #[tY,tY,tY,tY,tY,tY,tY,tY,tY,tY,tN,tN,tN,tN,tN,tN,tN,tN,tN,tN,tN,tN,tN,tN,tN,tN,tN,tN,tN,tN] rfl rfl (any_of HT_.out (by kernel_rfl)) (fun _ _ _ h => h) (Or.inl ⟨by rfl, ?_⟩) ?_ ?_
             rotate_left
             ·intro w'
              go_simp
              with_reducible rfl
             rotate_left
             ·simp only [Act.put, sq_a1, sq_a2, sq_a3, i64_w, i32_w]
              rfl
             refine pure_ (i := 10) (N := some 58) (v := ?_) (a' := ?_) #[tY,tY,tY,tY,tY,tY,tY,tY,tY,tY,tY,tN,tN,tN,tN,tN,tN,tN,tN,tN,tN,tN,tN,tN,tN,tN,tN,tN,tN,tN] rfl rfl (any_of HT_.out (by kernel_rfl)) (fun _ _ _ h => h) (Or.inl ⟨by rfl, ?_⟩) ?_ ?_
             rotate_left
             ·intro w'
              go_simp
              with_reducible rfl
             rotate_left
             ·simp only [Act.put, sq_a1, sq_a2, sq_a3, i64_w, i32_w]
              rfl
             refine pure_ (i := 12) (N := some 60) (v := ?_) (a' := ?_) #[tY,tY,tY,tY,tY,tY,tY,tY,tY,tY,tY,tN,tY,tN,tN,tN,tN,tN,tN,tN,tN,tN,tN,tN,tN,tN,tN,tN,tN,tN] rfl rfl (any_of HT_.out (by kernel_rfl)) (fun _ _ _ h => h) (Or.inl ⟨by rfl, ?_⟩) ?_ ?_
             rotate_left
             ·intro w'
              go_simp
              with_reducible rfl
             rotate_left
             ·simp only [Act.put, sq_a1, sq_a2, sq_a3, i64_w, i32_w]
              rfl
             refine one_ (i := 11) (N := some 59) #[tY,tY,tY,tY,tY,tY,tY,tY,tY,tY,tY,tY,tY,tN,tN,tN,tN,tN,tN,tN,tN,tN,tN,tN,tN,tN,tN,tN,tN,tN] rfl rfl (one_of HT_.out (by kernel_rfl)) (by decide) (fun K hK => ?_)
             refine goes_ Try.func34 (by kernel_rfl) rfl #[.slice Ao17 y247.length co17] (by rfl) rfl rfl (by (try simp only [List.map_toArray, List.map_cons, List.map_nil]); first | done | rfl | (simp only [List.length_drop, List.length_take]; rfl)) ?_
             with_reducible refine (bits_Weight.calls k1 _ _ y247 t262 _ ?side1 ?side2 A32.out).mono ?_
             (case side1 => repeat (first | exact (Kd.R_reads' HO_0.out).2.2 | (with_reducible refine Kd.C_alloc ?_ _) | (with_reducible refine Kd.C_drewN ?_ _) | (with_reducible refine Kd.C_drew ?_)))
             (case side2 => exact (Kd.R_reads' HO_0.out).2.1)
             rintro e w' ⟨rfl, ⟨nd, rfl⟩⟩
             refine ⟨_, rfl, ?_⟩
             refine hK.out _ _ trivial (fun hHeld => ?_)
             clear hK K
             refine norm_ (a' := ?_) ?_ ?_
             rotate_left
             ·show Act.put _ (some 59) _ = _
              simp only [Act.put, sq_a1, sq_a2, sq_a3, i64_w, i32_w]
              rfl
             refine pure_ (i := 13) (N := some 61) (v := ?_) (a' := ?_) #[tY,tY,tY,tY,tY,tY,tY,tY,tY,tY,tY,tY,tY,tY,tN,tN,tN,tN,tN,tN,tN,tN,tN,tN,tN,tN,tN,tN,tN,tN] rfl rfl (any_of HT_.out (by kernel_rfl)) (fun _ _ _ h => h) (Or.inl ⟨by rfl, ?_⟩) ?_ ?_
             rotate_left
             ·intro w'
              go_simp
              with_reducible rfl
             rotate_left
             ·simp only [Act.put, sq_a1, sq_a2, sq_a3, i64_w, i32_w]
              rfl
             refine pure_ (i := 14) (N := some 62) (v := ?_) (a' := ?_) #[tY,tY,tY,tY,tY,tY,tY,tY,tY,tY,tY,tY,tY,tY,tY,tN,tN,tN,tN,tN,tN,tN,tN,tN,tN,tN,tN,tN,tN,tN] rfl rfl (any_of HT_.out (by kernel_rfl)) (fun _ _ _ h => h) (Or.inl ⟨by rfl, ?_⟩) ?_ ?_
             rotate_left
             ·intro w'
              go_simp
              with_reducible rfl
             rotate_left
             ·simp only [Act.put, sq_a1, sq_a2, sq_a3, i64_w, i32_w]
              rfl
             refine pure_ (i := 15) (N := some 63) (v := ?_) (a' := ?_) #[tY,tY,tY,tY,tY,tY,tY,tY,tY,tY,tY,tY,tY,tY,tY,tY,tN,tN,tN,tN,tN,tN,tN,tN,tN,tN,tN,tN,tN,tN] rfl rfl (any_of HT_.out (by kernel_rfl)) (fun _ _ _ h => h) (Or.inl ⟨by rfl, ?_⟩) ?_ ?_
             rotate_left
             ·intro w'
              go_simp
              with_reducible rfl
             rotate_left
             ·simp only [Act.put, sq_a1, sq_a2, sq_a3, i64_w, i32_w]
              rfl
             refine pure_ (i := 16) (N := some 64) (v := undef) (a' := ?_) #[tY,tY,tY,tY,tY,tY,tY,tY,tY,tY,tY,tY,tY,tY,tY,tY,tY,tN,tN,tN,tN,tN,tN,tN,tN,tN,tN,tN,tN,tN] rfl rfl (any_of HT_.out (by kernel_rfl)) (fun _ _ _ h => h) (Or.inr ⟨by rfl, rfl⟩) ?_ ?_
             rotate_left
             ·simp only [Act.put, sq_a1, sq_a2, sq_a3, i64_w, i32_w]
              rfl
             refine pure_ (i := 17) (N := some 65) (v := undef) (a' := ?_) #[tY,tY,tY,tY,tY,tY,tY,tY,tY,tY,tY,tY,tY,tY,tY,tY,tY,tY,tN,tN,tN,tN,tN,tN,tN,tN,tN,tN,tN,tN] rfl rfl (any_of HT_.out (by kernel_rfl)) (fun _ _ _ h => h) (Or.inr ⟨by rfl, rfl⟩) ?_ ?_
             rotate_left
             ·simp only [Act.put, sq_a1, sq_a2, sq_a3, i64_w, i32_w]
              rfl
             refine pure_ (i := 18) (N := some 66) (v := undef) (a' := ?_) #[tY,tY,tY,tY,tY,tY,tY,tY,tY,tY,tY,tY,tY,tY,tY,tY,tY,tY,tY,tN,tN,tN,tN,tN,tN,tN,tN,tN,tN,tN] rfl rfl (any_of HT_.out (by kernel_rfl)) (fun _ _ _ h => h) (Or.inr ⟨by rfl, rfl⟩) ?_ ?_
             rotate_left
             ·simp only [Act.put, sq_a1, sq_a2, sq_a3, i64_w, i32_w]
              rfl
             refine pure_ (i := 19) (N := some 67) (v := undef) (a' := ?_) #[tY,tY,tY,tY,tY,tY,tY,tY,tY,tY,tY,tY,tY,tY,tY,tY,tY,tY,tY,tY,tN,tN,tN,tN,tN,tN,tN,tN,tN,tN] rfl rfl (any_of HT_.out (by kernel_rfl)) (fun _ _ _ h => h) (Or.inr ⟨by rfl, rfl⟩) ?_ ?_
             rotate_left
             ·simp only [Act.put, sq_a1, sq_a2, sq_a3, i64_w, i32_w]
              rfl
             refine pure_ (i := 20) (N := some 68) (v := undef) (a' := ?_) #[tY,tY,tY,tY,tY,tY,tY,tY,tY,tY,tY,tY,tY,tY,tY,tY,tY,tY,tY,tY,tY,tN,tN,tN,tN,tN,tN,tN,tN,tN] rfl rfl (any_of HT_.out (by kernel_rfl)) (fun _ _ _ h => h) (Or.inr ⟨by rfl, rfl⟩) ?_ ?_
             rotate_left
             ·simp only [Act.put, sq_a1, sq_a2, sq_a3, i64_w, i32_w]
              rfl
             refine pure_ (i := 21) (N := some 69) (v := undef) (a' := ?_) #[tY,tY,tY,tY,tY,tY,tY,tY,tY,tY,tY,tY,tY,tY,tY,tY,tY,tY,tY,tY,tY,tY,tN,tN,tN,tN,tN,tN,tN,tN] rfl rfl (any_of HT_.out (by kernel_rfl)) (fun _ _ _ h => h) (Or.inr ⟨by rfl, rfl⟩) ?_ ?_
             rotate_left
             ·simp only [Act.put, sq_a1, sq_a2, sq_a3, i64_w, i32_w]
              rfl
             refine pure_ (i := 22) (N := some 70) (v := undef) (a' := ?_) #[tY,tY,tY,tY,tY,tY,tY,tY,tY,tY,tY,tY,tY,tY,tY,tY,tY,tY,tY,tY,tY,tY,tY,tN,tN,tN,tN,tN,tN,tN] rfl rfl (any_of HT_.out (by kernel_rfl)) (fun _ _ _ h => h) (Or.inr ⟨by rfl, rfl⟩) ?_ ?_
             rotate_left
             ·simp only [Act.put, sq_a1, sq_a2, sq_a3, i64_w, i32_w]
              rfl
             refine pure_ (i := 23) (N := some 71) (v := ?_) (a' := ?_) #[tY,tY,tY,tY,tY,tY,tY,tY,tY,tY,tY,tY,tY,tY,tY,tY,tY,tY,tY,tY,tY,tY,tY,tY,tN,tN,tN,tN,tN,tN] rfl rfl (any_of HT_.out (by kernel_rfl)) (fun _ _ _ h => h) (Or.inl ⟨by rfl, ?_⟩) ?_ ?_
             rotate_left
             ·intro w'
              go_simp
              with_reducible rfl
             rotate_left
             ·simp only [Act.put, sq_a1, sq_a2, sq_a3, i64_w, i32_w]
              rfl
             refine pure_ (i := 24) (N := some 72) (v := ?_) (a' := ?_) #[tY,tY,tY,tY,tY,tY,tY,tY,tY,tY,tY,tY,tY,tY,tY,tY,tY,tY,tY,tY,tY,tY,tY,tY,tY,tN,tN,tN,tN,tN] rfl rfl (any_of HT_.out (by kernel_rfl)) (fun _ _ _ h => h) (Or.inl ⟨by rfl, ?_⟩) ?_ ?_
             rotate_left
             ·intro w'
              go_simp
              with_reducible rfl
             rotate_left
             ·simp only [Act.put, sq_a1, sq_a2, sq_a3, i64_w, i32_w]
              rfl
             refine pure_ (i := 25) (N := some 73) (v := undef) (a' := ?_) #[tY,tY,tY,tY,tY,tY,tY,tY,tY,tY,tY,tY,tY,tY,tY,tY,tY,tY,tY,tY,tY,tY,tY,tY,tY,tY,tN,tN,tN,tN] rfl rfl (any_of HT_.out (by kernel_rfl)) (fun _ _ _ h => h) (Or.inr ⟨by rfl, rfl⟩) ?_ ?_
             rotate_left
             ·simp only [Act.put, sq_a1, sq_a2, sq_a3, i64_w, i32_w]
              rfl
             refine pure_ (i := 26) (N := some 74) (v := undef) (a' := ?_) #[tY,tY,tY,tY,tY,tY,tY,tY,tY,tY,tY,tY,tY,tY,tY,tY,tY,tY,tY,tY,tY,tY,tY,tY,tY,tY,tY,tN,tN,tN] rfl rfl (any_of HT_.out (by kernel_rfl)) (fun _ _ _ h => h) (Or.inr ⟨by rfl, rfl⟩) ?_ ?_
             rotate_left
             ·simp only [Act.put, sq_a1, sq_a2, sq_a3, i64_w, i32_w]
              rfl
             refine pure_ (i := 27) (N := some 75) (v := undef) (a' := ?_) #[tY,tY,tY,tY,tY,tY,tY,tY,tY,tY,tY,tY,tY,tY,tY,tY,tY,tY,tY,tY,tY,tY,tY,tY,tY,tY,tY,tY,tN,tN] rfl rfl (any_of HT_.out (by kernel_rfl)) (fun _ _ _ h => h) (Or.inr ⟨by rfl, rfl⟩) ?_ ?_
             rotate_left
             ·simp only [Act.put, sq_a1, sq_a2, sq_a3, i64_w, i32_w]
              rfl
             refine pure_ (i := 28) (N := some 76) (v := undef) (a' := ?_) #[tY,tY,tY,tY,tY,tY,tY,tY,tY,tY,tY,tY,tY,tY,tY,tY,tY,tY,tY,tY,tY,tY,tY,tY,tY,tY,tY,tY,tY,tN] rfl rfl (any_of HT_.out (by kernel_rfl)) (fun _ _ _ h => h) (Or.inr ⟨by rfl, rfl⟩) ?_ ?_
             rotate_left
             ·simp only [Act.put, sq_a1, sq_a2, sq_a3, i64_w, i32_w]
              rfl
             refine pure_ (i := 29) (N := some 77) (v := ?_) (a' := ?_) #[tY,tY,tY,tY,tY,tY,tY,tY,tY,tY,tY,tY,tY,tY,tY,tY,tY,tY,tY,tY,tY,tY,tY,tY,tY,tY,tY,tY,tY,tY] rfl rfl (any_of HT_.out (by kernel_rfl)) (fun _ _ _ h => h) (Or.inl ⟨by rfl, ?_⟩) ?_ ?_
             rotate_left
             ·intro w'
              go_simp
              with_reducible rfl
             rotate_left
             ·simp only [Act.put, sq_a1, sq_a2, sq_a3, i64_w, i32_w]
              rfl
             refine done_ (done_of HT_.out (by kernel_rfl)) ?_
             try go_wp2
             go_meet
             case rel => exact ⟨_, (true), (by first | rfl | (simp; done) | (simp [*]; done)), H', ⟨by have := HK1.out; first | omega | exact Nat.le_refl _⟩, ⟨by (with_reducible repeat (first | apply Kd.R_alloc | apply Kd.R_drewN | apply Kd.R_drew)); exact HO_0.out⟩, ⟨by (with_reducible repeat (first | apply Kd.R_alloc | apply Kd.R_drewN | apply Kd.R_drew)); exact HO_6.out⟩, ⟨by (with_reducible repeat (first | apply Kd.R_alloc | apply Kd.R_drewN | apply Kd.R_drew)); exact Kd.R_mono HO258.out (fun _ hk => by first | exact ⟨hk.1.2, hk.2⟩ | (simp [hk]; done))⟩, ⟨by repeat (first | (with_reducible first | exact HB.out | apply below_alloc | apply pw_below_drewN | apply below_drew1) | exact HB.out)⟩⟩
          ·replace c26 := Bool.eq_false_iff.mpr c26
           subst c26
           have H1 : (shuttlelaw01_BitsLists.j1 k1 y247 t251 t252 t256 true) = some r := by rw [if_neg (show ¬ (false = true) by decide)] at H; exact H
           clear H
           have H := H1
           clear H1
           have H' := Aside0.mk H
           clear H
           try go_wp2
           have n0_ := Aside0.mk (Kd.R_drew HO_0.out)
           have n1_ := Aside0.mk (Kd.R_drew HO_6.out)
           have n2_ := Aside0.mk (Kd.R_drew HO258.out)
           have n3_ := Aside0.mk (below_drew1 HB.out)
           clear HO_0
           clear HO_6
           clear HO258
           clear HB
           have HO_0 := n0_
           have HO_6 := n1_
           have HO258 := n2_
           have HB := n3_
           clear n0_ n1_ n2_ n3_
           refine start_ (n := 30) (S := fun w' => True) (ds := []) #[tN,tN,tN,tN,tN,tN,tN,tN,tN,tN,tN,tN,tN,tN,tN,tN,tN,tN,tN,tN,tN,tN,tN,tN,tN,tN,tN,tN,tN,tN] (by kernel_rfl) rfl rfl trivial (fun hHeld => ?_); refine with_tabW shuttlelaw01_BitsLists.tab12 shuttlelaw01_BitsLists.bits12 (fun HT_ HW_ => ?_)
           generalize w24.drew = w51 at HO_0 HO_6 HO258 HB hHeld ⊢
           refine one_ (i := 0) (N := some 48) #[tY,tN,tN,tN,tN,tN,tN,tN,tN,tN,tN,tN,tN,tN,tN,tN,tN,tN,tN,tN,tN,tN,tN,tN,tN,tN,tN,tN,tN,tN] rfl rfl (one_of HT_.out (by kernel_rfl)) (by decide) (fun K hK => ?_)
           refine goes_ Try.func29 (by kernel_rfl) rfl #[] (by rfl) rfl rfl (by (try simp only [List.map_toArray, List.map_cons, List.map_nil]); first | done | rfl | (simp only [List.length_drop, List.length_take]; rfl)) ?_
           with_reducible refine (shuttlelaw01_tells.calls k1  false _ A25.out).mono ?_
           rintro e w52 ⟨rfl, hb⟩
           refine ⟨_, rfl, ?_⟩
           have n0_ := Aside0.mk (Kd.R_below (by (with_reducible repeat (first | apply Kd.R_alloc | apply Kd.R_drewN | apply Kd.R_drew)); exact HO_0.out) hb)
           have n1_ := Aside0.mk (Kd.R_below (by (with_reducible repeat (first | apply Kd.R_alloc | apply Kd.R_drewN | apply Kd.R_drew)); exact HO_6.out) hb)
           have n2_ := Aside0.mk (Kd.R_below (by (with_reducible repeat (first | apply Kd.R_alloc | apply Kd.R_drewN | apply Kd.R_drew)); exact HO258.out) hb)
           have n3_ := Aside0.mk (below_step (by repeat (first | (with_reducible first | exact HB.out | apply below_alloc | apply pw_below_drewN | apply below_drew1) | exact HB.out)) hb)
           clear HO_0
           clear HO_6
           clear HO258
           clear HB
           have HO_0 := n0_
           have HO_6 := n1_
           have HO258 := n2_
           have HB := n3_
           clear n0_ n1_ n2_ n3_
           (try clear hb)
           (try clear hb2)
           (try clear hk)
           (try clear hi)
           refine hK.out _ _ trivial (fun hHeld => ?_)
           clear hK K
           refine norm_ (a' := ?_) ?_ ?_
           rotate_left
           ·show Act.put _ (some 48) _ = _
            simp only [Act.put, sq_a1, sq_a2, sq_a3, i64_w, i32_w]
            rfl
           refine pure_ (i := 1) (N := some 49) (v := ?_) (a' := ?_) #[tY,tY,tN,tN,tN,tN,tN,tN,tN,tN,tN,tN,tN,tN,tN,tN,tN,tN,tN,tN,tN,tN,tN,tN,tN,tN,tN,tN,tN,tN] rfl rfl (any_of HT_.out (by kernel_rfl)) (fun _ _ _ h => h) (Or.inl ⟨by rfl, ?_⟩) ?_ ?_
           rotate_left
           ·intro w'
            go_simp
            with_reducible rfl
           rotate_left
           ·simp only [Act.put, sq_a1, sq_a2, sq_a3, i64_w, i32_w]
            rfl
           refine pure_ (i := 2) (N := some 50) (v := ?_) (a' := ?_) #[tY,tY,tY,tN,tN,tN,tN,tN,tN,tN,tN,tN,tN,tN,tN,tN,tN,tN,tN,tN,tN,tN,tN,tN,tN,tN,tN,tN,tN,tN] rfl rfl (any_of HT_.out (by kernel_rfl)) (fun _ _ _ h => h) (Or.inl ⟨by rfl, ?_⟩) ?_ ?_
           rotate_left
           ·intro w'
            go_simp
            with_reducible rfl
           rotate_left
           ·simp only [Act.put, sq_a1, sq_a2, sq_a3, i64_w, i32_w]
            rfl
           refine pure_ (i := 3) (N := some 51) (v := undef) (a' := ?_) #[tY,tY,tY,tY,tN,tN,tN,tN,tN,tN,tN,tN,tN,tN,tN,tN,tN,tN,tN,tN,tN,tN,tN,tN,tN,tN,tN,tN,tN,tN] rfl rfl (any_of HT_.out (by kernel_rfl)) (fun _ _ _ h => h) (Or.inr ⟨by rfl, rfl⟩) ?_ ?_
           rotate_left
           ·simp only [Act.put, sq_a1, sq_a2, sq_a3, i64_w, i32_w]
            rfl
           refine pure_ (i := 4) (N := some 52) (v := undef) (a' := ?_) #[tY,tY,tY,tY,tY,tN,tN,tN,tN,tN,tN,tN,tN,tN,tN,tN,tN,tN,tN,tN,tN,tN,tN,tN,tN,tN,tN,tN,tN,tN] rfl rfl (any_of HT_.out (by kernel_rfl)) (fun _ _ _ h => h) (Or.inr ⟨by rfl, rfl⟩) ?_ ?_
           rotate_left
           ·simp only [Act.put, sq_a1, sq_a2, sq_a3, i64_w, i32_w]
            rfl
           refine pure_ (i := 5) (N := some 53) (v := undef) (a' := ?_) #[tY,tY,tY,tY,tY,tY,tN,tN,tN,tN,tN,tN,tN,tN,tN,tN,tN,tN,tN,tN,tN,tN,tN,tN,tN,tN,tN,tN,tN,tN] rfl rfl (any_of HT_.out (by kernel_rfl)) (fun _ _ _ h => h) (Or.inr ⟨by rfl, rfl⟩) ?_ ?_
           rotate_left
           ·simp only [Act.put, sq_a1, sq_a2, sq_a3, i64_w, i32_w]
            rfl
           refine pure_ (i := 6) (N := some 54) (v := undef) (a' := ?_) #[tY,tY,tY,tY,tY,tY,tY,tN,tN,tN,tN,tN,tN,tN,tN,tN,tN,tN,tN,tN,tN,tN,tN,tN,tN,tN,tN,tN,tN,tN] rfl rfl (any_of HT_.out (by kernel_rfl)) (fun _ _ _ h => h) (Or.inr ⟨by rfl, rfl⟩) ?_ ?_
           rotate_left
           ·simp only [Act.put, sq_a1, sq_a2, sq_a3, i64_w, i32_w]
            rfl
           refine pure_ (i := 7) (N := some 55) (v := undef) (a' := ?_) #[tY,tY,tY,tY,tY,tY,tY,tY,tN,tN,tN,tN,tN,tN,tN,tN,tN,tN,tN,tN,tN,tN,tN,tN,tN,tN,tN,tN,tN,tN] rfl rfl (any_of HT_.out (by kernel_rfl)) (fun _ _ _ h => h) (Or.inr ⟨by rfl, rfl⟩) ?_ ?_
           rotate_left
           ·simp only [Act.put, sq_a1, sq_a2, sq_a3, i64_w, i32_w]
            rfl
           refine pure_ (i := 8) (N := some 56) (v := ?_) (a' := ?_) #[tY,tY,tY,tY,tY,tY,tY,tY,tY,tN,tN,tN,tN,tN,tN,tN,tN,tN,tN,tN,tN,tN,tN,tN,tN,tN,tN,tN,tN,tN] rfl rfl (any_of HT_.out (by kernel_rfl)) (fun _ _ _ h => h) (Or.inl ⟨by rfl, ?_⟩) ?_ ?_
           rotate_left
           ·intro w'
            go_simp
            with_reducible rfl
           rotate_left
           ·simp only [Act.put, sq_a1, sq_a2, sq_a3, i64_w, i32_w]
            rfl
           refine pure_ (i := 9) (N := some 57) (v := ?_) (a' := ?_) #[tY,tY,tY,tY,tY,tY,tY,tY,tY,tY,tN,tN,tN,tN,tN,tN,tN,tN,tN,tN,tN,tN,tN,tN,tN,tN,tN,tN,tN,tN] rfl rfl (any_of HT_.out (by kernel_rfl)) (fun _ _ _ h => h) (Or.inl ⟨by rfl, ?_⟩) ?_ ?_
           rotate_left
           ·intro w'
            go_simp
            with_reducible rfl
           rotate_left
           ·simp only [Act.put, sq_a1, sq_a2, sq_a3, i64_w, i32_w]
            rfl
           refine pure_ (i := 10) (N := some 58) (v := undef) (a' := ?_) #[tY,tY,tY,tY,tY,tY,tY,tY,tY,tY,tY,tN,tN,tN,tN,tN,tN,tN,tN,tN,tN,tN,tN,tN,tN,tN,tN,tN,tN,tN] rfl rfl (any_of HT_.out (by kernel_rfl)) (fun _ _ _ h => h) (Or.inr ⟨by rfl, rfl⟩) ?_ ?_
           rotate_left
           ·simp only [Act.put, sq_a1, sq_a2, sq_a3, i64_w, i32_w]
            rfl
           refine pure_ (i := 11) (N := some 59) (v := undef) (a' := ?_) #[tY,tY,tY,tY,tY,tY,tY,tY,tY,tY,tY,tY,tN,tN,tN,tN,tN,tN,tN,tN,tN,tN,tN,tN,tN,tN,tN,tN,tN,tN] rfl rfl (any_of HT_.out (by kernel_rfl)) (fun _ _ _ h => h) (Or.inr ⟨by rfl, rfl⟩) ?_ ?_
           rotate_left
           ·simp only [Act.put, sq_a1, sq_a2, sq_a3, i64_w, i32_w]
            rfl
           refine pure_ (i := 12) (N := some 60) (v := undef) (a' := ?_) #[tY,tY,tY,tY,tY,tY,tY,tY,tY,tY,tY,tY,tY,tN,tN,tN,tN,tN,tN,tN,tN,tN,tN,tN,tN,tN,tN,tN,tN,tN] rfl rfl (any_of HT_.out (by kernel_rfl)) (fun _ _ _ h => h) (Or.inr ⟨by rfl, rfl⟩) ?_ ?_
           rotate_left
           ·simp only [Act.put, sq_a1, sq_a2, sq_a3, i64_w, i32_w]
            rfl
           refine pure_ (i := 13) (N := some 61) (v := undef) (a' := ?_) #[tY,tY,tY,tY,tY,tY,tY,tY,tY,tY,tY,tY,tY,tY,tN,tN,tN,tN,tN,tN,tN,tN,tN,tN,tN,tN,tN,tN,tN,tN] rfl rfl (any_of HT_.out (by kernel_rfl)) (fun _ _ _ h => h) (Or.inr ⟨by rfl, rfl⟩) ?_ ?_
           rotate_left
           ·simp only [Act.put, sq_a1, sq_a2, sq_a3, i64_w, i32_w]
            rfl
           refine pure_ (i := 14) (N := some 62) (v := ?_) (a' := ?_) #[tY,tY,tY,tY,tY,tY,tY,tY,tY,tY,tY,tY,tY,tY,tY,tN,tN,tN,tN,tN,tN,tN,tN,tN,tN,tN,tN,tN,tN,tN] rfl rfl (any_of HT_.out (by kernel_rfl)) (fun _ _ _ h => h) (Or.inl ⟨by rfl, ?_⟩) ?_ ?_
           rotate_left
           ·intro w'
            go_simp
            with_reducible rfl
           rotate_left
           ·simp only [Act.put, sq_a1, sq_a2, sq_a3, i64_w, i32_w]
            rfl
           refine pure_ (i := 15) (N := some 63) (v := ?_) (a' := ?_) #[tY,tY,tY,tY,tY,tY,tY,tY,tY,tY,tY,tY,tY,tY,tY,tY,tN,tN,tN,tN,tN,tN,tN,tN,tN,tN,tN,tN,tN,tN] rfl rfl (any_of HT_.out (by kernel_rfl)) (fun _ _ _ h => h) (Or.inl ⟨by rfl, ?_⟩) ?_ ?_
           rotate_left
           ·intro w'
            go_simp
            with_reducible rfl
           rotate_left
           ·simp only [Act.put, sq_a1, sq_a2, sq_a3, i64_w, i32_w]
            rfl
           refine pure_ (i := 16) (N := some 64) (v := undef) (a' := ?_) #[tY,tY,tY,tY,tY,tY,tY,tY,tY,tY,tY,tY,tY,tY,tY,tY,tY,tN,tN,tN,tN,tN,tN,tN,tN,tN,tN,tN,tN,tN] rfl rfl (any_of HT_.out (by kernel_rfl)) (fun _ _ _ h => h) (Or.inr ⟨by rfl, rfl⟩) ?_ ?_
           rotate_left
           ·simp only [Act.put, sq_a1, sq_a2, sq_a3, i64_w, i32_w]
            rfl
           refine pure_ (i := 17) (N := some 65) (v := undef) (a' := ?_) #[tY,tY,tY,tY,tY,tY,tY,tY,tY,tY,tY,tY,tY,tY,tY,tY,tY,tY,tN,tN,tN,tN,tN,tN,tN,tN,tN,tN,tN,tN] rfl rfl (any_of HT_.out (by kernel_rfl)) (fun _ _ _ h => h) (Or.inr ⟨by rfl, rfl⟩) ?_ ?_
           rotate_left
           ·simp only [Act.put, sq_a1, sq_a2, sq_a3, i64_w, i32_w]
            rfl
           refine pure_ (i := 18) (N := some 66) (v := undef) (a' := ?_) #[tY,tY,tY,tY,tY,tY,tY,tY,tY,tY,tY,tY,tY,tY,tY,tY,tY,tY,tY,tN,tN,tN,tN,tN,tN,tN,tN,tN,tN,tN] rfl rfl (any_of HT_.out (by kernel_rfl)) (fun _ _ _ h => h) (Or.inr ⟨by rfl, rfl⟩) ?_ ?_
           rotate_left
           ·simp only [Act.put, sq_a1, sq_a2, sq_a3, i64_w, i32_w]
            rfl
           refine pure_ (i := 19) (N := some 67) (v := undef) (a' := ?_) #[tY,tY,tY,tY,tY,tY,tY,tY,tY,tY,tY,tY,tY,tY,tY,tY,tY,tY,tY,tY,tN,tN,tN,tN,tN,tN,tN,tN,tN,tN] rfl rfl (any_of HT_.out (by kernel_rfl)) (fun _ _ _ h => h) (Or.inr ⟨by rfl, rfl⟩) ?_ ?_
           rotate_left
           ·simp only [Act.put, sq_a1, sq_a2, sq_a3, i64_w, i32_w]
            rfl
           refine pure_ (i := 20) (N := some 68) (v := undef) (a' := ?_) #[tY,tY,tY,tY,tY,tY,tY,tY,tY,tY,tY,tY,tY,tY,tY,tY,tY,tY,tY,tY,tY,tN,tN,tN,tN,tN,tN,tN,tN,tN] rfl rfl (any_of HT_.out (by kernel_rfl)) (fun _ _ _ h => h) (Or.inr ⟨by rfl, rfl⟩) ?_ ?_
           rotate_left
           ·simp only [Act.put, sq_a1, sq_a2, sq_a3, i64_w, i32_w]
            rfl
           refine pure_ (i := 21) (N := some 69) (v := undef) (a' := ?_) #[tY,tY,tY,tY,tY,tY,tY,tY,tY,tY,tY,tY,tY,tY,tY,tY,tY,tY,tY,tY,tY,tY,tN,tN,tN,tN,tN,tN,tN,tN] rfl rfl (any_of HT_.out (by kernel_rfl)) (fun _ _ _ h => h) (Or.inr ⟨by rfl, rfl⟩) ?_ ?_
           rotate_left
           ·simp only [Act.put, sq_a1, sq_a2, sq_a3, i64_w, i32_w]
            rfl
           refine pure_ (i := 22) (N := some 70) (v := undef) (a' := ?_) #[tY,tY,tY,tY,tY,tY,tY,tY,tY,tY,tY,tY,tY,tY,tY,tY,tY,tY,tY,tY,tY,tY,tY,tN,tN,tN,tN,tN,tN,tN] rfl rfl (any_of HT_.out (by kernel_rfl)) (fun _ _ _ h => h) (Or.inr ⟨by rfl, rfl⟩) ?_ ?_
           rotate_left
           ·simp only [Act.put, sq_a1, sq_a2, sq_a3, i64_w, i32_w]
            rfl
           refine pure_ (i := 23) (N := some 71) (v := ?_) (a' := ?_) #[tY,tY,tY,tY,tY,tY,tY,tY,tY,tY,tY,tY,tY,tY,tY,tY,tY,tY,tY,tY,tY,tY,tY,tY,tN,tN,tN,tN,tN,tN] rfl rfl (any_of HT_.out (by kernel_rfl)) (fun _ _ _ h => h) (Or.inl ⟨by rfl, ?_⟩) ?_ ?_
           rotate_left
           ·intro w'
            go_simp
            with_reducible rfl
           rotate_left
           ·simp only [Act.put, sq_a1, sq_a2, sq_a3, i64_w, i32_w]
            rfl
           refine pure_ (i := 24) (N := some 72) (v := ?_) (a' := ?_) #[tY,tY,tY,tY,tY,tY,tY,tY,tY,tY,tY,tY,tY,tY,tY,tY,tY,tY,tY,tY,tY,tY,tY,tY,tY,tN,tN,tN,tN,tN] rfl rfl (any_of HT_.out (by kernel_rfl)) (fun _ _ _ h => h) (Or.inl ⟨by rfl, ?_⟩) ?_ ?_
           rotate_left
           ·intro w'
            go_simp
            with_reducible rfl
           rotate_left
           ·simp only [Act.put, sq_a1, sq_a2, sq_a3, i64_w, i32_w]
            rfl
           refine pure_ (i := 25) (N := some 73) (v := undef) (a' := ?_) #[tY,tY,tY,tY,tY,tY,tY,tY,tY,tY,tY,tY,tY,tY,tY,tY,tY,tY,tY,tY,tY,tY,tY,tY,tY,tY,tN,tN,tN,tN] rfl rfl (any_of HT_.out (by kernel_rfl)) (fun _ _ _ h => h) (Or.inr ⟨by rfl, rfl⟩) ?_ ?_
           rotate_left
           ·simp only [Act.put, sq_a1, sq_a2, sq_a3, i64_w, i32_w]
            rfl
           refine pure_ (i := 26) (N := some 74) (v := undef) (a' := ?_) #[tY,tY,tY,tY,tY,tY,tY,tY,tY,tY,tY,tY,tY,tY,tY,tY,tY,tY,tY,tY,tY,tY,tY,tY,tY,tY,tY,tN,tN,tN] rfl rfl (any_of HT_.out (by kernel_rfl)) (fun _ _ _ h => h) (Or.inr ⟨by rfl, rfl⟩) ?_ ?_
           rotate_left
           ·simp only [Act.put, sq_a1, sq_a2, sq_a3, i64_w, i32_w]
            rfl
           refine pure_ (i := 27) (N := some 75) (v := undef) (a' := ?_) #[tY,tY,tY,tY,tY,tY,tY,tY,tY,tY,tY,tY,tY,tY,tY,tY,tY,tY,tY,tY,tY,tY,tY,tY,tY,tY,tY,tY,tN,tN] rfl rfl (any_of HT_.out (by kernel_rfl)) (fun _ _ _ h => h) (Or.inr ⟨by rfl, rfl⟩) ?_ ?_
           rotate_left
           ·simp only [Act.put, sq_a1, sq_a2, sq_a3, i64_w, i32_w]
            rfl
           refine pure_ (i := 28) (N := some 76) (v := undef) (a' := ?_) #[tY,tY,tY,tY,tY,tY,tY,tY,tY,tY,tY,tY,tY,tY,tY,tY,tY,tY,tY,tY,tY,tY,tY,tY,tY,tY,tY,tY,tY,tN] rfl rfl (any_of HT_.out (by kernel_rfl)) (fun _ _ _ h => h) (Or.inr ⟨by rfl, rfl⟩) ?_ ?_
           rotate_left
           ·simp only [Act.put, sq_a1, sq_a2, sq_a3, i64_w, i32_w]
            rfl
           refine pure_ (i := 29) (N := some 77) (v := ?_) (a' := ?_) #[tY,tY,tY,tY,tY,tY,tY,tY,tY,tY,tY,tY,tY,tY,tY,tY,tY,tY,tY,tY,tY,tY,tY,tY,tY,tY,tY,tY,tY,tY] rfl rfl (any_of HT_.out (by kernel_rfl)) (fun _ _ _ h => h) (Or.inl ⟨by rfl, ?_⟩) ?_ ?_
           rotate_left
           ·intro w'
            go_simp
            with_reducible rfl
           rotate_left
           ·simp only [Act.put, sq_a1, sq_a2, sq_a3, i64_w, i32_w]
            rfl
           refine done_ (done_of HT_.out (by kernel_rfl)) ?_
           try go_wp2
           go_meet
           case rel => exact ⟨_, (true), (by first | rfl | (simp; done) | (simp [*]; done)), H', ⟨by have := HK1.out; first | omega | exact Nat.le_refl _⟩, ⟨by (with_reducible repeat (first | apply Kd.R_alloc | apply Kd.R_drewN | apply Kd.R_drew)); exact HO_0.out⟩, ⟨by (with_reducible repeat (first | apply Kd.R_alloc | apply Kd.R_drewN | apply Kd.R_drew)); exact HO_6.out⟩, ⟨by (with_reducible repeat (first | apply Kd.R_alloc | apply Kd.R_drewN | apply Kd.R_drew)); exact Kd.R_mono HO258.out (fun _ hk => by first | exact ⟨hk.1.2, hk.2⟩ | (simp [hk]; done))⟩, ⟨by repeat (first | (with_reducible first | exact HB.out | apply below_alloc | apply pw_below_drewN | apply below_drew1) | exact HB.out)⟩⟩
         case rest =>
          clear HC23
          try clear c2
          try clear p2
          try clear c3
          try clear hcv4
          try clear c20
          try clear c26
          try clear c29
          try clear c33
          try clear c33b0
          try clear c33b1
          try clear c34
          try clear hcv46
          try clear hcv47
          obtain ⟨kq, x77_22, rfl, HA, HJ22, HO_0, HO_6, HO_10, HB⟩ := hcut
          cases kq with
          | zero => exact absurd HA.out (by simp [shuttlelaw01_BitsLists.j1])
          | succ kj22 =>
           have H := HA.out
           clear HA
           simp only [shuttlelaw01_BitsLists.j1] at H
           by_cases c53 : x77_22 = true
           ·subst c53
            have H1 : (some false) = some r := by rw [if_pos rfl] at H; exact H
            clear H
            have H := H1
            clear H1
            obtain rfl := Option.some.inj H
            go_wp2
            go_ret
            exact ⟨by first | rfl | (simp [errW_none, errW_some] <;> rfl) | (simp only [← hji3, ← hji7]; first | rfl | (simp [errW_none, errW_some] <;> rfl)) | (simp [*, errW_none, errW_some] <;> rfl), by repeat (first | (with_reducible first | exact HB.out | apply below_alloc | apply pw_below_drewN | apply below_drew1) | exact HB.out)⟩
           ·replace c53 := Bool.eq_false_iff.mpr c53
            subst c53
            have H1 : ((bits_Apart.f kj22 y247 t256).bind fun bt266 => ((shuttleref01_Right.f kj22 y247).bind fun t268 => (if t268 = true then (if t252 = 0 then ((shuttleref01_Bytes.f kj22 y247).bind fun t269 => (if (strOfNums t251).toList = (strOfNums t269).toList then (if bt266.2 = true then ((shuttleref01_Apart.f kj22 y247 t256).bind fun t272 => (some (bt266.1 == t272))) else (some false)) else (some false))) else (some false)) else (if t252 = 5 then (if (t251.length : Int) = 0 then (some bt266.2) else (some false)) else (some false))))) = some r := by rw [if_neg (show ¬ (false = true) by decide)] at H; exact H
            clear H
            have H := H1
            clear H1
            replace H := Option.bind_eq_some_iff.mp H
            obtain ⟨⟨t266, t267⟩, A540, H⟩ := H
            replace H : ((shuttleref01_Right.f kj22 y247).bind fun t268 => (if t268 = true then (if t252 = 0 then ((shuttleref01_Bytes.f kj22 y247).bind fun t269 => (if (strOfNums t251).toList = (strOfNums t269).toList then (if t267 = true then ((shuttleref01_Apart.f kj22 y247 t256).bind fun t272 => (some (t266 == t272))) else (some false)) else (some false))) else (some false)) else (if t252 = 5 then (if (t251.length : Int) = 0 then (some t267) else (some false)) else (some false)))) = some r := H
            have A54 := Aside0.mk A540
            clear A540
            replace H := Option.bind_eq_some_iff.mp H
            obtain ⟨t268, A550, H⟩ := H
            replace H : (if t268 = true then (if t252 = 0 then ((shuttleref01_Bytes.f kj22 y247).bind fun t269 => (if (strOfNums t251).toList = (strOfNums t269).toList then (if t267 = true then ((shuttleref01_Apart.f kj22 y247 t256).bind fun t272 => (some (t266 == t272))) else (some false)) else (some false))) else (some false)) else (if t252 = 5 then (if (t251.length : Int) = 0 then (some t267) else (some false)) else (some false))) = some r := H
            have A55 := Aside0.mk A550
            clear A550
            by_cases c56 : t268 = true
            ·subst c56
             have H1 : (if t252 = 0 then ((shuttleref01_Bytes.f kj22 y247).bind fun t269 => (if (strOfNums t251).toList = (strOfNums t269).toList then (if t267 = true then ((shuttleref01_Apart.f kj22 y247 t256).bind fun t272 => (some (t266 == t272))) else (some false)) else (some false))) else (some false)) = some r := by rw [if_pos rfl] at H; exact H
             clear H
             have H := H1
             clear H1
             by_cases c57 : t252 = 0
             ·rw [if_pos c57] at H
              have c57b0 : (t252 == 0) = true := beq_iff_eq.mpr c57
              have c57b1 : (t252 != 0) = false := bne_eq_false_iff_eq.mpr c57
              clear c57
              replace H := Option.bind_eq_some_iff.mp H
              obtain ⟨t269, A580, H⟩ := H
              replace H : (if (strOfNums t251).toList = (strOfNums t269).toList then (if t267 = true then ((shuttleref01_Apart.f kj22 y247 t256).bind fun t272 => (some (t266 == t272))) else (some false)) else (some false)) = some r := H
              have A58 := Aside0.mk A580
              clear A580
              by_cases c59 : (strOfNums t251).toList = (strOfNums t269).toList
              ·rw [if_pos c59] at H
               have c59b0 : ((strOfNums t251).toList == (strOfNums t269).toList) = true := beq_iff_eq.mpr c59
               have c59b1 : ((strOfNums t251).toList != (strOfNums t269).toList) = false := bne_eq_false_iff_eq.mpr c59
               clear c59
               by_cases c60 : t267 = true
               ·subst c60
                have H1 : ((shuttleref01_Apart.f kj22 y247 t256).bind fun t272 => (some (t266 == t272))) = some r := by rw [if_pos rfl] at H; exact H
                clear H
                have H := H1
                clear H1
                replace H := Option.bind_eq_some_iff.mp H
                obtain ⟨t272, A610, H⟩ := H
                replace H : (some (t266 == t272)) = some r := H
                have A61 := Aside0.mk A610
                clear A610
                obtain rfl := Option.some.inj H
                obtain ⟨Ao62, co62, eo62⟩ := Kd.R_slice HO_10.out
                subst eo62
                try go_wp2_with (first | ((with_reducible refine gate_callee (f := 31) rfl ?_); refine goesL_ (some 81) rfl rfl Try.func31 (by kernel_rfl) rfl #[.slice Ao17 y247.length co17, .slice Ao62 t256.length co62] rfl (by (try simp only [List.map_toArray, List.map_cons, List.map_nil]); first | done | rfl | (simp only [List.length_drop, List.length_take]; rfl)) ?_; (with_reducible refine (bits_Apart.calls kj22 _ _ y247 _ _ t256 t266 true _ ?side1 ?side2 ?side3 ?side4 A54.out).mono ?_); (case side1 => repeat (first | exact (Kd.R_reads' HO_0.out).2.2 | (with_reducible refine Kd.C_alloc ?_ _) | (with_reducible refine Kd.C_drewN ?_ _) | (with_reducible refine Kd.C_drew ?_))); (case side2 => exact (Kd.R_reads' HO_0.out).2.1); (case side3 => repeat (first | exact (Kd.R_reads' HO_10.out).2.2 | (with_reducible refine Kd.C_alloc ?_ _) | (with_reducible refine Kd.C_drewN ?_ _) | (with_reducible refine Kd.C_drew ?_))); (case side4 => exact (Kd.R_reads' HO_10.out).2.1); rintro e w' ⟨rfl, ⟨nd, rfl⟩⟩; refine ⟨_, rfl, ?_⟩) | ((with_reducible refine gate_callee (f := 20) rfl ?_); refine goesL_ (some 85) rfl rfl Try.func20 (by kernel_rfl) rfl #[.slice Ao17 y247.length co17] rfl (by (try simp only [List.map_toArray, List.map_cons, List.map_nil]); first | done | rfl | (simp only [List.length_drop, List.length_take]; rfl)) ?_; (with_reducible refine (shuttleref01_Right.calls kj22 _ _ y247 true _ ?side1 ?side2 A55.out).mono ?_); (case side1 => repeat (first | exact (Kd.R_reads' HO_0.out).2.2 | (with_reducible refine Kd.C_alloc ?_ _) | (with_reducible refine Kd.C_drewN ?_ _) | (with_reducible refine Kd.C_drew ?_))); (case side2 => exact (Kd.R_reads' HO_0.out).2.1); rintro e w' ⟨rfl, ⟨nd, rfl⟩⟩; refine ⟨_, rfl, ?_⟩))
                (try (rw [drewN_self wc]; generalize hq_ : World.drewN wc _ = wc; have n0_ : Aside0 (Kd.R (Kd.int .u8) 5 wc w.heap.size (fun k_ => some k_ ≠ (.slice Ao62 t256.length co62 : Value).ownBlock ∧ some k_ ≠ (v253 : Value).ownBlock) (.slice Ao17 y247.length co17) y247) := ⟨by rw [← hq_]; exact (by (with_reducible repeat (first | apply Kd.R_alloc | apply Kd.R_drewN | apply Kd.R_drew)); exact Kd.R_mono HO_0.out (fun _ hk => by first | exact ⟨hk.2, hk.1⟩ | (simp [hk]; done)))⟩; have n1_ : Aside0 (Kd.R (Kd.int .u8) 5 wc w.heap.size (fun k_ => some k_ ≠ (.slice Ao17 y247.length co17 : Value).ownBlock ∧ some k_ ≠ (v253 : Value).ownBlock) (.slice Ao62 t256.length co62) t256) := ⟨by rw [← hq_]; exact (by (with_reducible repeat (first | apply Kd.R_alloc | apply Kd.R_drewN | apply Kd.R_drew)); exact HO_10.out)⟩; have n2_ : Aside0 (Kd.R (Kd.int .u8) 5 wc w.heap.size (fun k_ => some k_ ≠ (.slice Ao17 y247.length co17 : Value).ownBlock ∧ some k_ ≠ (.slice Ao62 t256.length co62 : Value).ownBlock) v253 t251) := ⟨by rw [← hq_]; exact (by (with_reducible repeat (first | apply Kd.R_alloc | apply Kd.R_drewN | apply Kd.R_drew)); exact HO_6.out)⟩; have n3_ : Aside0 (Below w.heap.size w wc) := ⟨by rw [← hq_]; exact (by repeat (first | (with_reducible first | exact HB.out | apply below_alloc | apply pw_below_drewN | apply below_drew1) | exact HB.out))⟩; clear HO_0 HO_10 HO_6 HB hq_; have HO_0 := n0_; have HO_10 := n1_; have HO_6 := n2_; have HB := n3_; clear n0_ n1_ n2_ n3_))
                have n0_ := Aside0.mk (Kd.R_drew HO_0.out)
                have n1_ := Aside0.mk (Kd.R_drew HO_6.out)
                have n2_ := Aside0.mk (Kd.R_drew HO_10.out)
                have n3_ := Aside0.mk (below_drew1 HB.out)
                clear HO_0
                clear HO_6
                clear HO_10
                clear HB
                have HO_0 := n0_
                have HO_6 := n1_
                have HO_10 := n2_
                have HB := n3_
                clear n0_ n1_ n2_ n3_
                refine start_ (n := 21) (S := fun w' => True) (ds := []) #[tN,tN,tN,tN,tN,tN,tN,tN,tN,tN,tN,tN,tN,tN,tN,tN,tN,tN,tN,tN,tN] (by kernel_rfl) rfl rfl trivial (fun hHeld => ?_); refine with_tabW shuttlelaw01_BitsLists.tab17 shuttlelaw01_BitsLists.bits17 (fun HT_ HW_ => ?_)
                generalize wc.drew = w63 at HO_0 HO_6 HO_10 HB hHeld ⊢
                refine pure_ (i := 0) (N := some 97) (v := ?_) (a' := ?_) #[tY,tN,tN,tN,tN,tN,tN,tN,tN,tN,tN,tN,tN,tN,tN,tN,tN,tN,tN,tN,tN] rfl rfl (any_of HT_.out (by kernel_rfl)) (fun _ _ _ h => h) (Or.inl ⟨by rfl, ?_⟩) ?_ ?_
                rotate_left
                ·intro w'
                 go_simp
                 with_reducible rfl
                rotate_left
                ·simp only [Act.put, sq_a1, sq_a2, sq_a3, i64_w, i32_w]
                 rfl
                refine pure_ (i := 1) (N := some 98) (v := ?_) (a' := ?_) #[tY,tY,tN,tN,tN,tN,tN,tN,tN,tN,tN,tN,tN,tN,tN,tN,tN,tN,tN,tN,tN] rfl rfl (any_of HT_.out (by kernel_rfl)) (fun _ _ _ h => h) (Or.inl ⟨by rfl, ?_⟩) ?_ ?_
                rotate_left
                ·intro w'
                 go_simp
                 with_reducible rfl
                rotate_left
                ·simp only [Act.put, sq_a1, sq_a2, sq_a3, i64_w, i32_w]
                 rfl
                refine pure_ (i := 2) (N := some 99) (v := ?_) (a' := ?_) #[tY,tY,tY,tN,tN,tN,tN,tN,tN,tN,tN,tN,tN,tN,tN,tN,tN,tN,tN,tN,tN] rfl rfl (any_of HT_.out (by kernel_rfl)) (fun _ _ _ h => h) (Or.inl ⟨by rfl, ?_⟩) ?_ ?_
                rotate_left
                ·intro w'
                 go_simp
                 with_reducible rfl
                rotate_left
                ·simp only [Act.put, sq_a1, sq_a2, sq_a3, i64_w, i32_w]
                 rfl
                refine pure_ (i := 3) (N := some 100) (v := ?_) (a' := ?_) #[tY,tY,tY,tY,tN,tN,tN,tN,tN,tN,tN,tN,tN,tN,tN,tN,tN,tN,tN,tN,tN] rfl rfl (any_of HT_.out (by kernel_rfl)) (fun _ _ _ h => h) (Or.inl ⟨by rfl, ?_⟩) ?_ ?_
                rotate_left
                ·intro w'
                 go_simp
                 with_reducible rfl
                rotate_left
                ·simp only [Act.put, sq_a1, sq_a2, sq_a3, i64_w, i32_w]
                 rfl
                refine pure_ (i := 5) (N := some 102) (v := ?_) (a' := ?_) #[tY,tY,tY,tY,tN,tY,tN,tN,tN,tN,tN,tN,tN,tN,tN,tN,tN,tN,tN,tN,tN] rfl rfl (any_of HT_.out (by kernel_rfl)) (fun _ _ _ h => h) (Or.inl ⟨by rfl, ?_⟩) ?_ ?_
                rotate_left
                ·intro w'
                 go_simp
                 with_reducible rfl
                rotate_left
                ·simp only [Act.put, sq_a1, sq_a2, sq_a3, i64_w, i32_w]
                 rfl
                refine join_ (σ := Value) 13 #[tY,tY,tY,tY,tY,tY,tY,tY,tN,tN,tN,tN,tN,tN,tN,tN,tN,tN,tN,tN,tN] (fun s_ => [(101, .string (strOfNums t251)), (103, s_), (104, .string (strOfNums t269))]) (fun s_ w' => (Kd.R (Kd.int .u8) 5 w' w.heap.size (fun k_ => some k_ ≠ (.slice Ao17 y247.length co17 : Value).ownBlock ∧ some k_ ≠ (.slice Ao62 t256.length co62 : Value).ownBlock ∧ some k_ ≠ (v253 : Value).ownBlock) s_ t269) ∧ (Kd.R (Kd.int .u8) 5 w' w.heap.size (fun k_ => some k_ ≠ (s_ : Value).ownBlock ∧ some k_ ≠ (.slice Ao62 t256.length co62 : Value).ownBlock ∧ some k_ ≠ (v253 : Value).ownBlock) (.slice Ao17 y247.length co17) y247) ∧ (Kd.R (Kd.int .u8) 5 w' w.heap.size (fun k_ => some k_ ≠ (s_ : Value).ownBlock ∧ some k_ ≠ (.slice Ao17 y247.length co17 : Value).ownBlock ∧ some k_ ≠ (v253 : Value).ownBlock) (.slice Ao62 t256.length co62) t256) ∧ (Kd.R (Kd.int .u8) 5 w' w.heap.size (fun k_ => some k_ ≠ (s_ : Value).ownBlock ∧ some k_ ≠ (.slice Ao17 y247.length co17 : Value).ownBlock ∧ some k_ ≠ (.slice Ao62 t256.length co62 : Value).ownBlock) v253 t251) ∧ (Below w.heap.size w w')) ?_ ?_
                rotate_left
                ·intro hCont
                 refine two_ (i := 4) (j := 6) (Ni := some 101) (Nj := some 103) #[tY,tY,tY,tY,tY,tY,tN,tN,tN,tN,tN,tN,tN,tN,tN,tN,tN,tN,tN,tN,tN] #[tY,tY,tY,tY,tN,tY,tY,tN,tN,tN,tN,tN,tN,tN,tN,tN,tN,tN,tN,tN,tN] rfl rfl rfl rfl (two_of HT_.out (by kernel_rfl)) (by decide) (by decide) (fun K hK => ?_) (fun K hK => ?_)
                 ·skip
                  (have hcv64 := own_string (P := Try.prog) Try.underlying29 Try.underlying5 Try.underlying9 (Kd.own_of_R HO_6.out); have hcv64d := fun n_ : Nat => own_string (P := Try.prog) Try.underlying29 Try.underlying5 Try.underlying9 (Kd.own_of_R (Kd.R_drewN HO_6.out n_)))
                  refine value_ (w1 := ?_) (v := ?_) (by rfl) rfl ?_ ?_
                  rotate_left 2
                  ·go_simp
                   constructor
                   ·rfl
                   ·rfl
                  clear hcv64 hcv64d
                  refine hK.out _ _ trivial (fun hHeld => ?_)
                  clear hK K
                  refine norm_ (a' := ?_) ?_ ?_
                  rotate_left
                  ·show Act.put _ (some 101) _ = _
                   simp only [Act.put, sq_a1, sq_a2, sq_a3, i64_w, i32_w]
                   rfl
                  refine one_ (i := 6) (N := some 103) #[tY,tY,tY,tY,tY,tY,tY,tN,tN,tN,tN,tN,tN,tN,tN,tN,tN,tN,tN,tN,tN] rfl rfl (one_of HT_.out (by kernel_rfl)) (by decide) (fun K hK => ?_)
                  refine goes_ Try.func35 (by kernel_rfl) rfl #[.slice Ao17 y247.length co17] (by rfl) rfl rfl (by (try simp only [List.map_toArray, List.map_cons, List.map_nil]); first | done | rfl | (simp only [List.length_drop, List.length_take]; rfl)) ?_
                  with_reducible refine (shuttleref01_Bytes.calls kj22 _ _ y247 t269 _ ?side1 ?side2 A58.out).mono ?_
                  (case side1 => repeat (first | exact (Kd.R_reads' HO_0.out).2.2 | (with_reducible refine Kd.C_alloc ?_ _) | (with_reducible refine Kd.C_drewN ?_ _) | (with_reducible refine Kd.C_drew ?_)))
                  (case side2 => exact (Kd.R_reads' HO_0.out).2.1)
                  rintro e w65 ⟨v270, rfl, ho0, hb⟩
                  refine ⟨_, rfl, ?_⟩
                  have n0_ := Aside0.mk (Kd.R_elder' (by (with_reducible repeat (first | apply Kd.R_alloc | apply Kd.R_drewN | apply Kd.R_drew)); exact HO_0.out) (Kd.R_base ho0) hb)
                  have n1_ := Aside0.mk (Kd.R_elder' (by (with_reducible repeat (first | apply Kd.R_alloc | apply Kd.R_drewN | apply Kd.R_drew)); exact HO_6.out) (Kd.R_base ho0) hb)
                  have n2_ := Aside0.mk (Kd.R_elder' (by (with_reducible repeat (first | apply Kd.R_alloc | apply Kd.R_drewN | apply Kd.R_drew)); exact HO_10.out) (Kd.R_base ho0) hb)
                  have n3_ := Aside0.mk (Kd.R_lower (Kd.R_new' (Kd.R_new' (Kd.R_new' ho0 (Kd.R_lt (by (with_reducible repeat (first | apply Kd.R_alloc | apply Kd.R_drewN | apply Kd.R_drew)); exact HO_0.out))) (Kd.R_lt (by (with_reducible repeat (first | apply Kd.R_alloc | apply Kd.R_drewN | apply Kd.R_drew)); exact HO_6.out))) (Kd.R_lt (by (with_reducible repeat (first | apply Kd.R_alloc | apply Kd.R_drewN | apply Kd.R_drew)); exact HO_10.out))) (below_size (by repeat (first | (with_reducible first | exact HB.out | apply below_alloc | apply pw_below_drewN | apply below_drew1) | exact HB.out))))
                  have n4_ := Aside0.mk (below_step (by repeat (first | (with_reducible first | exact HB.out | apply below_alloc | apply pw_below_drewN | apply below_drew1) | exact HB.out)) hb)
                  clear HO_0
                  clear HO_6
                  clear HO_10
                  clear HB
                  have HO_0 := n0_
                  have HO_6 := n1_
                  have HO_10 := n2_
                  have HO271 := n3_
                  have HB := n4_
                  clear n0_ n1_ n2_ n3_ n4_
                  (try clear hb)
                  (try clear hb2)
                  (try clear hk)
                  (try clear hi)
                  (try clear ho0)
                  refine hK.out _ _ trivial (fun hHeld => ?_)
                  clear hK K
                  refine norm_ (a' := ?_) ?_ ?_
                  rotate_left
                  ·show Act.put _ (some 103) _ = _
                   simp only [Act.put, sq_a1, sq_a2, sq_a3, i64_w, i32_w]
                   rfl
                  refine one_ (i := 7) (N := some 104) #[tY,tY,tY,tY,tY,tY,tY,tY,tN,tN,tN,tN,tN,tN,tN,tN,tN,tN,tN,tN,tN] rfl rfl (one_of HT_.out (by kernel_rfl)) (by decide) (fun K hK => ?_)
                  (have hcv66 := own_string (P := Try.prog) Try.underlying29 Try.underlying5 Try.underlying9 (Kd.own_of_R HO271.out); have hcv66d := fun n_ : Nat => own_string (P := Try.prog) Try.underlying29 Try.underlying5 Try.underlying9 (Kd.own_of_R (Kd.R_drewN HO271.out n_)))
                  refine value_ (w1 := ?_) (v := ?_) (by rfl) rfl ?_ ?_
                  rotate_left 2
                  ·go_simp
                   constructor
                   ·rfl
                   ·rfl
                  clear hcv66 hcv66d
                  refine hK.out _ _ trivial (fun hHeld => ?_)
                  clear hK K
                  refine norm_ (a' := ?_) ?_ ?_
                  rotate_left
                  ·show Act.put _ (some 104) _ = _
                   simp only [Act.put, sq_a1, sq_a2, sq_a3, i64_w, i32_w]
                   rfl
                  exact norm_ (by simp only [putAll, Act.put, sq_a1, sq_a2, sq_a3]) (hCont (v270) _ ⟨(by (with_reducible repeat (first | apply Kd.R_alloc | apply Kd.R_drewN | apply Kd.R_drew)); exact Kd.R_mono HO271.out (fun _ hk => by first | exact ⟨hk.1.1.2, ⟨hk.2, hk.1.2⟩⟩ | (simp [hk]; done))), (by (with_reducible repeat (first | apply Kd.R_alloc | apply Kd.R_drewN | apply Kd.R_drew)); exact Kd.R_mono HO_0.out (fun _ hk => by first | exact ⟨hk.2, ⟨hk.1.2, hk.1.1⟩⟩ | (simp [hk]; done))), (by (with_reducible repeat (first | apply Kd.R_alloc | apply Kd.R_drewN | apply Kd.R_drew)); exact Kd.R_mono HO_10.out (fun _ hk => by first | exact ⟨hk.2, ⟨hk.1.1, hk.1.2⟩⟩ | (simp [hk]; done))), (by (with_reducible repeat (first | apply Kd.R_alloc | apply Kd.R_drewN | apply Kd.R_drew)); exact Kd.R_mono HO_6.out (fun _ hk => by first | exact ⟨hk.2, ⟨hk.1.1, hk.1.2⟩⟩ | (simp [hk]; done))), (by repeat (first | (with_reducible first | exact HB.out | apply below_alloc | apply pw_below_drewN | apply below_drew1) | exact HB.out))⟩)
                 ·skip
                  refine goes_ Try.func35 (by kernel_rfl) rfl #[.slice Ao17 y247.length co17] (by rfl) rfl rfl (by (try simp only [List.map_toArray, List.map_cons, List.map_nil]); first | done | rfl | (simp only [List.length_drop, List.length_take]; rfl)) ?_
                  with_reducible refine (shuttleref01_Bytes.calls kj22 _ _ y247 t269 _ ?side1 ?side2 A58.out).mono ?_
                  (case side1 => repeat (first | exact (Kd.R_reads' HO_0.out).2.2 | (with_reducible refine Kd.C_alloc ?_ _) | (with_reducible refine Kd.C_drewN ?_ _) | (with_reducible refine Kd.C_drew ?_)))
                  (case side2 => exact (Kd.R_reads' HO_0.out).2.1)
                  rintro e w64 ⟨v270, rfl, ho0, hb⟩
                  refine ⟨_, rfl, ?_⟩
                  have n0_ := Aside0.mk (Kd.R_elder' (by (with_reducible repeat (first | apply Kd.R_alloc | apply Kd.R_drewN | apply Kd.R_drew)); exact HO_0.out) (Kd.R_base ho0) hb)
                  have n1_ := Aside0.mk (Kd.R_elder' (by (with_reducible repeat (first | apply Kd.R_alloc | apply Kd.R_drewN | apply Kd.R_drew)); exact HO_6.out) (Kd.R_base ho0) hb)
                  have n2_ := Aside0.mk (Kd.R_elder' (by (with_reducible repeat (first | apply Kd.R_alloc | apply Kd.R_drewN | apply Kd.R_drew)); exact HO_10.out) (Kd.R_base ho0) hb)
                  have n3_ := Aside0.mk (Kd.R_lower (Kd.R_new' (Kd.R_new' (Kd.R_new' ho0 (Kd.R_lt (by (with_reducible repeat (first | apply Kd.R_alloc | apply Kd.R_drewN | apply Kd.R_drew)); exact HO_0.out))) (Kd.R_lt (by (with_reducible repeat (first | apply Kd.R_alloc | apply Kd.R_drewN | apply Kd.R_drew)); exact HO_6.out))) (Kd.R_lt (by (with_reducible repeat (first | apply Kd.R_alloc | apply Kd.R_drewN | apply Kd.R_drew)); exact HO_10.out))) (below_size (by repeat (first | (with_reducible first | exact HB.out | apply below_alloc | apply pw_below_drewN | apply below_drew1) | exact HB.out))))
                  have n4_ := Aside0.mk (below_step (by repeat (first | (with_reducible first | exact HB.out | apply below_alloc | apply pw_below_drewN | apply below_drew1) | exact HB.out)) hb)
                  clear HO_0
                  clear HO_6
                  clear HO_10
                  clear HB
                  have HO_0 := n0_
                  have HO_6 := n1_
                  have HO_10 := n2_
                  have HO271 := n3_
                  have HB := n4_
                  clear n0_ n1_ n2_ n3_ n4_
                  (try clear hb)
                  (try clear hb2)
                  (try clear hk)
                  (try clear hi)
                  (try clear ho0)
                  refine hK.out _ _ trivial (fun hHeld => ?_)
                  clear hK K
                  refine norm_ (a' := ?_) ?_ ?_
                  rotate_left
                  ·show Act.put _ (some 103) _ = _
                   simp only [Act.put, sq_a1, sq_a2, sq_a3, i64_w, i32_w]
                   rfl
                  refine two_ (i := 4) (j := 7) (Ni := some 101) (Nj := some 104) #[tY,tY,tY,tY,tY,tY,tY,tN,tN,tN,tN,tN,tN,tN,tN,tN,tN,tN,tN,tN,tN] #[tY,tY,tY,tY,tN,tY,tY,tY,tN,tN,tN,tN,tN,tN,tN,tN,tN,tN,tN,tN,tN] rfl rfl rfl rfl (two_of HT_.out (by kernel_rfl)) (by decide) (by decide) (fun K hK => ?_) (fun K hK => ?_)
                  ·skip
                   (have hcv65 := own_string (P := Try.prog) Try.underlying29 Try.underlying5 Try.underlying9 (Kd.own_of_R HO_6.out); have hcv65d := fun n_ : Nat => own_string (P := Try.prog) Try.underlying29 Try.underlying5 Try.underlying9 (Kd.own_of_R (Kd.R_drewN HO_6.out n_)))
                   refine value_ (w1 := ?_) (v := ?_) (by rfl) rfl ?_ ?_
                   rotate_left 2
                   ·go_simp
                    constructor
                    ·rfl
                    ·rfl
                   clear hcv65 hcv65d
                   refine hK.out _ _ trivial (fun hHeld => ?_)
                   clear hK K
                   refine norm_ (a' := ?_) ?_ ?_
                   rotate_left
                   ·show Act.put _ (some 101) _ = _
                    simp only [Act.put, sq_a1, sq_a2, sq_a3, i64_w, i32_w]
                    rfl
                   refine one_ (i := 7) (N := some 104) #[tY,tY,tY,tY,tY,tY,tY,tY,tN,tN,tN,tN,tN,tN,tN,tN,tN,tN,tN,tN,tN] rfl rfl (one_of HT_.out (by kernel_rfl)) (by decide) (fun K hK => ?_)
                   (have hcv66 := own_string (P := Try.prog) Try.underlying29 Try.underlying5 Try.underlying9 (Kd.own_of_R HO271.out); have hcv66d := fun n_ : Nat => own_string (P := Try.prog) Try.underlying29 Try.underlying5 Try.underlying9 (Kd.own_of_R (Kd.R_drewN HO271.out n_)))
                   refine value_ (w1 := ?_) (v := ?_) (by rfl) rfl ?_ ?_
                   rotate_left 2
                   ·go_simp
                    constructor
                    ·rfl
                    ·rfl
                   clear hcv66 hcv66d
                   refine hK.out _ _ trivial (fun hHeld => ?_)
                   clear hK K
                   refine norm_ (a' := ?_) ?_ ?_
                   rotate_left
                   ·show Act.put _ (some 104) _ = _
                    simp only [Act.put, sq_a1, sq_a2, sq_a3, i64_w, i32_w]
                    rfl
                   exact norm_ (by simp only [putAll, Act.put, sq_a1, sq_a2, sq_a3]) (hCont (v270) _ ⟨(by (with_reducible repeat (first | apply Kd.R_alloc | apply Kd.R_drewN | apply Kd.R_drew)); exact Kd.R_mono HO271.out (fun _ hk => by first | exact ⟨hk.1.1.2, ⟨hk.2, hk.1.2⟩⟩ | (simp [hk]; done))), (by (with_reducible repeat (first | apply Kd.R_alloc | apply Kd.R_drewN | apply Kd.R_drew)); exact Kd.R_mono HO_0.out (fun _ hk => by first | exact ⟨hk.2, ⟨hk.1.2, hk.1.1⟩⟩ | (simp [hk]; done))), (by (with_reducible repeat (first | apply Kd.R_alloc | apply Kd.R_drewN | apply Kd.R_drew)); exact Kd.R_mono HO_10.out (fun _ hk => by first | exact ⟨hk.2, ⟨hk.1.1, hk.1.2⟩⟩ | (simp [hk]; done))), (by (with_reducible repeat (first | apply Kd.R_alloc | apply Kd.R_drewN | apply Kd.R_drew)); exact Kd.R_mono HO_6.out (fun _ hk => by first | exact ⟨hk.2, ⟨hk.1.1, hk.1.2⟩⟩ | (simp [hk]; done))), (by repeat (first | (with_reducible first | exact HB.out | apply below_alloc | apply pw_below_drewN | apply below_drew1) | exact HB.out))⟩)
                  ·skip
                   (have hcv65 := own_string (P := Try.prog) Try.underlying29 Try.underlying5 Try.underlying9 (Kd.own_of_R HO271.out); have hcv65d := fun n_ : Nat => own_string (P := Try.prog) Try.underlying29 Try.underlying5 Try.underlying9 (Kd.own_of_R (Kd.R_drewN HO271.out n_)))
                   refine value_ (w1 := ?_) (v := ?_) (by rfl) rfl ?_ ?_
                   rotate_left 2
                   ·go_simp
                    constructor
                    ·rfl
                    ·rfl
                   clear hcv65 hcv65d
                   refine hK.out _ _ trivial (fun hHeld => ?_)
                   clear hK K
                   refine norm_ (a' := ?_) ?_ ?_
                   rotate_left
                   ·show Act.put _ (some 104) _ = _
                    simp only [Act.put, sq_a1, sq_a2, sq_a3, i64_w, i32_w]
                    rfl
                   refine one_ (i := 4) (N := some 101) #[tY,tY,tY,tY,tY,tY,tY,tY,tN,tN,tN,tN,tN,tN,tN,tN,tN,tN,tN,tN,tN] rfl rfl (one_of HT_.out (by kernel_rfl)) (by decide) (fun K hK => ?_)
                   (have hcv66 := own_string (P := Try.prog) Try.underlying29 Try.underlying5 Try.underlying9 (Kd.own_of_R HO_6.out); have hcv66d := fun n_ : Nat => own_string (P := Try.prog) Try.underlying29 Try.underlying5 Try.underlying9 (Kd.own_of_R (Kd.R_drewN HO_6.out n_)))
                   refine value_ (w1 := ?_) (v := ?_) (by rfl) rfl ?_ ?_
                   rotate_left 2
                   ·go_simp
                    constructor
                    ·rfl
                    ·rfl
                   clear hcv66 hcv66d
                   refine hK.out _ _ trivial (fun hHeld => ?_)
                   clear hK K
                   refine norm_ (a' := ?_) ?_ ?_
                   rotate_left
                   ·show Act.put _ (some 101) _ = _
                    simp only [Act.put, sq_a1, sq_a2, sq_a3, i64_w, i32_w]
                    rfl
                   exact norm_ (by simp only [putAll, Act.put, sq_a1, sq_a2, sq_a3]) (hCont (v270) _ ⟨(by (with_reducible repeat (first | apply Kd.R_alloc | apply Kd.R_drewN | apply Kd.R_drew)); exact Kd.R_mono HO271.out (fun _ hk => by first | exact ⟨hk.1.1.2, ⟨hk.2, hk.1.2⟩⟩ | (simp [hk]; done))), (by (with_reducible repeat (first | apply Kd.R_alloc | apply Kd.R_drewN | apply Kd.R_drew)); exact Kd.R_mono HO_0.out (fun _ hk => by first | exact ⟨hk.2, ⟨hk.1.2, hk.1.1⟩⟩ | (simp [hk]; done))), (by (with_reducible repeat (first | apply Kd.R_alloc | apply Kd.R_drewN | apply Kd.R_drew)); exact Kd.R_mono HO_10.out (fun _ hk => by first | exact ⟨hk.2, ⟨hk.1.1, hk.1.2⟩⟩ | (simp [hk]; done))), (by (with_reducible repeat (first | apply Kd.R_alloc | apply Kd.R_drewN | apply Kd.R_drew)); exact Kd.R_mono HO_6.out (fun _ hk => by first | exact ⟨hk.2, ⟨hk.1.1, hk.1.2⟩⟩ | (simp [hk]; done))), (by repeat (first | (with_reducible first | exact HB.out | apply below_alloc | apply pw_below_drewN | apply below_drew1) | exact HB.out))⟩)
                rintro v270 w67 ⟨h0_, h1_, h2_, h3_, h4_⟩
                have n0_ : Aside0 (Kd.R (Kd.int .u8) 5 w67 w.heap.size (fun k_ => some k_ ≠ (.slice Ao17 y247.length co17 : Value).ownBlock ∧ some k_ ≠ (.slice Ao62 t256.length co62 : Value).ownBlock ∧ some k_ ≠ (v253 : Value).ownBlock) v270 t269) := ⟨h0_⟩
                have n1_ : Aside0 (Kd.R (Kd.int .u8) 5 w67 w.heap.size (fun k_ => some k_ ≠ (v270 : Value).ownBlock ∧ some k_ ≠ (.slice Ao62 t256.length co62 : Value).ownBlock ∧ some k_ ≠ (v253 : Value).ownBlock) (.slice Ao17 y247.length co17) y247) := ⟨h1_⟩
                have n2_ : Aside0 (Kd.R (Kd.int .u8) 5 w67 w.heap.size (fun k_ => some k_ ≠ (v270 : Value).ownBlock ∧ some k_ ≠ (.slice Ao17 y247.length co17 : Value).ownBlock ∧ some k_ ≠ (v253 : Value).ownBlock) (.slice Ao62 t256.length co62) t256) := ⟨h2_⟩
                have n3_ : Aside0 (Kd.R (Kd.int .u8) 5 w67 w.heap.size (fun k_ => some k_ ≠ (v270 : Value).ownBlock ∧ some k_ ≠ (.slice Ao17 y247.length co17 : Value).ownBlock ∧ some k_ ≠ (.slice Ao62 t256.length co62 : Value).ownBlock) v253 t251) := ⟨h3_⟩
                have n4_ : Aside0 (Below w.heap.size w w67) := ⟨h4_⟩
                clear HO_0
                clear HO_6
                clear HO_10
                clear HB
                clear h0_ h1_ h2_ h3_ h4_
                have HO271 := n0_
                have HO_0 := n1_
                have HO_10 := n2_
                have HO_6 := n3_
                have HB := n4_
                clear n0_ n1_ n2_ n3_ n4_
                have hHeld := trivial
                refine norm_ (a' := ?_) ?_ ?_
                rotate_left
                ·simp only [putAll, Act.put, sq_a1, sq_a2, sq_a3]
                 rfl
                refine pure_ (i := 8) (N := some 105) (v := ?_) (a' := ?_) #[tY,tY,tY,tY,tY,tY,tY,tY,tY,tN,tN,tN,tN,tN,tN,tN,tN,tN,tN,tN,tN] rfl rfl (any_of HT_.out (by kernel_rfl)) (fun _ _ _ h => h) (Or.inl ⟨by rfl, ?_⟩) ?_ ?_
                rotate_left
                ·intro w'
                 go_simp
                 with_reducible rfl
                rotate_left
                ·simp only [Act.put, sq_a1, sq_a2, sq_a3, i64_w, i32_w]
                 rfl
                refine pure_ (i := 9) (N := some 106) (v := ?_) (a' := ?_) #[tY,tY,tY,tY,tY,tY,tY,tY,tY,tY,tN,tN,tN,tN,tN,tN,tN,tN,tN,tN,tN] rfl rfl (any_of HT_.out (by kernel_rfl)) (fun _ _ _ h => h) (Or.inl ⟨by rfl, ?_⟩) ?_ ?_
                rotate_left
                ·intro w'
                 go_simp
                 with_reducible rfl
                rotate_left
                ·simp only [Act.put, sq_a1, sq_a2, sq_a3, i64_w, i32_w]
                 rfl
                refine pure_ (i := 10) (N := some 107) (v := ?_) (a' := ?_) #[tY,tY,tY,tY,tY,tY,tY,tY,tY,tY,tY,tN,tN,tN,tN,tN,tN,tN,tN,tN,tN] rfl rfl (any_of HT_.out (by kernel_rfl)) (fun _ _ _ h => h) (Or.inl ⟨by rfl, ?_⟩) ?_ ?_
                rotate_left
                ·intro w'
                 go_simp
                 with_reducible rfl
                rotate_left
                ·simp only [Act.put, sq_a1, sq_a2, sq_a3, i64_w, i32_w]
                 rfl
                refine pure_ (i := 11) (N := some 108) (v := ?_) (a' := ?_) #[tY,tY,tY,tY,tY,tY,tY,tY,tY,tY,tY,tY,tN,tN,tN,tN,tN,tN,tN,tN,tN] rfl rfl (any_of HT_.out (by kernel_rfl)) (fun _ _ _ h => h) (Or.inl ⟨by rfl, ?_⟩) ?_ ?_
                rotate_left
                ·intro w'
                 go_simp
                 with_reducible rfl
                rotate_left
                ·simp only [Act.put, sq_a1, sq_a2, sq_a3, i64_w, i32_w]
                 rfl
                refine pure_ (i := 12) (N := some 109) (v := ?_) (a' := ?_) #[tY,tY,tY,tY,tY,tY,tY,tY,tY,tY,tY,tY,tY,tN,tN,tN,tN,tN,tN,tN,tN] rfl rfl (any_of HT_.out (by kernel_rfl)) (fun _ _ _ h => h) (Or.inl ⟨by rfl, ?_⟩) ?_ ?_
                rotate_left
                ·intro w'
                 go_simp
                 with_reducible rfl
                rotate_left
                ·simp only [Act.put, sq_a1, sq_a2, sq_a3, i64_w, i32_w]
                 rfl
                refine pure_ (i := 13) (N := some 110) (v := ?_) (a' := ?_) #[tY,tY,tY,tY,tY,tY,tY,tY,tY,tY,tY,tY,tY,tY,tN,tN,tN,tN,tN,tN,tN] rfl rfl (any_of HT_.out (by kernel_rfl)) (fun _ _ _ h => h) (Or.inl ⟨by rfl, ?_⟩) ?_ ?_
                rotate_left
                ·intro w'
                 go_simp
                 with_reducible rfl
                rotate_left
                ·simp only [Act.put, sq_a1, sq_a2, sq_a3, i64_w, i32_w]
                 rfl
                refine pure_ (i := 14) (N := some 111) (v := ?_) (a' := ?_) #[tY,tY,tY,tY,tY,tY,tY,tY,tY,tY,tY,tY,tY,tY,tY,tN,tN,tN,tN,tN,tN] rfl rfl (any_of HT_.out (by kernel_rfl)) (fun _ _ _ h => h) (Or.inl ⟨by rfl, ?_⟩) ?_ ?_
                rotate_left
                ·intro w'
                 go_simp
                 with_reducible rfl
                rotate_left
                ·simp only [Act.put, sq_a1, sq_a2, sq_a3, i64_w, i32_w]
                 rfl
                refine pure_ (i := 15) (N := some 112) (v := ?_) (a' := ?_) #[tY,tY,tY,tY,tY,tY,tY,tY,tY,tY,tY,tY,tY,tY,tY,tY,tN,tN,tN,tN,tN] rfl rfl (any_of HT_.out (by kernel_rfl)) (fun _ _ _ h => h) (Or.inl ⟨by rfl, ?_⟩) ?_ ?_
                rotate_left
                ·intro w'
                 go_simp
                 with_reducible rfl
                rotate_left
                ·simp only [Act.put, sq_a1, sq_a2, sq_a3, i64_w, i32_w]
                 rfl
                refine pure_ (i := 16) (N := some 113) (v := ?_) (a' := ?_) #[tY,tY,tY,tY,tY,tY,tY,tY,tY,tY,tY,tY,tY,tY,tY,tY,tY,tN,tN,tN,tN] rfl rfl (any_of HT_.out (by kernel_rfl)) (fun _ _ _ h => h) (Or.inl ⟨by rfl, ?_⟩) ?_ ?_
                rotate_left
                ·intro w'
                 go_simp
                 with_reducible rfl
                rotate_left
                ·simp only [Act.put, sq_a1, sq_a2, sq_a3, i64_w, i32_w]
                 rfl
                refine one_ (i := 17) (N := some 114) #[tY,tY,tY,tY,tY,tY,tY,tY,tY,tY,tY,tY,tY,tY,tY,tY,tY,tY,tN,tN,tN] rfl rfl (one_of HT_.out (by kernel_rfl)) (by decide) (fun K hK => ?_)
                refine goes_ Try.func26 (by kernel_rfl) rfl #[.slice Ao17 y247.length co17, .slice Ao62 t256.length co62] (by rfl) rfl rfl (by (try simp only [List.map_toArray, List.map_cons, List.map_nil]); first | done | rfl | (simp only [List.length_drop, List.length_take]; rfl)) ?_
                with_reducible refine (shuttleref01_Apart.calls kj22 _ _ y247 _ _ t256 t272 _ ?side1 ?side2 ?side3 ?side4 A61.out).mono ?_
                (case side1 => repeat (first | exact (Kd.R_reads' HO_0.out).2.2 | (with_reducible refine Kd.C_alloc ?_ _) | (with_reducible refine Kd.C_drewN ?_ _) | (with_reducible refine Kd.C_drew ?_)))
                (case side2 => exact (Kd.R_reads' HO_0.out).2.1)
                (case side3 => repeat (first | exact (Kd.R_reads' HO_10.out).2.2 | (with_reducible refine Kd.C_alloc ?_ _) | (with_reducible refine Kd.C_drewN ?_ _) | (with_reducible refine Kd.C_drew ?_)))
                (case side4 => exact (Kd.R_reads' HO_10.out).2.1)
                rintro e w' ⟨rfl, ⟨nd, rfl⟩⟩
                refine ⟨_, rfl, ?_⟩
                refine hK.out _ _ trivial (fun hHeld => ?_)
                clear hK K
                refine norm_ (a' := ?_) ?_ ?_
                rotate_left
                ·show Act.put _ (some 114) _ = _
                 simp only [Act.put, sq_a1, sq_a2, sq_a3, i64_w, i32_w]
                 rfl
                refine pure_ (i := 18) (N := some 115) (v := ?_) (a' := ?_) #[tY,tY,tY,tY,tY,tY,tY,tY,tY,tY,tY,tY,tY,tY,tY,tY,tY,tY,tY,tN,tN] rfl rfl (any_of HT_.out (by kernel_rfl)) (fun _ _ _ h => h) (Or.inl ⟨by rfl, ?_⟩) ?_ ?_
                rotate_left
                ·intro w'
                 go_simp
                 with_reducible rfl
                rotate_left
                ·simp only [Act.put, sq_a1, sq_a2, sq_a3, i64_w, i32_w]
                 rfl
                refine pure_ (i := 19) (N := some 116) (v := ?_) (a' := ?_) #[tY,tY,tY,tY,tY,tY,tY,tY,tY,tY,tY,tY,tY,tY,tY,tY,tY,tY,tY,tY,tN] rfl rfl (any_of HT_.out (by kernel_rfl)) (fun _ _ _ h => h) (Or.inl ⟨by rfl, ?_⟩) ?_ ?_
                rotate_left
                ·intro w'
                 go_simp
                 with_reducible rfl
                rotate_left
                ·simp only [Act.put, sq_a1, sq_a2, sq_a3, i64_w, i32_w]
                 rfl
                refine pure_ (i := 20) (N := some 4) (v := ?_) (a' := ?_) #[tY,tY,tY,tY,tY,tY,tY,tY,tY,tY,tY,tY,tY,tY,tY,tY,tY,tY,tY,tY,tY] rfl rfl (any_of HT_.out (by kernel_rfl)) (fun _ _ _ h => h) (Or.inl ⟨by rfl, ?_⟩) ?_ ?_
                rotate_left
                ·intro w'
                 go_simp
                 with_reducible rfl
                rotate_left
                ·simp only [Act.put, sq_a1, sq_a2, sq_a3, i64_w, i32_w]
                 rfl
                refine done_ (done_of HT_.out (by kernel_rfl)) ?_
                try go_wp2
                go_ret
                exact ⟨by first | rfl | (simp [errW_none, errW_some] <;> rfl) | (simp only [← hji3, ← hji7]; first | rfl | (simp [errW_none, errW_some] <;> rfl)) | (simp [*, errW_none, errW_some] <;> rfl), by repeat (first | (with_reducible first | exact HB.out | apply below_alloc | apply pw_below_drewN | apply below_drew1) | exact HB.out)⟩
               ·replace c60 := Bool.eq_false_iff.mpr c60
                subst c60
                have H1 : (some false) = some r := by rw [if_neg (show ¬ (false = true) by decide)] at H; exact H
                clear H
                have H := H1
                clear H1
                obtain rfl := Option.some.inj H
                obtain ⟨Ao68, co68, eo68⟩ := Kd.R_slice HO_10.out
                subst eo68
                try go_wp2_with (first | ((with_reducible refine gate_callee (f := 31) rfl ?_); refine goesL_ (some 81) rfl rfl Try.func31 (by kernel_rfl) rfl #[.slice Ao17 y247.length co17, .slice Ao68 t256.length co68] rfl (by (try simp only [List.map_toArray, List.map_cons, List.map_nil]); first | done | rfl | (simp only [List.length_drop, List.length_take]; rfl)) ?_; (with_reducible refine (bits_Apart.calls kj22 _ _ y247 _ _ t256 t266 false _ ?side1 ?side2 ?side3 ?side4 A54.out).mono ?_); (case side1 => repeat (first | exact (Kd.R_reads' HO_0.out).2.2 | (with_reducible refine Kd.C_alloc ?_ _) | (with_reducible refine Kd.C_drewN ?_ _) | (with_reducible refine Kd.C_drew ?_))); (case side2 => exact (Kd.R_reads' HO_0.out).2.1); (case side3 => repeat (first | exact (Kd.R_reads' HO_10.out).2.2 | (with_reducible refine Kd.C_alloc ?_ _) | (with_reducible refine Kd.C_drewN ?_ _) | (with_reducible refine Kd.C_drew ?_))); (case side4 => exact (Kd.R_reads' HO_10.out).2.1); rintro e w' ⟨rfl, ⟨nd, rfl⟩⟩; refine ⟨_, rfl, ?_⟩) | ((with_reducible refine gate_callee (f := 20) rfl ?_); refine goesL_ (some 85) rfl rfl Try.func20 (by kernel_rfl) rfl #[.slice Ao17 y247.length co17] rfl (by (try simp only [List.map_toArray, List.map_cons, List.map_nil]); first | done | rfl | (simp only [List.length_drop, List.length_take]; rfl)) ?_; (with_reducible refine (shuttleref01_Right.calls kj22 _ _ y247 true _ ?side1 ?side2 A55.out).mono ?_); (case side1 => repeat (first | exact (Kd.R_reads' HO_0.out).2.2 | (with_reducible refine Kd.C_alloc ?_ _) | (with_reducible refine Kd.C_drewN ?_ _) | (with_reducible refine Kd.C_drew ?_))); (case side2 => exact (Kd.R_reads' HO_0.out).2.1); rintro e w' ⟨rfl, ⟨nd, rfl⟩⟩; refine ⟨_, rfl, ?_⟩))
                (try (rw [drewN_self wc]; generalize hq_ : World.drewN wc _ = wc; have n0_ : Aside0 (Kd.R (Kd.int .u8) 5 wc w.heap.size (fun k_ => some k_ ≠ (.slice Ao68 t256.length co68 : Value).ownBlock ∧ some k_ ≠ (v253 : Value).ownBlock) (.slice Ao17 y247.length co17) y247) := ⟨by rw [← hq_]; exact (by (with_reducible repeat (first | apply Kd.R_alloc | apply Kd.R_drewN | apply Kd.R_drew)); exact Kd.R_mono HO_0.out (fun _ hk => by first | exact ⟨hk.2, hk.1⟩ | (simp [hk]; done)))⟩; have n1_ : Aside0 (Kd.R (Kd.int .u8) 5 wc w.heap.size (fun k_ => some k_ ≠ (.slice Ao17 y247.length co17 : Value).ownBlock ∧ some k_ ≠ (v253 : Value).ownBlock) (.slice Ao68 t256.length co68) t256) := ⟨by rw [← hq_]; exact (by (with_reducible repeat (first | apply Kd.R_alloc | apply Kd.R_drewN | apply Kd.R_drew)); exact HO_10.out)⟩; have n2_ : Aside0 (Kd.R (Kd.int .u8) 5 wc w.heap.size (fun k_ => some k_ ≠ (.slice Ao17 y247.length co17 : Value).ownBlock ∧ some k_ ≠ (.slice Ao68 t256.length co68 : Value).ownBlock) v253 t251) := ⟨by rw [← hq_]; exact (by (with_reducible repeat (first | apply Kd.R_alloc | apply Kd.R_drewN | apply Kd.R_drew)); exact HO_6.out)⟩; have n3_ : Aside0 (Below w.heap.size w wc) := ⟨by rw [← hq_]; exact (by repeat (first | (with_reducible first | exact HB.out | apply below_alloc | apply pw_below_drewN | apply below_drew1) | exact HB.out))⟩; clear HO_0 HO_10 HO_6 HB hq_; have HO_0 := n0_; have HO_10 := n1_; have HO_6 := n2_; have HB := n3_; clear n0_ n1_ n2_ n3_))
                have n0_ := Aside0.mk (Kd.R_drew HO_0.out)
                have n1_ := Aside0.mk (Kd.R_drew HO_6.out)
                have n2_ := Aside0.mk (Kd.R_drew HO_10.out)
                have n3_ := Aside0.mk (below_drew1 HB.out)
                clear HO_0
                clear HO_6
                clear HO_10
                clear HB
                have HO_0 := n0_
                have HO_6 := n1_
                have HO_10 := n2_
                have HB := n3_
                clear n0_ n1_ n2_ n3_
                refine start_ (n := 21) (S := fun w' => True) (ds := []) #[tN,tN,tN,tN,tN,tN,tN,tN,tN,tN,tN,tN,tN,tN,tN,tN,tN,tN,tN,tN,tN] (by kernel_rfl) rfl rfl trivial (fun hHeld => ?_); refine with_tabW shuttlelaw01_BitsLists.tab17 shuttlelaw01_BitsLists.bits17 (fun HT_ HW_ => ?_)
                generalize wc.drew = w69 at HO_0 HO_6 HO_10 HB hHeld ⊢
                refine pure_ (i := 0) (N := some 97) (v := ?_) (a' := ?_) #[tY,tN,tN,tN,tN,tN,tN,tN,tN,tN,tN,tN,tN,tN,tN,tN,tN,tN,tN,tN,tN] rfl rfl (any_of HT_.out (by kernel_rfl)) (fun _ _ _ h => h) (Or.inl ⟨by rfl, ?_⟩) ?_ ?_
                rotate_left
                ·intro w'
                 go_simp
                 with_reducible rfl
                rotate_left
                ·simp only [Act.put, sq_a1, sq_a2, sq_a3, i64_w, i32_w]
                 rfl
                refine pure_ (i := 1) (N := some 98) (v := ?_) (a' := ?_) #[tY,tY,tN,tN,tN,tN,tN,tN,tN,tN,tN,tN,tN,tN,tN,tN,tN,tN,tN,tN,tN] rfl rfl (any_of HT_.out (by kernel_rfl)) (fun _ _ _ h => h) (Or.inl ⟨by rfl, ?_⟩) ?_ ?_
                rotate_left
                ·intro w'
                 go_simp
                 with_reducible rfl
                rotate_left
                ·simp only [Act.put, sq_a1, sq_a2, sq_a3, i64_w, i32_w]
                 rfl
                refine pure_ (i := 2) (N := some 99) (v := ?_) (a' := ?_) #[tY,tY,tY,tN,tN,tN,tN,tN,tN,tN,tN,tN,tN,tN,tN,tN,tN,tN,tN,tN,tN] rfl rfl (any_of HT_.out (by kernel_rfl)) (fun _ _ _ h => h) (Or.inl ⟨by rfl, ?_⟩) ?_ ?_
                rotate_left
                ·intro w'
                 go_simp
                 with_reducible rfl
                rotate_left
                ·simp only [Act.put, sq_a1, sq_a2, sq_a3, i64_w, i32_w]
                 rfl
                refine pure_ (i := 3) (N := some 100) (v := ?_) (a' := ?_) #[tY,tY,tY,tY,tN,tN,tN,tN,tN,tN,tN,tN,tN,tN,tN,tN,tN,tN,tN,tN,tN] rfl rfl (any_of HT_.out (by kernel_rfl)) (fun _ _ _ h => h) (Or.inl ⟨by rfl, ?_⟩) ?_ ?_
                rotate_left
                ·intro w'
                 go_simp
                 with_reducible rfl
                rotate_left
                ·simp only [Act.put, sq_a1, sq_a2, sq_a3, i64_w, i32_w]
                 rfl
                refine pure_ (i := 5) (N := some 102) (v := ?_) (a' := ?_) #[tY,tY,tY,tY,tN,tY,tN,tN,tN,tN,tN,tN,tN,tN,tN,tN,tN,tN,tN,tN,tN] rfl rfl (any_of HT_.out (by kernel_rfl)) (fun _ _ _ h => h) (Or.inl ⟨by rfl, ?_⟩) ?_ ?_
                rotate_left
                ·intro w'
                 go_simp
                 with_reducible rfl
                rotate_left
                ·simp only [Act.put, sq_a1, sq_a2, sq_a3, i64_w, i32_w]
                 rfl
                refine join_ (σ := Value) 13 #[tY,tY,tY,tY,tY,tY,tY,tY,tN,tN,tN,tN,tN,tN,tN,tN,tN,tN,tN,tN,tN] (fun s_ => [(101, .string (strOfNums t251)), (103, s_), (104, .string (strOfNums t269))]) (fun s_ w' => (Kd.R (Kd.int .u8) 5 w' w.heap.size (fun k_ => some k_ ≠ (.slice Ao17 y247.length co17 : Value).ownBlock ∧ some k_ ≠ (.slice Ao68 t256.length co68 : Value).ownBlock ∧ some k_ ≠ (v253 : Value).ownBlock) s_ t269) ∧ (Kd.R (Kd.int .u8) 5 w' w.heap.size (fun k_ => some k_ ≠ (s_ : Value).ownBlock ∧ some k_ ≠ (.slice Ao68 t256.length co68 : Value).ownBlock ∧ some k_ ≠ (v253 : Value).ownBlock) (.slice Ao17 y247.length co17) y247) ∧ (Kd.R (Kd.int .u8) 5 w' w.heap.size (fun k_ => some k_ ≠ (s_ : Value).ownBlock ∧ some k_ ≠ (.slice Ao17 y247.length co17 : Value).ownBlock ∧ some k_ ≠ (v253 : Value).ownBlock) (.slice Ao68 t256.length co68) t256) ∧ (Kd.R (Kd.int .u8) 5 w' w.heap.size (fun k_ => some k_ ≠ (s_ : Value).ownBlock ∧ some k_ ≠ (.slice Ao17 y247.length co17 : Value).ownBlock ∧ some k_ ≠ (.slice Ao68 t256.length co68 : Value).ownBlock) v253 t251) ∧ (Below w.heap.size w w')) ?_ ?_
                rotate_left
                ·intro hCont
                 refine two_ (i := 4) (j := 6) (Ni := some 101) (Nj := some 103) #[tY,tY,tY,tY,tY,tY,tN,tN,tN,tN,tN,tN,tN,tN,tN,tN,tN,tN,tN,tN,tN] #[tY,tY,tY,tY,tN,tY,tY,tN,tN,tN,tN,tN,tN,tN,tN,tN,tN,tN,tN,tN,tN] rfl rfl rfl rfl (two_of HT_.out (by kernel_rfl)) (by decide) (by decide) (fun K hK => ?_) (fun K hK => ?_)
                 ·skip
                  (have hcv70 := own_string (P := Try.prog) Try.underlying29 Try.underlying5 Try.underlying9 (Kd.own_of_R HO_6.out); have hcv70d := fun n_ : Nat => own_string (P := Try.prog) Try.underlying29 Try.underlying5 Try.underlying9 (Kd.own_of_R (Kd.R_drewN HO_6.out n_)))
                  refine value_ (w1 := ?_) (v := ?_) (by rfl) rfl ?_ ?_
                  rotate_left 2
                  ·go_simp
                   constructor
                   ·rfl
                   ·rfl
                  clear hcv70 hcv70d
                  refine hK.out _ _ trivial (fun hHeld => ?_)
                  clear hK K
                  refine norm_ (a' := ?_) ?_ ?_
                  rotate_left
                  ·show Act.put _ (some 101) _ = _
                   simp only [Act.put, sq_a1, sq_a2, sq_a3, i64_w, i32_w]
                   rfl
                  refine one_ (i := 6) (N := some 103) #[tY,tY,tY,tY,tY,tY,tY,tN,tN,tN,tN,tN,tN,tN,tN,tN,tN,tN,tN,tN,tN] rfl rfl (one_of HT_.out (by kernel_rfl)) (by decide) (fun K hK => ?_)
                  refine goes_ Try.func35 (by kernel_rfl) rfl #[.slice Ao17 y247.length co17] (by rfl) rfl rfl (by (try simp only [List.map_toArray, List.map_cons, List.map_nil]); first | done | rfl | (simp only [List.length_drop, List.length_take]; rfl)) ?_
                  with_reducible refine (shuttleref01_Bytes.calls kj22 _ _ y247 t269 _ ?side1 ?side2 A58.out).mono ?_
                  (case side1 => repeat (first | exact (Kd.R_reads' HO_0.out).2.2 | (with_reducible refine Kd.C_alloc ?_ _) | (with_reducible refine Kd.C_drewN ?_ _) | (with_reducible refine Kd.C_drew ?_)))
                  (case side2 => exact (Kd.R_reads' HO_0.out).2.1)
                  rintro e w71 ⟨v270, rfl, ho0, hb⟩
                  refine ⟨_, rfl, ?_⟩
                  have n0_ := Aside0.mk (Kd.R_elder' (by (with_reducible repeat (first | apply Kd.R_alloc | apply Kd.R_drewN | apply Kd.R_drew)); exact HO_0.out) (Kd.R_base ho0) hb)
                  have n1_ := Aside0.mk (Kd.R_elder' (by (with_reducible repeat (first | apply Kd.R_alloc | apply Kd.R_drewN | apply Kd.R_drew)); exact HO_6.out) (Kd.R_base ho0) hb)
                  have n2_ := Aside0.mk (Kd.R_elder' (by (with_reducible repeat (first | apply Kd.R_alloc | apply Kd.R_drewN | apply Kd.R_drew)); exact HO_10.out) (Kd.R_base ho0) hb)
                  have n3_ := Aside0.mk (Kd.R_lower (Kd.R_new' (Kd.R_new' (Kd.R_new' ho0 (Kd.R_lt (by (with_reducible repeat (first | apply Kd.R_alloc | apply Kd.R_drewN | apply Kd.R_drew)); exact HO_0.out))) (Kd.R_lt (by (with_reducible repeat (first | apply Kd.R_alloc | apply Kd.R_drewN | apply Kd.R_drew)); exact HO_6.out))) (Kd.R_lt (by (with_reducible repeat (first | apply Kd.R_alloc | apply Kd.R_drewN | apply Kd.R_drew)); exact HO_10.out))) (below_size (by repeat (first | (with_reducible first | exact HB.out | apply below_alloc | apply pw_below_drewN | apply below_drew1) | exact HB.out))))
                  have n4_ := Aside0.mk (below_step (by repeat (first | (with_reducible first | exact HB.out | apply below_alloc | apply pw_below_drewN | apply below_drew1) | exact HB.out)) hb)
                  clear HO_0
                  clear HO_6
                  clear HO_10
                  clear HB
                  have HO_0 := n0_
                  have HO_6 := n1_
                  have HO_10 := n2_
                  have HO271 := n3_
                  have HB := n4_
                  clear n0_ n1_ n2_ n3_ n4_
                  (try clear hb)
                  (try clear hb2)
                  (try clear hk)
                  (try clear hi)
                  (try clear ho0)
                  refine hK.out _ _ trivial (fun hHeld => ?_)
                  clear hK K
                  refine norm_ (a' := ?_) ?_ ?_
                  rotate_left
                  ·show Act.put _ (some 103) _ = _
                   simp only [Act.put, sq_a1, sq_a2, sq_a3, i64_w, i32_w]
                   rfl
                  refine one_ (i := 7) (N := some 104) #[tY,tY,tY,tY,tY,tY,tY,tY,tN,tN,tN,tN,tN,tN,tN,tN,tN,tN,tN,tN,tN] rfl rfl (one_of HT_.out (by kernel_rfl)) (by decide) (fun K hK => ?_)
                  (have hcv72 := own_string (P := Try.prog) Try.underlying29 Try.underlying5 Try.underlying9 (Kd.own_of_R HO271.out); have hcv72d := fun n_ : Nat => own_string (P := Try.prog) Try.underlying29 Try.underlying5 Try.underlying9 (Kd.own_of_R (Kd.R_drewN HO271.out n_)))
                  refine value_ (w1 := ?_) (v := ?_) (by rfl) rfl ?_ ?_
                  rotate_left 2
                  ·go_simp
                   constructor
                   ·rfl
                   ·rfl
                  clear hcv72 hcv72d
                  refine hK.out _ _ trivial (fun hHeld => ?_)
                  clear hK K
                  refine norm_ (a' := ?_) ?_ ?_
                  rotate_left
                  ·show Act.put _ (some 104) _ = _
                   simp only [Act.put, sq_a1, sq_a2, sq_a3, i64_w, i32_w]
                   rfl
                  exact norm_ (by simp only [putAll, Act.put, sq_a1, sq_a2, sq_a3]) (hCont (v270) _ ⟨(by (with_reducible repeat (first | apply Kd.R_alloc | apply Kd.R_drewN | apply Kd.R_drew)); exact Kd.R_mono HO271.out (fun _ hk => by first | exact ⟨hk.1.1.2, ⟨hk.2, hk.1.2⟩⟩ | (simp [hk]; done))), (by (with_reducible repeat (first | apply Kd.R_alloc | apply Kd.R_drewN | apply Kd.R_drew)); exact Kd.R_mono HO_0.out (fun _ hk => by first | exact ⟨hk.2, ⟨hk.1.2, hk.1.1⟩⟩ | (simp [hk]; done))), (by (with_reducible repeat (first | apply Kd.R_alloc | apply Kd.R_drewN | apply Kd.R_drew)); exact Kd.R_mono HO_10.out (fun _ hk => by first | exact ⟨hk.2, ⟨hk.1.1, hk.1.2⟩⟩ | (simp [hk]; done))), (by (with_reducible repeat (first | apply Kd.R_alloc | apply Kd.R_drewN | apply Kd.R_drew)); exact Kd.R_mono HO_6.out (fun _ hk => by first | exact ⟨hk.2, ⟨hk.1.1, hk.1.2⟩⟩ | (simp [hk]; done))), (by repeat (first | (with_reducible first | exact HB.out | apply below_alloc | apply pw_below_drewN | apply below_drew1) | exact HB.out))⟩)
                 ·skip
                  refine goes_ Try.func35 (by kernel_rfl) rfl #[.slice Ao17 y247.length co17] (by rfl) rfl rfl (by (try simp only [List.map_toArray, List.map_cons, List.map_nil]); first | done | rfl | (simp only [List.length_drop, List.length_take]; rfl)) ?_
                  with_reducible refine (shuttleref01_Bytes.calls kj22 _ _ y247 t269 _ ?side1 ?side2 A58.out).mono ?_
                  (case side1 => repeat (first | exact (Kd.R_reads' HO_0.out).2.2 | (with_reducible refine Kd.C_alloc ?_ _) | (with_reducible refine Kd.C_drewN ?_ _) | (with_reducible refine Kd.C_drew ?_)))
                  (case side2 => exact (Kd.R_reads' HO_0.out).2.1)
                  rintro e w70 ⟨v270, rfl, ho0, hb⟩
                  refine ⟨_, rfl, ?_⟩
                  have n0_ := Aside0.mk (Kd.R_elder' (by (with_reducible repeat (first | apply Kd.R_alloc | apply Kd.R_drewN | apply Kd.R_drew)); exact HO_0.out) (Kd.R_base ho0) hb)
                  have n1_ := Aside0.mk (Kd.R_elder' (by (with_reducible repeat (first | apply Kd.R_alloc | apply Kd.R_drewN | apply Kd.R_drew)); exact HO_6.out) (Kd.R_base ho0) hb)
                  have n2_ := Aside0.mk (Kd.R_elder' (by (with_reducible repeat (first | apply Kd.R_alloc | apply Kd.R_drewN | apply Kd.R_drew)); exact HO_10.out) (Kd.R_base ho0) hb)
                  have n3_ := Aside0.mk (Kd.R_lower (Kd.R_new' (Kd.R_new' (Kd.R_new' ho0 (Kd.R_lt (by (with_reducible repeat (first | apply Kd.R_alloc | apply Kd.R_drewN | apply Kd.R_drew)); exact HO_0.out))) (Kd.R_lt (by (with_reducible repeat (first | apply Kd.R_alloc | apply Kd.R_drewN | apply Kd.R_drew)); exact HO_6.out))) (Kd.R_lt (by (with_reducible repeat (first | apply Kd.R_alloc | apply Kd.R_drewN | apply Kd.R_drew)); exact HO_10.out))) (below_size (by repeat (first | (with_reducible first | exact HB.out | apply below_alloc | apply pw_below_drewN | apply below_drew1) | exact HB.out))))
                  have n4_ := Aside0.mk (below_step (by repeat (first | (with_reducible first | exact HB.out | apply below_alloc | apply pw_below_drewN | apply below_drew1) | exact HB.out)) hb)
                  clear HO_0
                  clear HO_6
                  clear HO_10
                  clear HB
                  have HO_0 := n0_
                  have HO_6 := n1_
                  have HO_10 := n2_
                  have HO271 := n3_
                  have HB := n4_
                  clear n0_ n1_ n2_ n3_ n4_
                  (try clear hb)
                  (try clear hb2)
                  (try clear hk)
                  (try clear hi)
                  (try clear ho0)
                  refine hK.out _ _ trivial (fun hHeld => ?_)
                  clear hK K
                  refine norm_ (a' := ?_) ?_ ?_
                  rotate_left
                  ·show Act.put _ (some 103) _ = _
                   simp only [Act.put, sq_a1, sq_a2, sq_a3, i64_w, i32_w]
                   rfl
                  refine two_ (i := 4) (j := 7) (Ni := some 101) (Nj := some 104) #[tY,tY,tY,tY,tY,tY,tY,tN,tN,tN,tN,tN,tN,tN,tN,tN,tN,tN,tN,tN,tN] #[tY,tY,tY,tY,tN,tY,tY,tY,tN,tN,tN,tN,tN,tN,tN,tN,tN,tN,tN,tN,tN] rfl rfl rfl rfl (two_of HT_.out (by kernel_rfl)) (by decide) (by decide) (fun K hK => ?_) (fun K hK => ?_)
                  ·skip
                   (have hcv71 := own_string (P := Try.prog) Try.underlying29 Try.underlying5 Try.underlying9 (Kd.own_of_R HO_6.out); have hcv71d := fun n_ : Nat => own_string (P := Try.prog) Try.underlying29 Try.underlying5 Try.underlying9 (Kd.own_of_R (Kd.R_drewN HO_6.out n_)))
                   refine value_ (w1 := ?_) (v := ?_) (by rfl) rfl ?_ ?_
                   rotate_left 2
                   ·go_simp
                    constructor
                    ·rfl
                    ·rfl
                   clear hcv71 hcv71d
                   refine hK.out _ _ trivial (fun hHeld => ?_)
                   clear hK K
                   refine norm_ (a' := ?_) ?_ ?_
                   rotate_left
                   ·show Act.put _ (some 101) _ = _
                    simp only [Act.put, sq_a1, sq_a2, sq_a3, i64_w, i32_w]
                    rfl
                   refine one_ (i := 7) (N := some 104) #[tY,tY,tY,tY,tY,tY,tY,tY,tN,tN,tN,tN,tN,tN,tN,tN,tN,tN,tN,tN,tN] rfl rfl (one_of HT_.out (by kernel_rfl)) (by decide) (fun K hK => ?_)
                   (have hcv72 := own_string (P := Try.prog) Try.underlying29 Try.underlying5 Try.underlying9 (Kd.own_of_R HO271.out); have hcv72d := fun n_ : Nat => own_string (P := Try.prog) Try.underlying29 Try.underlying5 Try.underlying9 (Kd.own_of_R (Kd.R_drewN HO271.out n_)))
                   refine value_ (w1 := ?_) (v := ?_) (by rfl) rfl ?_ ?_
                   rotate_left 2
                   ·go_simp
                    constructor
                    ·rfl
                    ·rfl
                   clear hcv72 hcv72d
                   refine hK.out _ _ trivial (fun hHeld => ?_)
                   clear hK K
                   refine norm_ (a' := ?_) ?_ ?_
                   rotate_left
                   ·show Act.put _ (some 104) _ = _
                    simp only [Act.put, sq_a1, sq_a2, sq_a3, i64_w, i32_w]
                    rfl
                   exact norm_ (by simp only [putAll, Act.put, sq_a1, sq_a2, sq_a3]) (hCont (v270) _ ⟨(by (with_reducible repeat (first | apply Kd.R_alloc | apply Kd.R_drewN | apply Kd.R_drew)); exact Kd.R_mono HO271.out (fun _ hk => by first | exact ⟨hk.1.1.2, ⟨hk.2, hk.1.2⟩⟩ | (simp [hk]; done))), (by (with_reducible repeat (first | apply Kd.R_alloc | apply Kd.R_drewN | apply Kd.R_drew)); exact Kd.R_mono HO_0.out (fun _ hk => by first | exact ⟨hk.2, ⟨hk.1.2, hk.1.1⟩⟩ | (simp [hk]; done))), (by (with_reducible repeat (first | apply Kd.R_alloc | apply Kd.R_drewN | apply Kd.R_drew)); exact Kd.R_mono HO_10.out (fun _ hk => by first | exact ⟨hk.2, ⟨hk.1.1, hk.1.2⟩⟩ | (simp [hk]; done))), (by (with_reducible repeat (first | apply Kd.R_alloc | apply Kd.R_drewN | apply Kd.R_drew)); exact Kd.R_mono HO_6.out (fun _ hk => by first | exact ⟨hk.2, ⟨hk.1.1, hk.1.2⟩⟩ | (simp [hk]; done))), (by repeat (first | (with_reducible first | exact HB.out | apply below_alloc | apply pw_below_drewN | apply below_drew1) | exact HB.out))⟩)
                  ·skip
                   (have hcv71 := own_string (P := Try.prog) Try.underlying29 Try.underlying5 Try.underlying9 (Kd.own_of_R HO271.out); have hcv71d := fun n_ : Nat => own_string (P := Try.prog) Try.underlying29 Try.underlying5 Try.underlying9 (Kd.own_of_R (Kd.R_drewN HO271.out n_)))
                   refine value_ (w1 := ?_) (v := ?_) (by rfl) rfl ?_ ?_
                   rotate_left 2
                   ·go_simp
                    constructor
                    ·rfl
                    ·rfl
                   clear hcv71 hcv71d
                   refine hK.out _ _ trivial (fun hHeld => ?_)
                   clear hK K
                   refine norm_ (a' := ?_) ?_ ?_
                   rotate_left
                   ·show Act.put _ (some 104) _ = _
                    simp only [Act.put, sq_a1, sq_a2, sq_a3, i64_w, i32_w]
                    rfl
                   refine one_ (i := 4) (N := some 101) #[tY,tY,tY,tY,tY,tY,tY,tY,tN,tN,tN,tN,tN,tN,tN,tN,tN,tN,tN,tN,tN] rfl rfl (one_of HT_.out (by kernel_rfl)) (by decide) (fun K hK => ?_)
                   (have hcv72 := own_string (P := Try.prog) Try.underlying29 Try.underlying5 Try.underlying9 (Kd.own_of_R HO_6.out); have hcv72d := fun n_ : Nat => own_string (P := Try.prog) Try.underlying29 Try.underlying5 Try.underlying9 (Kd.own_of_R (Kd.R_drewN HO_6.out n_)))
                   refine value_ (w1 := ?_) (v := ?_) (by rfl) rfl ?_ ?_
                   rotate_left 2
                   ·go_simp
                    constructor
                    ·rfl
                    ·rfl
                   clear hcv72 hcv72d
                   refine hK.out _ _ trivial (fun hHeld => ?_)
                   clear hK K
                   refine norm_ (a' := ?_) ?_ ?_
                   rotate_left
                   ·show Act.put _ (some 101) _ = _
                    simp only [Act.put, sq_a1, sq_a2, sq_a3, i64_w, i32_w]
                    rfl
                   exact norm_ (by simp only [putAll, Act.put, sq_a1, sq_a2, sq_a3]) (hCont (v270) _ ⟨(by (with_reducible repeat (first | apply Kd.R_alloc | apply Kd.R_drewN | apply Kd.R_drew)); exact Kd.R_mono HO271.out (fun _ hk => by first | exact ⟨hk.1.1.2, ⟨hk.2, hk.1.2⟩⟩ | (simp [hk]; done))), (by (with_reducible repeat (first | apply Kd.R_alloc | apply Kd.R_drewN | apply Kd.R_drew)); exact Kd.R_mono HO_0.out (fun _ hk => by first | exact ⟨hk.2, ⟨hk.1.2, hk.1.1⟩⟩ | (simp [hk]; done))), (by (with_reducible repeat (first | apply Kd.R_alloc | apply Kd.R_drewN | apply Kd.R_drew)); exact Kd.R_mono HO_10.out (fun _ hk => by first | exact ⟨hk.2, ⟨hk.1.1, hk.1.2⟩⟩ | (simp [hk]; done))), (by (with_reducible repeat (first | apply Kd.R_alloc | apply Kd.R_drewN | apply Kd.R_drew)); exact Kd.R_mono HO_6.out (fun _ hk => by first | exact ⟨hk.2, ⟨hk.1.1, hk.1.2⟩⟩ | (simp [hk]; done))), (by repeat (first | (with_reducible first | exact HB.out | apply below_alloc | apply pw_below_drewN | apply below_drew1) | exact HB.out))⟩)
                rintro v270 w73 ⟨h0_, h1_, h2_, h3_, h4_⟩
                have n0_ : Aside0 (Kd.R (Kd.int .u8) 5 w73 w.heap.size (fun k_ => some k_ ≠ (.slice Ao17 y247.length co17 : Value).ownBlock ∧ some k_ ≠ (.slice Ao68 t256.length co68 : Value).ownBlock ∧ some k_ ≠ (v253 : Value).ownBlock) v270 t269) := ⟨h0_⟩
                have n1_ : Aside0 (Kd.R (Kd.int .u8) 5 w73 w.heap.size (fun k_ => some k_ ≠ (v270 : Value).ownBlock ∧ some k_ ≠ (.slice Ao68 t256.length co68 : Value).ownBlock ∧ some k_ ≠ (v253 : Value).ownBlock) (.slice Ao17 y247.length co17) y247) := ⟨h1_⟩
                have n2_ : Aside0 (Kd.R (Kd.int .u8) 5 w73 w.heap.size (fun k_ => some k_ ≠ (v270 : Value).ownBlock ∧ some k_ ≠ (.slice Ao17 y247.length co17 : Value).ownBlock ∧ some k_ ≠ (v253 : Value).ownBlock) (.slice Ao68 t256.length co68) t256) := ⟨h2_⟩
                have n3_ : Aside0 (Kd.R (Kd.int .u8) 5 w73 w.heap.size (fun k_ => some k_ ≠ (v270 : Value).ownBlock ∧ some k_ ≠ (.slice Ao17 y247.length co17 : Value).ownBlock ∧ some k_ ≠ (.slice Ao68 t256.length co68 : Value).ownBlock) v253 t251) := ⟨h3_⟩
                have n4_ : Aside0 (Below w.heap.size w w73) := ⟨h4_⟩
                clear HO_0
                clear HO_6
                clear HO_10
                clear HB
                clear h0_ h1_ h2_ h3_ h4_
                have HO271 := n0_
                have HO_0 := n1_
                have HO_10 := n2_
                have HO_6 := n3_
                have HB := n4_
                clear n0_ n1_ n2_ n3_ n4_
                have hHeld := trivial
                refine norm_ (a' := ?_) ?_ ?_
                rotate_left
                ·simp only [putAll, Act.put, sq_a1, sq_a2, sq_a3]
                 rfl
                refine pure_ (i := 8) (N := some 105) (v := ?_) (a' := ?_) #[tY,tY,tY,tY,tY,tY,tY,tY,tY,tN,tN,tN,tN,tN,tN,tN,tN,tN,tN,tN,tN] rfl rfl (any_of HT_.out (by kernel_rfl)) (fun _ _ _ h => h) (Or.inl ⟨by rfl, ?_⟩) ?_ ?_
                rotate_left
                ·intro w'
                 go_simp
                 with_reducible rfl
                rotate_left
                ·simp only [Act.put, sq_a1, sq_a2, sq_a3, i64_w, i32_w]
                 rfl
                refine pure_ (i := 9) (N := some 106) (v := ?_) (a' := ?_) #[tY,tY,tY,tY,tY,tY,tY,tY,tY,tY,tN,tN,tN,tN,tN,tN,tN,tN,tN,tN,tN] rfl rfl (any_of HT_.out (by kernel_rfl)) (fun _ _ _ h => h) (Or.inl ⟨by rfl, ?_⟩) ?_ ?_
                rotate_left
                ·intro w'
                 go_simp
                 with_reducible rfl
                rotate_left
                ·simp only [Act.put, sq_a1, sq_a2, sq_a3, i64_w, i32_w]
                 rfl
                refine pure_ (i := 10) (N := some 107) (v := ?_) (a' := ?_) #[tY,tY,tY,tY,tY,tY,tY,tY,tY,tY,tY,tN,tN,tN,tN,tN,tN,tN,tN,tN,tN] rfl rfl (any_of HT_.out (by kernel_rfl)) (fun _ _ _ h => h) (Or.inl ⟨by rfl, ?_⟩) ?_ ?_
                rotate_left
                ·intro w'
                 go_simp
                 with_reducible rfl
                rotate_left
                ·simp only [Act.put, sq_a1, sq_a2, sq_a3, i64_w, i32_w]
                 rfl
                refine pure_ (i := 11) (N := some 108) (v := ?_) (a' := ?_) #[tY,tY,tY,tY,tY,tY,tY,tY,tY,tY,tY,tY,tN,tN,tN,tN,tN,tN,tN,tN,tN] rfl rfl (any_of HT_.out (by kernel_rfl)) (fun _ _ _ h => h) (Or.inl ⟨by rfl, ?_⟩) ?_ ?_
                rotate_left
                ·intro w'
                 go_simp
                 with_reducible rfl
                rotate_left
                ·simp only [Act.put, sq_a1, sq_a2, sq_a3, i64_w, i32_w]
                 rfl
                refine pure_ (i := 12) (N := some 109) (v := ?_) (a' := ?_) #[tY,tY,tY,tY,tY,tY,tY,tY,tY,tY,tY,tY,tY,tN,tN,tN,tN,tN,tN,tN,tN] rfl rfl (any_of HT_.out (by kernel_rfl)) (fun _ _ _ h => h) (Or.inl ⟨by rfl, ?_⟩) ?_ ?_
                rotate_left
                ·intro w'
                 go_simp
                 with_reducible rfl
                rotate_left
                ·simp only [Act.put, sq_a1, sq_a2, sq_a3, i64_w, i32_w]
                 rfl
                refine pure_ (i := 13) (N := some 110) (v := ?_) (a' := ?_) #[tY,tY,tY,tY,tY,tY,tY,tY,tY,tY,tY,tY,tY,tY,tN,tN,tN,tN,tN,tN,tN] rfl rfl (any_of HT_.out (by kernel_rfl)) (fun _ _ _ h => h) (Or.inl ⟨by rfl, ?_⟩) ?_ ?_
                rotate_left
                ·intro w'
                 go_simp
                 with_reducible rfl
                rotate_left
                ·simp only [Act.put, sq_a1, sq_a2, sq_a3, i64_w, i32_w]
                 rfl
                refine pure_ (i := 14) (N := some 111) (v := undef) (a' := ?_) #[tY,tY,tY,tY,tY,tY,tY,tY,tY,tY,tY,tY,tY,tY,tY,tN,tN,tN,tN,tN,tN] rfl rfl (any_of HT_.out (by kernel_rfl)) (fun _ _ _ h => h) (Or.inr ⟨by rfl, rfl⟩) ?_ ?_
                rotate_left
                ·simp only [Act.put, sq_a1, sq_a2, sq_a3, i64_w, i32_w]
                 rfl
                refine pure_ (i := 15) (N := some 112) (v := undef) (a' := ?_) #[tY,tY,tY,tY,tY,tY,tY,tY,tY,tY,tY,tY,tY,tY,tY,tY,tN,tN,tN,tN,tN] rfl rfl (any_of HT_.out (by kernel_rfl)) (fun _ _ _ h => h) (Or.inr ⟨by rfl, rfl⟩) ?_ ?_
                rotate_left
                ·simp only [Act.put, sq_a1, sq_a2, sq_a3, i64_w, i32_w]
                 rfl
                refine pure_ (i := 16) (N := some 113) (v := undef) (a' := ?_) #[tY,tY,tY,tY,tY,tY,tY,tY,tY,tY,tY,tY,tY,tY,tY,tY,tY,tN,tN,tN,tN] rfl rfl (any_of HT_.out (by kernel_rfl)) (fun _ _ _ h => h) (Or.inr ⟨by rfl, rfl⟩) ?_ ?_
                rotate_left
                ·simp only [Act.put, sq_a1, sq_a2, sq_a3, i64_w, i32_w]
                 rfl
                refine pure_ (i := 17) (N := some 114) (v := undef) (a' := ?_) #[tY,tY,tY,tY,tY,tY,tY,tY,tY,tY,tY,tY,tY,tY,tY,tY,tY,tY,tN,tN,tN] rfl rfl (any_of HT_.out (by kernel_rfl)) (fun _ _ _ h => h) (Or.inr ⟨by rfl, rfl⟩) ?_ ?_
                rotate_left
                ·simp only [Act.put, sq_a1, sq_a2, sq_a3, i64_w, i32_w]
                 rfl
                refine pure_ (i := 18) (N := some 115) (v := undef) (a' := ?_) #[tY,tY,tY,tY,tY,tY,tY,tY,tY,tY,tY,tY,tY,tY,tY,tY,tY,tY,tY,tN,tN] rfl rfl (any_of HT_.out (by kernel_rfl)) (fun _ _ _ h => h) (Or.inr ⟨by rfl, rfl⟩) ?_ ?_
                rotate_left
                ·simp only [Act.put, sq_a1, sq_a2, sq_a3, i64_w, i32_w]
                 rfl
                refine pure_ (i := 19) (N := some 116) (v := ?_) (a' := ?_) #[tY,tY,tY,tY,tY,tY,tY,tY,tY,tY,tY,tY,tY,tY,tY,tY,tY,tY,tY,tY,tN] rfl rfl (any_of HT_.out (by kernel_rfl)) (fun _ _ _ h => h) (Or.inl ⟨by rfl, ?_⟩) ?_ ?_
                rotate_left
                ·intro w'
                 go_simp
                 with_reducible rfl
                rotate_left
                ·simp only [Act.put, sq_a1, sq_a2, sq_a3, i64_w, i32_w]
                 rfl
                refine pure_ (i := 20) (N := some 4) (v := ?_) (a' := ?_) #[tY,tY,tY,tY,tY,tY,tY,tY,tY,tY,tY,tY,tY,tY,tY,tY,tY,tY,tY,tY,tY] rfl rfl (any_of HT_.out (by kernel_rfl)) (fun _ _ _ h => h) (Or.inl ⟨by rfl, ?_⟩) ?_ ?_
                rotate_left
                ·intro w'
                 go_simp
                 with_reducible rfl
                rotate_left
                ·simp only [Act.put, sq_a1, sq_a2, sq_a3, i64_w, i32_w]
                 rfl
                refine done_ (done_of HT_.out (by kernel_rfl)) ?_
                try go_wp2
                go_ret
                exact ⟨by first | rfl | (simp [errW_none, errW_some] <;> rfl) | (simp only [← hji3, ← hji7]; first | rfl | (simp [errW_none, errW_some] <;> rfl)) | (simp [*, errW_none, errW_some] <;> rfl), by repeat (first | (with_reducible first | exact HB.out | apply below_alloc | apply pw_below_drewN | apply below_drew1) | exact HB.out)⟩
              ·rw [if_neg c59] at H
               have c59b0 : ((strOfNums t251).toList == (strOfNums t269).toList) = false := beq_eq_false_iff_ne.mpr c59
               have c59b1 : ((strOfNums t251).toList != (strOfNums t269).toList) = true := bne_iff_ne.mpr c59
               obtain rfl := Option.some.inj H
               obtain ⟨Ao74, co74, eo74⟩ := Kd.R_slice HO_10.out
               subst eo74
               try go_wp2_with (first | ((with_reducible refine gate_callee (f := 31) rfl ?_); refine goesL_ (some 81) rfl rfl Try.func31 (by kernel_rfl) rfl #[.slice Ao17 y247.length co17, .slice Ao74 t256.length co74] rfl (by (try simp only [List.map_toArray, List.map_cons, List.map_nil]); first | done | rfl | (simp only [List.length_drop, List.length_take]; rfl)) ?_; (with_reducible refine (bits_Apart.calls kj22 _ _ y247 _ _ t256 t266 t267 _ ?side1 ?side2 ?side3 ?side4 A54.out).mono ?_); (case side1 => repeat (first | exact (Kd.R_reads' HO_0.out).2.2 | (with_reducible refine Kd.C_alloc ?_ _) | (with_reducible refine Kd.C_drewN ?_ _) | (with_reducible refine Kd.C_drew ?_))); (case side2 => exact (Kd.R_reads' HO_0.out).2.1); (case side3 => repeat (first | exact (Kd.R_reads' HO_10.out).2.2 | (with_reducible refine Kd.C_alloc ?_ _) | (with_reducible refine Kd.C_drewN ?_ _) | (with_reducible refine Kd.C_drew ?_))); (case side4 => exact (Kd.R_reads' HO_10.out).2.1); rintro e w' ⟨rfl, ⟨nd, rfl⟩⟩; refine ⟨_, rfl, ?_⟩) | ((with_reducible refine gate_callee (f := 20) rfl ?_); refine goesL_ (some 85) rfl rfl Try.func20 (by kernel_rfl) rfl #[.slice Ao17 y247.length co17] rfl (by (try simp only [List.map_toArray, List.map_cons, List.map_nil]); first | done | rfl | (simp only [List.length_drop, List.length_take]; rfl)) ?_; (with_reducible refine (shuttleref01_Right.calls kj22 _ _ y247 true _ ?side1 ?side2 A55.out).mono ?_); (case side1 => repeat (first | exact (Kd.R_reads' HO_0.out).2.2 | (with_reducible refine Kd.C_alloc ?_ _) | (with_reducible refine Kd.C_drewN ?_ _) | (with_reducible refine Kd.C_drew ?_))); (case side2 => exact (Kd.R_reads' HO_0.out).2.1); rintro e w' ⟨rfl, ⟨nd, rfl⟩⟩; refine ⟨_, rfl, ?_⟩))
               (try (rw [drewN_self wc]; generalize hq_ : World.drewN wc _ = wc; have n0_ : Aside0 (Kd.R (Kd.int .u8) 5 wc w.heap.size (fun k_ => some k_ ≠ (.slice Ao74 t256.length co74 : Value).ownBlock ∧ some k_ ≠ (v253 : Value).ownBlock) (.slice Ao17 y247.length co17) y247) := ⟨by rw [← hq_]; exact (by (with_reducible repeat (first | apply Kd.R_alloc | apply Kd.R_drewN | apply Kd.R_drew)); exact Kd.R_mono HO_0.out (fun _ hk => by first | exact ⟨hk.2, hk.1⟩ | (simp [hk]; done)))⟩; have n1_ : Aside0 (Kd.R (Kd.int .u8) 5 wc w.heap.size (fun k_ => some k_ ≠ (.slice Ao17 y247.length co17 : Value).ownBlock ∧ some k_ ≠ (v253 : Value).ownBlock) (.slice Ao74 t256.length co74) t256) := ⟨by rw [← hq_]; exact (by (with_reducible repeat (first | apply Kd.R_alloc | apply Kd.R_drewN | apply Kd.R_drew)); exact HO_10.out)⟩; have n2_ : Aside0 (Kd.R (Kd.int .u8) 5 wc w.heap.size (fun k_ => some k_ ≠ (.slice Ao17 y247.length co17 : Value).ownBlock ∧ some k_ ≠ (.slice Ao74 t256.length co74 : Value).ownBlock) v253 t251) := ⟨by rw [← hq_]; exact (by (with_reducible repeat (first | apply Kd.R_alloc | apply Kd.R_drewN | apply Kd.R_drew)); exact HO_6.out)⟩; have n3_ : Aside0 (Below w.heap.size w wc) := ⟨by rw [← hq_]; exact (by repeat (first | (with_reducible first | exact HB.out | apply below_alloc | apply pw_below_drewN | apply below_drew1) | exact HB.out))⟩; clear HO_0 HO_10 HO_6 HB hq_; have HO_0 := n0_; have HO_10 := n1_; have HO_6 := n2_; have HB := n3_; clear n0_ n1_ n2_ n3_))
               have n0_ := Aside0.mk (Kd.R_drew HO_0.out)
               have n1_ := Aside0.mk (Kd.R_drew HO_6.out)
               have n2_ := Aside0.mk (Kd.R_drew HO_10.out)
               have n3_ := Aside0.mk (below_drew1 HB.out)
               clear HO_0
               clear HO_6
               clear HO_10
               clear HB
               have HO_0 := n0_
               have HO_6 := n1_
               have HO_10 := n2_
               have HB := n3_
               clear n0_ n1_ n2_ n3_
               refine start_ (n := 21) (S := fun w' => True) (ds := []) #[tN,tN,tN,tN,tN,tN,tN,tN,tN,tN,tN,tN,tN,tN,tN,tN,tN,tN,tN,tN,tN] (by kernel_rfl) rfl rfl trivial (fun hHeld => ?_); refine with_tabW shuttlelaw01_BitsLists.tab17 shuttlelaw01_BitsLists.bits17 (fun HT_ HW_ => ?_)
               generalize wc.drew = w75 at HO_0 HO_6 HO_10 HB hHeld ⊢
               refine pure_ (i := 0) (N := some 97) (v := ?_) (a' := ?_) #[tY,tN,tN,tN,tN,tN,tN,tN,tN,tN,tN,tN,tN,tN,tN,tN,tN,tN,tN,tN,tN] rfl rfl (any_of HT_.out (by kernel_rfl)) (fun _ _ _ h => h) (Or.inl ⟨by rfl, ?_⟩) ?_ ?_
               rotate_left
               ·intro w'
                go_simp
                with_reducible rfl
               rotate_left
               ·simp only [Act.put, sq_a1, sq_a2, sq_a3, i64_w, i32_w]
                rfl
               refine pure_ (i := 1) (N := some 98) (v := ?_) (a' := ?_) #[tY,tY,tN,tN,tN,tN,tN,tN,tN,tN,tN,tN,tN,tN,tN,tN,tN,tN,tN,tN,tN] rfl rfl (any_of HT_.out (by kernel_rfl)) (fun _ _ _ h => h) (Or.inl ⟨by rfl, ?_⟩) ?_ ?_
               rotate_left
               ·intro w'
                go_simp
                with_reducible rfl
               rotate_left
               ·simp only [Act.put, sq_a1, sq_a2, sq_a3, i64_w, i32_w]
                rfl
               refine pure_ (i := 2) (N := some 99) (v := ?_) (a' := ?_) #[tY,tY,tY,tN,tN,tN,tN,tN,tN,tN,tN,tN,tN,tN,tN,tN,tN,tN,tN,tN,tN] rfl rfl (any_of HT_.out (by kernel_rfl)) (fun _ _ _ h => h) (Or.inl ⟨by rfl, ?_⟩) ?_ ?_
               rotate_left
               ·intro w'
                go_simp
                with_reducible rfl
               rotate_left
               ·simp only [Act.put, sq_a1, sq_a2, sq_a3, i64_w, i32_w]
                rfl
               refine pure_ (i := 3) (N := some 100) (v := ?_) (a' := ?_) #[tY,tY,tY,tY,tN,tN,tN,tN,tN,tN,tN,tN,tN,tN,tN,tN,tN,tN,tN,tN,tN] rfl rfl (any_of HT_.out (by kernel_rfl)) (fun _ _ _ h => h) (Or.inl ⟨by rfl, ?_⟩) ?_ ?_
               rotate_left
               ·intro w'
                go_simp
                with_reducible rfl
               rotate_left
               ·simp only [Act.put, sq_a1, sq_a2, sq_a3, i64_w, i32_w]
                rfl
               refine pure_ (i := 5) (N := some 102) (v := ?_) (a' := ?_) #[tY,tY,tY,tY,tN,tY,tN,tN,tN,tN,tN,tN,tN,tN,tN,tN,tN,tN,tN,tN,tN] rfl rfl (any_of HT_.out (by kernel_rfl)) (fun _ _ _ h => h) (Or.inl ⟨by rfl, ?_⟩) ?_ ?_
               rotate_left
               ·intro w'
                go_simp
                with_reducible rfl
               rotate_left
               ·simp only [Act.put, sq_a1, sq_a2, sq_a3, i64_w, i32_w]
                rfl
               refine join_ (σ := Value) 13 #[tY,tY,tY,tY,tY,tY,tY,tY,tN,tN,tN,tN,tN,tN,tN,tN,tN,tN,tN,tN,tN] (fun s_ => [(101, .string (strOfNums t251)), (103, s_), (104, .string (strOfNums t269))]) (fun s_ w' => (Kd.R (Kd.int .u8) 5 w' w.heap.size (fun k_ => some k_ ≠ (.slice Ao17 y247.length co17 : Value).ownBlock ∧ some k_ ≠ (.slice Ao74 t256.length co74 : Value).ownBlock ∧ some k_ ≠ (v253 : Value).ownBlock) s_ t269) ∧ (Kd.R (Kd.int .u8) 5 w' w.heap.size (fun k_ => some k_ ≠ (s_ : Value).ownBlock ∧ some k_ ≠ (.slice Ao74 t256.length co74 : Value).ownBlock ∧ some k_ ≠ (v253 : Value).ownBlock) (.slice Ao17 y247.length co17) y247) ∧ (Kd.R (Kd.int .u8) 5 w' w.heap.size (fun k_ => some k_ ≠ (s_ : Value).ownBlock ∧ some k_ ≠ (.slice Ao17 y247.length co17 : Value).ownBlock ∧ some k_ ≠ (v253 : Value).ownBlock) (.slice Ao74 t256.length co74) t256) ∧ (Kd.R (Kd.int .u8) 5 w' w.heap.size (fun k_ => some k_ ≠ (s_ : Value).ownBlock ∧ some k_ ≠ (.slice Ao17 y247.length co17 : Value).ownBlock ∧ some k_ ≠ (.slice Ao74 t256.length co74 : Value).ownBlock) v253 t251) ∧ (Below w.heap.size w w')) ?_ ?_
               rotate_left
               ·intro hCont
                refine two_ (i := 4) (j := 6) (Ni := some 101) (Nj := some 103) #[tY,tY,tY,tY,tY,tY,tN,tN,tN,tN,tN,tN,tN,tN,tN,tN,tN,tN,tN,tN,tN] #[tY,tY,tY,tY,tN,tY,tY,tN,tN,tN,tN,tN,tN,tN,tN,tN,tN,tN,tN,tN,tN] rfl rfl rfl rfl (two_of HT_.out (by kernel_rfl)) (by decide) (by decide) (fun K hK => ?_) (fun K hK => ?_)
                ·skip
                 (have hcv76 := own_string (P := Try.prog) Try.underlying29 Try.underlying5 Try.underlying9 (Kd.own_of_R HO_6.out); have hcv76d := fun n_ : Nat => own_string (P := Try.prog) Try.underlying29 Try.underlying5 Try.underlying9 (Kd.own_of_R (Kd.R_drewN HO_6.out n_)))
                 refine value_ (w1 := ?_) (v := ?_) (by rfl) rfl ?_ ?_
                 rotate_left 2
                 ·go_simp
                  constructor
                  ·rfl
                  ·rfl
                 clear hcv76 hcv76d
                 refine hK.out _ _ trivial (fun hHeld => ?_)
                 clear hK K
                 refine norm_ (a' := ?_) ?_ ?_
                 rotate_left
                 ·show Act.put _ (some 101) _ = _
                  simp only [Act.put, sq_a1, sq_a2, sq_a3, i64_w, i32_w]
                  rfl
                 refine one_ (i := 6) (N := some 103) #[tY,tY,tY,tY,tY,tY,tY,tN,tN,tN,tN,tN,tN,tN,tN,tN,tN,tN,tN,tN,tN] rfl rfl (one_of HT_.out (by kernel_rfl)) (by decide) (fun K hK => ?_)
                 refine goes_ Try.func35 (by kernel_rfl) rfl #[.slice Ao17 y247.length co17] (by rfl) rfl rfl (by (try simp only [List.map_toArray, List.map_cons, List.map_nil]); first | done | rfl | (simp only [List.length_drop, List.length_take]; rfl)) ?_
                 with_reducible refine (shuttleref01_Bytes.calls kj22 _ _ y247 t269 _ ?side1 ?side2 A58.out).mono ?_
                 (case side1 => repeat (first | exact (Kd.R_reads' HO_0.out).2.2 | (with_reducible refine Kd.C_alloc ?_ _) | (with_reducible refine Kd.C_drewN ?_ _) | (with_reducible refine Kd.C_drew ?_)))
                 (case side2 => exact (Kd.R_reads' HO_0.out).2.1)
                 rintro e w77 ⟨v270, rfl, ho0, hb⟩
                 refine ⟨_, rfl, ?_⟩
                 have n0_ := Aside0.mk (Kd.R_elder' (by (with_reducible repeat (first | apply Kd.R_alloc | apply Kd.R_drewN | apply Kd.R_drew)); exact HO_0.out) (Kd.R_base ho0) hb)
                 have n1_ := Aside0.mk (Kd.R_elder' (by (with_reducible repeat (first | apply Kd.R_alloc | apply Kd.R_drewN | apply Kd.R_drew)); exact HO_6.out) (Kd.R_base ho0) hb)
                 have n2_ := Aside0.mk (Kd.R_elder' (by (with_reducible repeat (first | apply Kd.R_alloc | apply Kd.R_drewN | apply Kd.R_drew)); exact HO_10.out) (Kd.R_base ho0) hb)
                 have n3_ := Aside0.mk (Kd.R_lower (Kd.R_new' (Kd.R_new' (Kd.R_new' ho0 (Kd.R_lt (by (with_reducible repeat (first | apply Kd.R_alloc | apply Kd.R_drewN | apply Kd.R_drew)); exact HO_0.out))) (Kd.R_lt (by (with_reducible repeat (first | apply Kd.R_alloc | apply Kd.R_drewN | apply Kd.R_drew)); exact HO_6.out))) (Kd.R_lt (by (with_reducible repeat (first | apply Kd.R_alloc | apply Kd.R_drewN | apply Kd.R_drew)); exact HO_10.out))) (below_size (by repeat (first | (with_reducible first | exact HB.out | apply below_alloc | apply pw_below_drewN | apply below_drew1) | exact HB.out))))
                 have n4_ := Aside0.mk (below_step (by repeat (first | (with_reducible first | exact HB.out | apply below_alloc | apply pw_below_drewN | apply below_drew1) | exact HB.out)) hb)
                 clear HO_0
                 clear HO_6
                 clear HO_10
                 clear HB
                 have HO_0 := n0_
                 have HO_6 := n1_
                 have HO_10 := n2_
                 have HO271 := n3_
                 have HB := n4_
                 clear n0_ n1_ n2_ n3_ n4_
                 (try clear hb)
                 (try clear hb2)
                 (try clear hk)
                 (try clear hi)
                 (try clear ho0)
                 refine hK.out _ _ trivial (fun hHeld => ?_)
                 clear hK K
                 refine norm_ (a' := ?_) ?_ ?_
                 rotate_left
                 ·show Act.put _ (some 103) _ = _
                  simp only [Act.put, sq_a1, sq_a2, sq_a3, i64_w, i32_w]
                  rfl
                 refine one_ (i := 7) (N := some 104) #[tY,tY,tY,tY,tY,tY,tY,tY,tN,tN,tN,tN,tN,tN,tN,tN,tN,tN,tN,tN,tN] rfl rfl (one_of HT_.out (by kernel_rfl)) (by decide) (fun K hK => ?_)
                 (have hcv78 := own_string (P := Try.prog) Try.underlying29 Try.underlying5 Try.underlying9 (Kd.own_of_R HO271.out); have hcv78d := fun n_ : Nat => own_string (P := Try.prog) Try.underlying29 Try.underlying5 Try.underlying9 (Kd.own_of_R (Kd.R_drewN HO271.out n_)))
                 refine value_ (w1 := ?_) (v := ?_) (by rfl) rfl ?_ ?_
                 rotate_left 2
                 ·go_simp
                  constructor
                  ·rfl
                  ·rfl
                 clear hcv78 hcv78d
                 refine hK.out _ _ trivial (fun hHeld => ?_)
                 clear hK K
                 refine norm_ (a' := ?_) ?_ ?_
                 rotate_left
                 ·show Act.put _ (some 104) _ = _
                  simp only [Act.put, sq_a1, sq_a2, sq_a3, i64_w, i32_w]
                  rfl
                 exact norm_ (by simp only [putAll, Act.put, sq_a1, sq_a2, sq_a3]) (hCont (v270) _ ⟨(by (with_reducible repeat (first | apply Kd.R_alloc | apply Kd.R_drewN | apply Kd.R_drew)); exact Kd.R_mono HO271.out (fun _ hk => by first | exact ⟨hk.1.1.2, ⟨hk.2, hk.1.2⟩⟩ | (simp [hk]; done))), (by (with_reducible repeat (first | apply Kd.R_alloc | apply Kd.R_drewN | apply Kd.R_drew)); exact Kd.R_mono HO_0.out (fun _ hk => by first | exact ⟨hk.2, ⟨hk.1.2, hk.1.1⟩⟩ | (simp [hk]; done))), (by (with_reducible repeat (first | apply Kd.R_alloc | apply Kd.R_drewN | apply Kd.R_drew)); exact Kd.R_mono HO_10.out (fun _ hk => by first | exact ⟨hk.2, ⟨hk.1.1, hk.1.2⟩⟩ | (simp [hk]; done))), (by (with_reducible repeat (first | apply Kd.R_alloc | apply Kd.R_drewN | apply Kd.R_drew)); exact Kd.R_mono HO_6.out (fun _ hk => by first | exact ⟨hk.2, ⟨hk.1.1, hk.1.2⟩⟩ | (simp [hk]; done))), (by repeat (first | (with_reducible first | exact HB.out | apply below_alloc | apply pw_below_drewN | apply below_drew1) | exact HB.out))⟩)
                ·skip
                 refine goes_ Try.func35 (by kernel_rfl) rfl #[.slice Ao17 y247.length co17] (by rfl) rfl rfl (by (try simp only [List.map_toArray, List.map_cons, List.map_nil]); first | done | rfl | (simp only [List.length_drop, List.length_take]; rfl)) ?_
                 with_reducible refine (shuttleref01_Bytes.calls kj22 _ _ y247 t269 _ ?side1 ?side2 A58.out).mono ?_
                 (case side1 => repeat (first | exact (Kd.R_reads' HO_0.out).2.2 | (with_reducible refine Kd.C_alloc ?_ _) | (with_reducible refine Kd.C_drewN ?_ _) | (with_reducible refine Kd.C_drew ?_)))
                 (case side2 => exact (Kd.R_reads' HO_0.out).2.1)
                 rintro e w76 ⟨v270, rfl, ho0, hb⟩
                 refine ⟨_, rfl, ?_⟩
                 have n0_ := Aside0.mk (Kd.R_elder' (by (with_reducible repeat (first | apply Kd.R_alloc | apply Kd.R_drewN | apply Kd.R_drew)); exact HO_0.out) (Kd.R_base ho0) hb)
                 have n1_ := Aside0.mk (Kd.R_elder' (by (with_reducible repeat (first | apply Kd.R_alloc | apply Kd.R_drewN | apply Kd.R_drew)); exact HO_6.out) (Kd.R_base ho0) hb)
                 have n2_ := Aside0.mk (Kd.R_elder' (by (with_reducible repeat (first | apply Kd.R_alloc | apply Kd.R_drewN | apply Kd.R_drew)); exact HO_10.out) (Kd.R_base ho0) hb)
                 have n3_ := Aside0.mk (Kd.R_lower (Kd.R_new' (Kd.R_new' (Kd.R_new' ho0 (Kd.R_lt (by (with_reducible repeat (first | apply Kd.R_alloc | apply Kd.R_drewN | apply Kd.R_drew)); exact HO_0.out))) (Kd.R_lt (by (with_reducible repeat (first | apply Kd.R_alloc | apply Kd.R_drewN | apply Kd.R_drew)); exact HO_6.out))) (Kd.R_lt (by (with_reducible repeat (first | apply Kd.R_alloc | apply Kd.R_drewN | apply Kd.R_drew)); exact HO_10.out))) (below_size (by repeat (first | (with_reducible first | exact HB.out | apply below_alloc | apply pw_below_drewN | apply below_drew1) | exact HB.out))))
                 have n4_ := Aside0.mk (below_step (by repeat (first | (with_reducible first | exact HB.out | apply below_alloc | apply pw_below_drewN | apply below_drew1) | exact HB.out)) hb)
                 clear HO_0
                 clear HO_6
                 clear HO_10
                 clear HB
                 have HO_0 := n0_
                 have HO_6 := n1_
                 have HO_10 := n2_
                 have HO271 := n3_
                 have HB := n4_
                 clear n0_ n1_ n2_ n3_ n4_
                 (try clear hb)
                 (try clear hb2)
                 (try clear hk)
                 (try clear hi)
                 (try clear ho0)
                 refine hK.out _ _ trivial (fun hHeld => ?_)
                 clear hK K
                 refine norm_ (a' := ?_) ?_ ?_
                 rotate_left
                 ·show Act.put _ (some 103) _ = _
                  simp only [Act.put, sq_a1, sq_a2, sq_a3, i64_w, i32_w]
                  rfl
                 refine two_ (i := 4) (j := 7) (Ni := some 101) (Nj := some 104) #[tY,tY,tY,tY,tY,tY,tY,tN,tN,tN,tN,tN,tN,tN,tN,tN,tN,tN,tN,tN,tN] #[tY,tY,tY,tY,tN,tY,tY,tY,tN,tN,tN,tN,tN,tN,tN,tN,tN,tN,tN,tN,tN] rfl rfl rfl rfl (two_of HT_.out (by kernel_rfl)) (by decide) (by decide) (fun K hK => ?_) (fun K hK => ?_)
                 ·skip
                  (have hcv77 := own_string (P := Try.prog) Try.underlying29 Try.underlying5 Try.underlying9 (Kd.own_of_R HO_6.out); have hcv77d := fun n_ : Nat => own_string (P := Try.prog) Try.underlying29 Try.underlying5 Try.underlying9 (Kd.own_of_R (Kd.R_drewN HO_6.out n_)))
                  refine value_ (w1 := ?_) (v := ?_) (by rfl) rfl ?_ ?_
                  rotate_left 2
                  ·go_simp
                   constructor
                   ·rfl
                   ·rfl
                  clear hcv77 hcv77d
                  refine hK.out _ _ trivial (fun hHeld => ?_)
                  clear hK K
                  refine norm_ (a' := ?_) ?_ ?_
                  rotate_left
                  ·show Act.put _ (some 101) _ = _
                   simp only [Act.put, sq_a1, sq_a2, sq_a3, i64_w, i32_w]
                   rfl
                  refine one_ (i := 7) (N := some 104) #[tY,tY,tY,tY,tY,tY,tY,tY,tN,tN,tN,tN,tN,tN,tN,tN,tN,tN,tN,tN,tN] rfl rfl (one_of HT_.out (by kernel_rfl)) (by decide) (fun K hK => ?_)
                  (have hcv78 := own_string (P := Try.prog) Try.underlying29 Try.underlying5 Try.underlying9 (Kd.own_of_R HO271.out); have hcv78d := fun n_ : Nat => own_string (P := Try.prog) Try.underlying29 Try.underlying5 Try.underlying9 (Kd.own_of_R (Kd.R_drewN HO271.out n_)))
                  refine value_ (w1 := ?_) (v := ?_) (by rfl) rfl ?_ ?_
                  rotate_left 2
                  ·go_simp
                   constructor
                   ·rfl
                   ·rfl
                  clear hcv78 hcv78d
                  refine hK.out _ _ trivial (fun hHeld => ?_)
                  clear hK K
                  refine norm_ (a' := ?_) ?_ ?_
                  rotate_left
                  ·show Act.put _ (some 104) _ = _
                   simp only [Act.put, sq_a1, sq_a2, sq_a3, i64_w, i32_w]
                   rfl
                  exact norm_ (by simp only [putAll, Act.put, sq_a1, sq_a2, sq_a3]) (hCont (v270) _ ⟨(by (with_reducible repeat (first | apply Kd.R_alloc | apply Kd.R_drewN | apply Kd.R_drew)); exact Kd.R_mono HO271.out (fun _ hk => by first | exact ⟨hk.1.1.2, ⟨hk.2, hk.1.2⟩⟩ | (simp [hk]; done))), (by (with_reducible repeat (first | apply Kd.R_alloc | apply Kd.R_drewN | apply Kd.R_drew)); exact Kd.R_mono HO_0.out (fun _ hk => by first | exact ⟨hk.2, ⟨hk.1.2, hk.1.1⟩⟩ | (simp [hk]; done))), (by (with_reducible repeat (first | apply Kd.R_alloc | apply Kd.R_drewN | apply Kd.R_drew)); exact Kd.R_mono HO_10.out (fun _ hk => by first | exact ⟨hk.2, ⟨hk.1.1, hk.1.2⟩⟩ | (simp [hk]; done))), (by (with_reducible repeat (first | apply Kd.R_alloc | apply Kd.R_drewN | apply Kd.R_drew)); exact Kd.R_mono HO_6.out (fun _ hk => by first | exact ⟨hk.2, ⟨hk.1.1, hk.1.2⟩⟩ | (simp [hk]; done))), (by repeat (first | (with_reducible first | exact HB.out | apply below_alloc | apply pw_below_drewN | apply below_drew1) | exact HB.out))⟩)
                 ·skip
                  (have hcv77 := own_string (P := Try.prog) Try.underlying29 Try.underlying5 Try.underlying9 (Kd.own_of_R HO271.out); have hcv77d := fun n_ : Nat => own_string (P := Try.prog) Try.underlying29 Try.underlying5 Try.underlying9 (Kd.own_of_R (Kd.R_drewN HO271.out n_)))
                  refine value_ (w1 := ?_) (v := ?_) (by rfl) rfl ?_ ?_
                  rotate_left 2
                  ·go_simp
                   constructor
                   ·rfl
                   ·rfl
                  clear hcv77 hcv77d
                  refine hK.out _ _ trivial (fun hHeld => ?_)
                  clear hK K
                  refine norm_ (a' := ?_) ?_ ?_
                  rotate_left
                  ·show Act.put _ (some 104) _ = _
                   simp only [Act.put, sq_a1, sq_a2, sq_a3, i64_w, i32_w]
                   rfl
                  refine one_ (i := 4) (N := some 101) #[tY,tY,tY,tY,tY,tY,tY,tY,tN,tN,tN,tN,tN,tN,tN,tN,tN,tN,tN,tN,tN] rfl rfl (one_of HT_.out (by kernel_rfl)) (by decide) (fun K hK => ?_)
                  (have hcv78 := own_string (P := Try.prog) Try.underlying29 Try.underlying5 Try.underlying9 (Kd.own_of_R HO_6.out); have hcv78d := fun n_ : Nat => own_string (P := Try.prog) Try.underlying29 Try.underlying5 Try.underlying9 (Kd.own_of_R (Kd.R_drewN HO_6.out n_)))
                  refine value_ (w1 := ?_) (v := ?_) (by rfl) rfl ?_ ?_
                  rotate_left 2
                  ·go_simp
                   constructor
                   ·rfl
                   ·rfl
                  clear hcv78 hcv78d
                  refine hK.out _ _ trivial (fun hHeld => ?_)
                  clear hK K
                  refine norm_ (a' := ?_) ?_ ?_
                  rotate_left
                  ·show Act.put _ (some 101) _ = _
                   simp only [Act.put, sq_a1, sq_a2, sq_a3, i64_w, i32_w]
                   rfl
                  exact norm_ (by simp only [putAll, Act.put, sq_a1, sq_a2, sq_a3]) (hCont (v270) _ ⟨(by (with_reducible repeat (first | apply Kd.R_alloc | apply Kd.R_drewN | apply Kd.R_drew)); exact Kd.R_mono HO271.out (fun _ hk => by first | exact ⟨hk.1.1.2, ⟨hk.2, hk.1.2⟩⟩ | (simp [hk]; done))), (by (with_reducible repeat (first | apply Kd.R_alloc | apply Kd.R_drewN | apply Kd.R_drew)); exact Kd.R_mono HO_0.out (fun _ hk => by first | exact ⟨hk.2, ⟨hk.1.2, hk.1.1⟩⟩ | (simp [hk]; done))), (by (with_reducible repeat (first | apply Kd.R_alloc | apply Kd.R_drewN | apply Kd.R_drew)); exact Kd.R_mono HO_10.out (fun _ hk => by first | exact ⟨hk.2, ⟨hk.1.1, hk.1.2⟩⟩ | (simp [hk]; done))), (by (with_reducible repeat (first | apply Kd.R_alloc | apply Kd.R_drewN | apply Kd.R_drew)); exact Kd.R_mono HO_6.out (fun _ hk => by first | exact ⟨hk.2, ⟨hk.1.1, hk.1.2⟩⟩ | (simp [hk]; done))), (by repeat (first | (with_reducible first | exact HB.out | apply below_alloc | apply pw_below_drewN | apply below_drew1) | exact HB.out))⟩)
               rintro v270 w79 ⟨h0_, h1_, h2_, h3_, h4_⟩
               have n0_ : Aside0 (Kd.R (Kd.int .u8) 5 w79 w.heap.size (fun k_ => some k_ ≠ (.slice Ao17 y247.length co17 : Value).ownBlock ∧ some k_ ≠ (.slice Ao74 t256.length co74 : Value).ownBlock ∧ some k_ ≠ (v253 : Value).ownBlock) v270 t269) := ⟨h0_⟩
               have n1_ : Aside0 (Kd.R (Kd.int .u8) 5 w79 w.heap.size (fun k_ => some k_ ≠ (v270 : Value).ownBlock ∧ some k_ ≠ (.slice Ao74 t256.length co74 : Value).ownBlock ∧ some k_ ≠ (v253 : Value).ownBlock) (.slice Ao17 y247.length co17) y247) := ⟨h1_⟩
               have n2_ : Aside0 (Kd.R (Kd.int .u8) 5 w79 w.heap.size (fun k_ => some k_ ≠ (v270 : Value).ownBlock ∧ some k_ ≠ (.slice Ao17 y247.length co17 : Value).ownBlock ∧ some k_ ≠ (v253 : Value).ownBlock) (.slice Ao74 t256.length co74) t256) := ⟨h2_⟩
               have n3_ : Aside0 (Kd.R (Kd.int .u8) 5 w79 w.heap.size (fun k_ => some k_ ≠ (v270 : Value).ownBlock ∧ some k_ ≠ (.slice Ao17 y247.length co17 : Value).ownBlock ∧ some k_ ≠ (.slice Ao74 t256.length co74 : Value).ownBlock) v253 t251) := ⟨h3_⟩
               have n4_ : Aside0 (Below w.heap.size w w79) := ⟨h4_⟩
               clear HO_0
               clear HO_6
               clear HO_10
               clear HB
               clear h0_ h1_ h2_ h3_ h4_
               have HO271 := n0_
               have HO_0 := n1_
               have HO_10 := n2_
               have HO_6 := n3_
               have HB := n4_
               clear n0_ n1_ n2_ n3_ n4_
               have hHeld := trivial
               refine norm_ (a' := ?_) ?_ ?_
               rotate_left
               ·simp only [putAll, Act.put, sq_a1, sq_a2, sq_a3]
                rfl
               refine pure_ (i := 8) (N := some 105) (v := ?_) (a' := ?_) #[tY,tY,tY,tY,tY,tY,tY,tY,tY,tN,tN,tN,tN,tN,tN,tN,tN,tN,tN,tN,tN] rfl rfl (any_of HT_.out (by kernel_rfl)) (fun _ _ _ h => h) (Or.inl ⟨by rfl, ?_⟩) ?_ ?_
               rotate_left
               ·intro w'
                go_simp
                with_reducible rfl
               rotate_left
               ·simp only [Act.put, sq_a1, sq_a2, sq_a3, i64_w, i32_w]
                rfl
               refine pure_ (i := 9) (N := some 106) (v := ?_) (a' := ?_) #[tY,tY,tY,tY,tY,tY,tY,tY,tY,tY,tN,tN,tN,tN,tN,tN,tN,tN,tN,tN,tN] rfl rfl (any_of HT_.out (by kernel_rfl)) (fun _ _ _ h => h) (Or.inl ⟨by rfl, ?_⟩) ?_ ?_
               rotate_left
               ·intro w'
                go_simp
                with_reducible rfl
               rotate_left
               ·simp only [Act.put, sq_a1, sq_a2, sq_a3, i64_w, i32_w]
                rfl
               refine pure_ (i := 10) (N := some 107) (v := ?_) (a' := ?_) #[tY,tY,tY,tY,tY,tY,tY,tY,tY,tY,tY,tN,tN,tN,tN,tN,tN,tN,tN,tN,tN] rfl rfl (any_of HT_.out (by kernel_rfl)) (fun _ _ _ h => h) (Or.inl ⟨by rfl, ?_⟩) ?_ ?_
               rotate_left
               ·intro w'
                go_simp
                with_reducible rfl
               rotate_left
               ·simp only [Act.put, sq_a1, sq_a2, sq_a3, i64_w, i32_w]
                rfl
               refine pure_ (i := 11) (N := some 108) (v := undef) (a' := ?_) #[tY,tY,tY,tY,tY,tY,tY,tY,tY,tY,tY,tY,tN,tN,tN,tN,tN,tN,tN,tN,tN] rfl rfl (any_of HT_.out (by kernel_rfl)) (fun _ _ _ h => h) (Or.inr ⟨by rfl, rfl⟩) ?_ ?_
               rotate_left
               ·simp only [Act.put, sq_a1, sq_a2, sq_a3, i64_w, i32_w]
                rfl
               refine pure_ (i := 12) (N := some 109) (v := ?_) (a' := ?_) #[tY,tY,tY,tY,tY,tY,tY,tY,tY,tY,tY,tY,tY,tN,tN,tN,tN,tN,tN,tN,tN] rfl rfl (any_of HT_.out (by kernel_rfl)) (fun _ _ _ h => h) (Or.inl ⟨by rfl, ?_⟩) ?_ ?_
               rotate_left
               ·intro w'
                go_simp
                with_reducible rfl
               rotate_left
               ·simp only [Act.put, sq_a1, sq_a2, sq_a3, i64_w, i32_w]
                rfl
               refine pure_ (i := 13) (N := some 110) (v := ?_) (a' := ?_) #[tY,tY,tY,tY,tY,tY,tY,tY,tY,tY,tY,tY,tY,tY,tN,tN,tN,tN,tN,tN,tN] rfl rfl (any_of HT_.out (by kernel_rfl)) (fun _ _ _ h => h) (Or.inl ⟨by rfl, ?_⟩) ?_ ?_
               rotate_left
               ·intro w'
                go_simp
                with_reducible rfl
               rotate_left
               ·simp only [Act.put, sq_a1, sq_a2, sq_a3, i64_w, i32_w]
                rfl
               refine pure_ (i := 14) (N := some 111) (v := undef) (a' := ?_) #[tY,tY,tY,tY,tY,tY,tY,tY,tY,tY,tY,tY,tY,tY,tY,tN,tN,tN,tN,tN,tN] rfl rfl (any_of HT_.out (by kernel_rfl)) (fun _ _ _ h => h) (Or.inr ⟨by rfl, rfl⟩) ?_ ?_
               rotate_left
               ·simp only [Act.put, sq_a1, sq_a2, sq_a3, i64_w, i32_w]
                rfl
               refine pure_ (i := 15) (N := some 112) (v := undef) (a' := ?_) #[tY,tY,tY,tY,tY,tY,tY,tY,tY,tY,tY,tY,tY,tY,tY,tY,tN,tN,tN,tN,tN] rfl rfl (any_of HT_.out (by kernel_rfl)) (fun _ _ _ h => h) (Or.inr ⟨by rfl, rfl⟩) ?_ ?_
               rotate_left
               ·simp only [Act.put, sq_a1, sq_a2, sq_a3, i64_w, i32_w]
                rfl
               refine pure_ (i := 16) (N := some 113) (v := undef) (a' := ?_) #[tY,tY,tY,tY,tY,tY,tY,tY,tY,tY,tY,tY,tY,tY,tY,tY,tY,tN,tN,tN,tN] rfl rfl (any_of HT_.out (by kernel_rfl)) (fun _ _ _ h => h) (Or.inr ⟨by rfl, rfl⟩) ?_ ?_
               rotate_left
               ·simp only [Act.put, sq_a1, sq_a2, sq_a3, i64_w, i32_w]
                rfl
               refine pure_ (i := 17) (N := some 114) (v := undef) (a' := ?_) #[tY,tY,tY,tY,tY,tY,tY,tY,tY,tY,tY,tY,tY,tY,tY,tY,tY,tY,tN,tN,tN] rfl rfl (any_of HT_.out (by kernel_rfl)) (fun _ _ _ h => h) (Or.inr ⟨by rfl, rfl⟩) ?_ ?_
               rotate_left
               ·simp only [Act.put, sq_a1, sq_a2, sq_a3, i64_w, i32_w]
                rfl
               refine pure_ (i := 18) (N := some 115) (v := undef) (a' := ?_) #[tY,tY,tY,tY,tY,tY,tY,tY,tY,tY,tY,tY,tY,tY,tY,tY,tY,tY,tY,tN,tN] rfl rfl (any_of HT_.out (by kernel_rfl)) (fun _ _ _ h => h) (Or.inr ⟨by rfl, rfl⟩) ?_ ?_
               rotate_left
               ·simp only [Act.put, sq_a1, sq_a2, sq_a3, i64_w, i32_w]
                rfl
               refine pure_ (i := 19) (N := some 116) (v := ?_) (a' := ?_) #[tY,tY,tY,tY,tY,tY,tY,tY,tY,tY,tY,tY,tY,tY,tY,tY,tY,tY,tY,tY,tN] rfl rfl (any_of HT_.out (by kernel_rfl)) (fun _ _ _ h => h) (Or.inl ⟨by rfl, ?_⟩) ?_ ?_
               rotate_left
               ·intro w'
                go_simp
                with_reducible rfl
               rotate_left
               ·simp only [Act.put, sq_a1, sq_a2, sq_a3, i64_w, i32_w]
                rfl
               refine pure_ (i := 20) (N := some 4) (v := ?_) (a' := ?_) #[tY,tY,tY,tY,tY,tY,tY,tY,tY,tY,tY,tY,tY,tY,tY,tY,tY,tY,tY,tY,tY] rfl rfl (any_of HT_.out (by kernel_rfl)) (fun _ _ _ h => h) (Or.inl ⟨by rfl, ?_⟩) ?_ ?_
               rotate_left
               ·intro w'
                go_simp
                with_reducible rfl
               rotate_left
               ·simp only [Act.put, sq_a1, sq_a2, sq_a3, i64_w, i32_w]
                rfl
               refine done_ (done_of HT_.out (by kernel_rfl)) ?_
               try go_wp2
               go_ret
               exact ⟨by first | rfl | (simp [errW_none, errW_some] <;> rfl) | (simp only [← hji3, ← hji7]; first | rfl | (simp [errW_none, errW_some] <;> rfl)) | (simp [*, errW_none, errW_some] <;> rfl), by repeat (first | (with_reducible first | exact HB.out | apply below_alloc | apply pw_below_drewN | apply below_drew1) | exact HB.out)⟩
             ·rw [if_neg c57] at H
              have c57b0 : (t252 == 0) = false := beq_eq_false_iff_ne.mpr c57
              have c57b1 : (t252 != 0) = true := bne_iff_ne.mpr c57
              obtain rfl := Option.some.inj H
              obtain ⟨Ao80, co80, eo80⟩ := Kd.R_slice HO_10.out
              subst eo80
              try go_wp2_with (first | ((with_reducible refine gate_callee (f := 31) rfl ?_); refine goesL_ (some 81) rfl rfl Try.func31 (by kernel_rfl) rfl #[.slice Ao17 y247.length co17, .slice Ao80 t256.length co80] rfl (by (try simp only [List.map_toArray, List.map_cons, List.map_nil]); first | done | rfl | (simp only [List.length_drop, List.length_take]; rfl)) ?_; (with_reducible refine (bits_Apart.calls kj22 _ _ y247 _ _ t256 t266 t267 _ ?side1 ?side2 ?side3 ?side4 A54.out).mono ?_); (case side1 => repeat (first | exact (Kd.R_reads' HO_0.out).2.2 | (with_reducible refine Kd.C_alloc ?_ _) | (with_reducible refine Kd.C_drewN ?_ _) | (with_reducible refine Kd.C_drew ?_))); (case side2 => exact (Kd.R_reads' HO_0.out).2.1); (case side3 => repeat (first | exact (Kd.R_reads' HO_10.out).2.2 | (with_reducible refine Kd.C_alloc ?_ _) | (with_reducible refine Kd.C_drewN ?_ _) | (with_reducible refine Kd.C_drew ?_))); (case side4 => exact (Kd.R_reads' HO_10.out).2.1); rintro e w' ⟨rfl, ⟨nd, rfl⟩⟩; refine ⟨_, rfl, ?_⟩) | ((with_reducible refine gate_callee (f := 20) rfl ?_); refine goesL_ (some 85) rfl rfl Try.func20 (by kernel_rfl) rfl #[.slice Ao17 y247.length co17] rfl (by (try simp only [List.map_toArray, List.map_cons, List.map_nil]); first | done | rfl | (simp only [List.length_drop, List.length_take]; rfl)) ?_; (with_reducible refine (shuttleref01_Right.calls kj22 _ _ y247 true _ ?side1 ?side2 A55.out).mono ?_); (case side1 => repeat (first | exact (Kd.R_reads' HO_0.out).2.2 | (with_reducible refine Kd.C_alloc ?_ _) | (with_reducible refine Kd.C_drewN ?_ _) | (with_reducible refine Kd.C_drew ?_))); (case side2 => exact (Kd.R_reads' HO_0.out).2.1); rintro e w' ⟨rfl, ⟨nd, rfl⟩⟩; refine ⟨_, rfl, ?_⟩))
              (try (rw [drewN_self wc]; generalize hq_ : World.drewN wc _ = wc; have n0_ : Aside0 (Kd.R (Kd.int .u8) 5 wc w.heap.size (fun k_ => some k_ ≠ (.slice Ao80 t256.length co80 : Value).ownBlock ∧ some k_ ≠ (v253 : Value).ownBlock) (.slice Ao17 y247.length co17) y247) := ⟨by rw [← hq_]; exact (by (with_reducible repeat (first | apply Kd.R_alloc | apply Kd.R_drewN | apply Kd.R_drew)); exact Kd.R_mono HO_0.out (fun _ hk => by first | exact ⟨hk.2, hk.1⟩ | (simp [hk]; done)))⟩; have n1_ : Aside0 (Kd.R (Kd.int .u8) 5 wc w.heap.size (fun k_ => some k_ ≠ (.slice Ao17 y247.length co17 : Value).ownBlock ∧ some k_ ≠ (v253 : Value).ownBlock) (.slice Ao80 t256.length co80) t256) := ⟨by rw [← hq_]; exact (by (with_reducible repeat (first | apply Kd.R_alloc | apply Kd.R_drewN | apply Kd.R_drew)); exact HO_10.out)⟩; have n2_ : Aside0 (Kd.R (Kd.int .u8) 5 wc w.heap.size (fun k_ => some k_ ≠ (.slice Ao17 y247.length co17 : Value).ownBlock ∧ some k_ ≠ (.slice Ao80 t256.length co80 : Value).ownBlock) v253 t251) := ⟨by rw [← hq_]; exact (by (with_reducible repeat (first | apply Kd.R_alloc | apply Kd.R_drewN | apply Kd.R_drew)); exact HO_6.out)⟩; have n3_ : Aside0 (Below w.heap.size w wc) := ⟨by rw [← hq_]; exact (by repeat (first | (with_reducible first | exact HB.out | apply below_alloc | apply pw_below_drewN | apply below_drew1) | exact HB.out))⟩; clear HO_0 HO_10 HO_6 HB hq_; have HO_0 := n0_; have HO_10 := n1_; have HO_6 := n2_; have HB := n3_; clear n0_ n1_ n2_ n3_))
              have n0_ := Aside0.mk (Kd.R_drew HO_0.out)
              have n1_ := Aside0.mk (Kd.R_drew HO_6.out)
              have n2_ := Aside0.mk (Kd.R_drew HO_10.out)
              have n3_ := Aside0.mk (below_drew1 HB.out)
              clear HO_0
              clear HO_6
              clear HO_10
              clear HB
              have HO_0 := n0_
              have HO_6 := n1_
              have HO_10 := n2_
              have HB := n3_
              clear n0_ n1_ n2_ n3_
              refine start_ (n := 21) (S := fun w' => True) (ds := []) #[tN,tN,tN,tN,tN,tN,tN,tN,tN,tN,tN,tN,tN,tN,tN,tN,tN,tN,tN,tN,tN] (by kernel_rfl) rfl rfl trivial (fun hHeld => ?_); refine with_tabW shuttlelaw01_BitsLists.tab17 shuttlelaw01_BitsLists.bits17 (fun HT_ HW_ => ?_)
              generalize wc.drew = w81 at HO_0 HO_6 HO_10 HB hHeld ⊢
              refine pure_ (i := 0) (N := some 97) (v := ?_) (a' := ?_) #[tY,tN,tN,tN,tN,tN,tN,tN,tN,tN,tN,tN,tN,tN,tN,tN,tN,tN,tN,tN,tN] rfl rfl (any_of HT_.out (by kernel_rfl)) (fun _ _ _ h => h) (Or.inl ⟨by rfl, ?_⟩) ?_ ?_
              rotate_left
              ·intro w'
               go_simp
               with_reducible rfl
              rotate_left
              ·simp only [Act.put, sq_a1, sq_a2, sq_a3, i64_w, i32_w]
               rfl
              refine pure_ (i := 1) (N := some 98) (v := ?_) (a' := ?_) #[tY,tY,tN,tN,tN,tN,tN,tN,tN,tN,tN,tN,tN,tN,tN,tN,tN,tN,tN,tN,tN] rfl rfl (any_of HT_.out (by kernel_rfl)) (fun _ _ _ h => h) (Or.inl ⟨by rfl, ?_⟩) ?_ ?_
              rotate_left
              ·intro w'
               go_simp
               with_reducible rfl
              rotate_left
              ·simp only [Act.put, sq_a1, sq_a2, sq_a3, i64_w, i32_w]
               rfl
              refine pure_ (i := 2) (N := some 99) (v := ?_) (a' := ?_) #[tY,tY,tY,tN,tN,tN,tN,tN,tN,tN,tN,tN,tN,tN,tN,tN,tN,tN,tN,tN,tN] rfl rfl (any_of HT_.out (by kernel_rfl)) (fun _ _ _ h => h) (Or.inl ⟨by rfl, ?_⟩) ?_ ?_
              rotate_left
              ·intro w'
               go_simp
               with_reducible rfl
              rotate_left
              ·simp only [Act.put, sq_a1, sq_a2, sq_a3, i64_w, i32_w]
               rfl
              refine pure_ (i := 3) (N := some 100) (v := undef) (a' := ?_) #[tY,tY,tY,tY,tN,tN,tN,tN,tN,tN,tN,tN,tN,tN,tN,tN,tN,tN,tN,tN,tN] rfl rfl (any_of HT_.out (by kernel_rfl)) (fun _ _ _ h => h) (Or.inr ⟨by rfl, rfl⟩) ?_ ?_
              rotate_left
              ·simp only [Act.put, sq_a1, sq_a2, sq_a3, i64_w, i32_w]
               rfl
              refine pure_ (i := 4) (N := some 101) (v := undef) (a' := ?_) #[tY,tY,tY,tY,tY,tN,tN,tN,tN,tN,tN,tN,tN,tN,tN,tN,tN,tN,tN,tN,tN] rfl rfl (any_of HT_.out (by kernel_rfl)) (fun _ _ _ h => h) (Or.inr ⟨by rfl, rfl⟩) ?_ ?_
              rotate_left
              ·simp only [Act.put, sq_a1, sq_a2, sq_a3, i64_w, i32_w]
               rfl
              refine pure_ (i := 5) (N := some 102) (v := undef) (a' := ?_) #[tY,tY,tY,tY,tY,tY,tN,tN,tN,tN,tN,tN,tN,tN,tN,tN,tN,tN,tN,tN,tN] rfl rfl (any_of HT_.out (by kernel_rfl)) (fun _ _ _ h => h) (Or.inr ⟨by rfl, rfl⟩) ?_ ?_
              rotate_left
              ·simp only [Act.put, sq_a1, sq_a2, sq_a3, i64_w, i32_w]
               rfl
              refine pure_ (i := 6) (N := some 103) (v := undef) (a' := ?_) #[tY,tY,tY,tY,tY,tY,tY,tN,tN,tN,tN,tN,tN,tN,tN,tN,tN,tN,tN,tN,tN] rfl rfl (any_of HT_.out (by kernel_rfl)) (fun _ _ _ h => h) (Or.inr ⟨by rfl, rfl⟩) ?_ ?_
              rotate_left
              ·simp only [Act.put, sq_a1, sq_a2, sq_a3, i64_w, i32_w]
               rfl
              refine pure_ (i := 7) (N := some 104) (v := undef) (a' := ?_) #[tY,tY,tY,tY,tY,tY,tY,tY,tN,tN,tN,tN,tN,tN,tN,tN,tN,tN,tN,tN,tN] rfl rfl (any_of HT_.out (by kernel_rfl)) (fun _ _ _ h => h) (Or.inr ⟨by rfl, rfl⟩) ?_ ?_
              rotate_left
              ·simp only [Act.put, sq_a1, sq_a2, sq_a3, i64_w, i32_w]
               rfl
              refine pure_ (i := 8) (N := some 105) (v := undef) (a' := ?_) #[tY,tY,tY,tY,tY,tY,tY,tY,tY,tN,tN,tN,tN,tN,tN,tN,tN,tN,tN,tN,tN] rfl rfl (any_of HT_.out (by kernel_rfl)) (fun _ _ _ h => h) (Or.inr ⟨by rfl, rfl⟩) ?_ ?_
              rotate_left
              ·simp only [Act.put, sq_a1, sq_a2, sq_a3, i64_w, i32_w]
               rfl
              refine pure_ (i := 9) (N := some 106) (v := ?_) (a' := ?_) #[tY,tY,tY,tY,tY,tY,tY,tY,tY,tY,tN,tN,tN,tN,tN,tN,tN,tN,tN,tN,tN] rfl rfl (any_of HT_.out (by kernel_rfl)) (fun _ _ _ h => h) (Or.inl ⟨by rfl, ?_⟩) ?_ ?_
              rotate_left
              ·intro w'
               go_simp
               with_reducible rfl
              rotate_left
              ·simp only [Act.put, sq_a1, sq_a2, sq_a3, i64_w, i32_w]
               rfl
              refine pure_ (i := 10) (N := some 107) (v := ?_) (a' := ?_) #[tY,tY,tY,tY,tY,tY,tY,tY,tY,tY,tY,tN,tN,tN,tN,tN,tN,tN,tN,tN,tN] rfl rfl (any_of HT_.out (by kernel_rfl)) (fun _ _ _ h => h) (Or.inl ⟨by rfl, ?_⟩) ?_ ?_
              rotate_left
              ·intro w'
               go_simp
               with_reducible rfl
              rotate_left
              ·simp only [Act.put, sq_a1, sq_a2, sq_a3, i64_w, i32_w]
               rfl
              refine pure_ (i := 11) (N := some 108) (v := undef) (a' := ?_) #[tY,tY,tY,tY,tY,tY,tY,tY,tY,tY,tY,tY,tN,tN,tN,tN,tN,tN,tN,tN,tN] rfl rfl (any_of HT_.out (by kernel_rfl)) (fun _ _ _ h => h) (Or.inr ⟨by rfl, rfl⟩) ?_ ?_
              rotate_left
              ·simp only [Act.put, sq_a1, sq_a2, sq_a3, i64_w, i32_w]
               rfl
              refine pure_ (i := 12) (N := some 109) (v := ?_) (a' := ?_) #[tY,tY,tY,tY,tY,tY,tY,tY,tY,tY,tY,tY,tY,tN,tN,tN,tN,tN,tN,tN,tN] rfl rfl (any_of HT_.out (by kernel_rfl)) (fun _ _ _ h => h) (Or.inl ⟨by rfl, ?_⟩) ?_ ?_
              rotate_left
              ·intro w'
               go_simp
               with_reducible rfl
              rotate_left
              ·simp only [Act.put, sq_a1, sq_a2, sq_a3, i64_w, i32_w]
               rfl
              refine pure_ (i := 13) (N := some 110) (v := ?_) (a' := ?_) #[tY,tY,tY,tY,tY,tY,tY,tY,tY,tY,tY,tY,tY,tY,tN,tN,tN,tN,tN,tN,tN] rfl rfl (any_of HT_.out (by kernel_rfl)) (fun _ _ _ h => h) (Or.inl ⟨by rfl, ?_⟩) ?_ ?_
              rotate_left
              ·intro w'
               go_simp
               with_reducible rfl
              rotate_left
              ·simp only [Act.put, sq_a1, sq_a2, sq_a3, i64_w, i32_w]
               rfl
              refine pure_ (i := 14) (N := some 111) (v := undef) (a' := ?_) #[tY,tY,tY,tY,tY,tY,tY,tY,tY,tY,tY,tY,tY,tY,tY,tN,tN,tN,tN,tN,tN] rfl rfl (any_of HT_.out (by kernel_rfl)) (fun _ _ _ h => h) (Or.inr ⟨by rfl, rfl⟩) ?_ ?_
              rotate_left
              ·simp only [Act.put, sq_a1, sq_a2, sq_a3, i64_w, i32_w]
               rfl
              refine pure_ (i := 15) (N := some 112) (v := undef) (a' := ?_) #[tY,tY,tY,tY,tY,tY,tY,tY,tY,tY,tY,tY,tY,tY,tY,tY,tN,tN,tN,tN,tN] rfl rfl (any_of HT_.out (by kernel_rfl)) (fun _ _ _ h => h) (Or.inr ⟨by rfl, rfl⟩) ?_ ?_
              rotate_left
              ·simp only [Act.put, sq_a1, sq_a2, sq_a3, i64_w, i32_w]
               rfl
              refine pure_ (i := 16) (N := some 113) (v := undef) (a' := ?_) #[tY,tY,tY,tY,tY,tY,tY,tY,tY,tY,tY,tY,tY,tY,tY,tY,tY,tN,tN,tN,tN] rfl rfl (any_of HT_.out (by kernel_rfl)) (fun _ _ _ h => h) (Or.inr ⟨by rfl, rfl⟩) ?_ ?_
              rotate_left
              ·simp only [Act.put, sq_a1, sq_a2, sq_a3, i64_w, i32_w]
               rfl
              refine pure_ (i := 17) (N := some 114) (v := undef) (a' := ?_) #[tY,tY,tY,tY,tY,tY,tY,tY,tY,tY,tY,tY,tY,tY,tY,tY,tY,tY,tN,tN,tN] rfl rfl (any_of HT_.out (by kernel_rfl)) (fun _ _ _ h => h) (Or.inr ⟨by rfl, rfl⟩) ?_ ?_
              rotate_left
              ·simp only [Act.put, sq_a1, sq_a2, sq_a3, i64_w, i32_w]
               rfl
              refine pure_ (i := 18) (N := some 115) (v := undef) (a' := ?_) #[tY,tY,tY,tY,tY,tY,tY,tY,tY,tY,tY,tY,tY,tY,tY,tY,tY,tY,tY,tN,tN] rfl rfl (any_of HT_.out (by kernel_rfl)) (fun _ _ _ h => h) (Or.inr ⟨by rfl, rfl⟩) ?_ ?_
              rotate_left
              ·simp only [Act.put, sq_a1, sq_a2, sq_a3, i64_w, i32_w]
               rfl
              refine pure_ (i := 19) (N := some 116) (v := ?_) (a' := ?_) #[tY,tY,tY,tY,tY,tY,tY,tY,tY,tY,tY,tY,tY,tY,tY,tY,tY,tY,tY,tY,tN] rfl rfl (any_of HT_.out (by kernel_rfl)) (fun _ _ _ h => h) (Or.inl ⟨by rfl, ?_⟩) ?_ ?_
              rotate_left
              ·intro w'
               go_simp
               with_reducible rfl
              rotate_left
              ·simp only [Act.put, sq_a1, sq_a2, sq_a3, i64_w, i32_w]
               rfl
              refine pure_ (i := 20) (N := some 4) (v := ?_) (a' := ?_) #[tY,tY,tY,tY,tY,tY,tY,tY,tY,tY,tY,tY,tY,tY,tY,tY,tY,tY,tY,tY,tY] rfl rfl (any_of HT_.out (by kernel_rfl)) (fun _ _ _ h => h) (Or.inl ⟨by rfl, ?_⟩) ?_ ?_
              rotate_left
              ·intro w'
               go_simp
               with_reducible rfl
              rotate_left
              ·simp only [Act.put, sq_a1, sq_a2, sq_a3, i64_w, i32_w]
               rfl
              refine done_ (done_of HT_.out (by kernel_rfl)) ?_
              try go_wp2
              go_ret
              exact ⟨by first | rfl | (simp [errW_none, errW_some] <;> rfl) | (simp only [← hji3, ← hji7]; first | rfl | (simp [errW_none, errW_some] <;> rfl)) | (simp [*, errW_none, errW_some] <;> rfl), by repeat (first | (with_reducible first | exact HB.out | apply below_alloc | apply pw_below_drewN | apply below_drew1) | exact HB.out)⟩
            ·replace c56 := Bool.eq_false_iff.mpr c56
             subst c56
             have H1 : (if t252 = 5 then (if (t251.length : Int) = 0 then (some t267) else (some false)) else (some false)) = some r := by rw [if_neg (show ¬ (false = true) by decide)] at H; exact H
             clear H
             have H := H1
             clear H1
             by_cases c82 : t252 = 5
             ·rw [if_pos c82] at H
              have c82b0 : (t252 == 5) = true := beq_iff_eq.mpr c82
              have c82b1 : (t252 != 5) = false := bne_eq_false_iff_eq.mpr c82
              clear c82
              by_cases c83 : (t251.length : Int) = 0
              ·rw [if_pos c83] at H
               have c83b0 : ((t251.length : Int) == 0) = true := beq_iff_eq.mpr c83
               have c83b1 : ((t251.length : Int) != 0) = false := bne_eq_false_iff_eq.mpr c83
               clear c83
               obtain rfl := Option.some.inj H
               obtain ⟨Ao84, co84, eo84⟩ := Kd.R_slice HO_10.out
               subst eo84
               go_wp2_with (first | ((with_reducible refine gate_callee (f := 31) rfl ?_); refine goesL_ (some 81) rfl rfl Try.func31 (by kernel_rfl) rfl #[.slice Ao17 y247.length co17, .slice Ao84 t256.length co84] rfl (by (try simp only [List.map_toArray, List.map_cons, List.map_nil]); first | done | rfl | (simp only [List.length_drop, List.length_take]; rfl)) ?_; (with_reducible refine (bits_Apart.calls kj22 _ _ y247 _ _ t256 t266 t267 _ ?side1 ?side2 ?side3 ?side4 A54.out).mono ?_); (case side1 => repeat (first | exact (Kd.R_reads' HO_0.out).2.2 | (with_reducible refine Kd.C_alloc ?_ _) | (with_reducible refine Kd.C_drewN ?_ _) | (with_reducible refine Kd.C_drew ?_))); (case side2 => exact (Kd.R_reads' HO_0.out).2.1); (case side3 => repeat (first | exact (Kd.R_reads' HO_10.out).2.2 | (with_reducible refine Kd.C_alloc ?_ _) | (with_reducible refine Kd.C_drewN ?_ _) | (with_reducible refine Kd.C_drew ?_))); (case side4 => exact (Kd.R_reads' HO_10.out).2.1); rintro e w' ⟨rfl, ⟨nd, rfl⟩⟩; refine ⟨_, rfl, ?_⟩) | ((with_reducible refine gate_callee (f := 20) rfl ?_); refine goesL_ (some 85) rfl rfl Try.func20 (by kernel_rfl) rfl #[.slice Ao17 y247.length co17] rfl (by (try simp only [List.map_toArray, List.map_cons, List.map_nil]); first | done | rfl | (simp only [List.length_drop, List.length_take]; rfl)) ?_; (with_reducible refine (shuttleref01_Right.calls kj22 _ _ y247 false _ ?side1 ?side2 A55.out).mono ?_); (case side1 => repeat (first | exact (Kd.R_reads' HO_0.out).2.2 | (with_reducible refine Kd.C_alloc ?_ _) | (with_reducible refine Kd.C_drewN ?_ _) | (with_reducible refine Kd.C_drew ?_))); (case side2 => exact (Kd.R_reads' HO_0.out).2.1); rintro e w' ⟨rfl, ⟨nd, rfl⟩⟩; refine ⟨_, rfl, ?_⟩; obtain ⟨Ao85, co85, eo85⟩ := Kd.R_slice HO_6.out; subst eo85))
               go_ret
               exact ⟨by first | rfl | (simp [errW_none, errW_some] <;> rfl) | (simp only [← hji3, ← hji7]; first | rfl | (simp [errW_none, errW_some] <;> rfl)) | (simp [*, errW_none, errW_some] <;> rfl), by repeat (first | (with_reducible first | exact HB.out | apply below_alloc | apply pw_below_drewN | apply below_drew1) | exact HB.out)⟩
              ·rw [if_neg c83] at H
               have c83b0 : ((t251.length : Int) == 0) = false := beq_eq_false_iff_ne.mpr c83
               have c83b1 : ((t251.length : Int) != 0) = true := bne_iff_ne.mpr c83
               have c83b2 : ¬ (t251 = []) := fun h_ => c83 (by rw [h_]; rfl)
               obtain rfl := Option.some.inj H
               obtain ⟨Ao86, co86, eo86⟩ := Kd.R_slice HO_10.out
               subst eo86
               go_wp2_with (first | ((with_reducible refine gate_callee (f := 31) rfl ?_); refine goesL_ (some 81) rfl rfl Try.func31 (by kernel_rfl) rfl #[.slice Ao17 y247.length co17, .slice Ao86 t256.length co86] rfl (by (try simp only [List.map_toArray, List.map_cons, List.map_nil]); first | done | rfl | (simp only [List.length_drop, List.length_take]; rfl)) ?_; (with_reducible refine (bits_Apart.calls kj22 _ _ y247 _ _ t256 t266 t267 _ ?side1 ?side2 ?side3 ?side4 A54.out).mono ?_); (case side1 => repeat (first | exact (Kd.R_reads' HO_0.out).2.2 | (with_reducible refine Kd.C_alloc ?_ _) | (with_reducible refine Kd.C_drewN ?_ _) | (with_reducible refine Kd.C_drew ?_))); (case side2 => exact (Kd.R_reads' HO_0.out).2.1); (case side3 => repeat (first | exact (Kd.R_reads' HO_10.out).2.2 | (with_reducible refine Kd.C_alloc ?_ _) | (with_reducible refine Kd.C_drewN ?_ _) | (with_reducible refine Kd.C_drew ?_))); (case side4 => exact (Kd.R_reads' HO_10.out).2.1); rintro e w' ⟨rfl, ⟨nd, rfl⟩⟩; refine ⟨_, rfl, ?_⟩) | ((with_reducible refine gate_callee (f := 20) rfl ?_); refine goesL_ (some 85) rfl rfl Try.func20 (by kernel_rfl) rfl #[.slice Ao17 y247.length co17] rfl (by (try simp only [List.map_toArray, List.map_cons, List.map_nil]); first | done | rfl | (simp only [List.length_drop, List.length_take]; rfl)) ?_; (with_reducible refine (shuttleref01_Right.calls kj22 _ _ y247 false _ ?side1 ?side2 A55.out).mono ?_); (case side1 => repeat (first | exact (Kd.R_reads' HO_0.out).2.2 | (with_reducible refine Kd.C_alloc ?_ _) | (with_reducible refine Kd.C_drewN ?_ _) | (with_reducible refine Kd.C_drew ?_))); (case side2 => exact (Kd.R_reads' HO_0.out).2.1); rintro e w' ⟨rfl, ⟨nd, rfl⟩⟩; refine ⟨_, rfl, ?_⟩; obtain ⟨Ao87, co87, eo87⟩ := Kd.R_slice HO_6.out; subst eo87))
               go_ret
               exact ⟨by first | rfl | (simp [errW_none, errW_some] <;> rfl) | (simp only [← hji3, ← hji7]; first | rfl | (simp [errW_none, errW_some] <;> rfl)) | (simp [*, errW_none, errW_some] <;> rfl), by repeat (first | (with_reducible first | exact HB.out | apply below_alloc | apply pw_below_drewN | apply below_drew1) | exact HB.out)⟩
             ·rw [if_neg c82] at H
              have c82b0 : (t252 == 5) = false := beq_eq_false_iff_ne.mpr c82
              have c82b1 : (t252 != 5) = true := bne_iff_ne.mpr c82
              obtain rfl := Option.some.inj H
              obtain ⟨Ao88, co88, eo88⟩ := Kd.R_slice HO_10.out
              subst eo88
              go_wp2_with (first | ((with_reducible refine gate_callee (f := 31) rfl ?_); refine goesL_ (some 81) rfl rfl Try.func31 (by kernel_rfl) rfl #[.slice Ao17 y247.length co17, .slice Ao88 t256.length co88] rfl (by (try simp only [List.map_toArray, List.map_cons, List.map_nil]); first | done | rfl | (simp only [List.length_drop, List.length_take]; rfl)) ?_; (with_reducible refine (bits_Apart.calls kj22 _ _ y247 _ _ t256 t266 t267 _ ?side1 ?side2 ?side3 ?side4 A54.out).mono ?_); (case side1 => repeat (first | exact (Kd.R_reads' HO_0.out).2.2 | (with_reducible refine Kd.C_alloc ?_ _) | (with_reducible refine Kd.C_drewN ?_ _) | (with_reducible refine Kd.C_drew ?_))); (case side2 => exact (Kd.R_reads' HO_0.out).2.1); (case side3 => repeat (first | exact (Kd.R_reads' HO_10.out).2.2 | (with_reducible refine Kd.C_alloc ?_ _) | (with_reducible refine Kd.C_drewN ?_ _) | (with_reducible refine Kd.C_drew ?_))); (case side4 => exact (Kd.R_reads' HO_10.out).2.1); rintro e w' ⟨rfl, ⟨nd, rfl⟩⟩; refine ⟨_, rfl, ?_⟩) | ((with_reducible refine gate_callee (f := 20) rfl ?_); refine goesL_ (some 85) rfl rfl Try.func20 (by kernel_rfl) rfl #[.slice Ao17 y247.length co17] rfl (by (try simp only [List.map_toArray, List.map_cons, List.map_nil]); first | done | rfl | (simp only [List.length_drop, List.length_take]; rfl)) ?_; (with_reducible refine (shuttleref01_Right.calls kj22 _ _ y247 false _ ?side1 ?side2 A55.out).mono ?_); (case side1 => repeat (first | exact (Kd.R_reads' HO_0.out).2.2 | (with_reducible refine Kd.C_alloc ?_ _) | (with_reducible refine Kd.C_drewN ?_ _) | (with_reducible refine Kd.C_drew ?_))); (case side2 => exact (Kd.R_reads' HO_0.out).2.1); rintro e w' ⟨rfl, ⟨nd, rfl⟩⟩; refine ⟨_, rfl, ?_⟩))
              go_ret
              exact ⟨by first | rfl | (simp [errW_none, errW_some] <;> rfl) | (simp only [← hji3, ← hji7]; first | rfl | (simp [errW_none, errW_some] <;> rfl)) | (simp [*, errW_none, errW_some] <;> rfl), by repeat (first | (with_reducible first | exact HB.out | apply below_alloc | apply pw_below_drewN | apply below_drew1) | exact HB.out)⟩
     ·rw [if_neg c9] at H
      exact absurd H (by simp)
    ·rw [if_neg c8] at H
     exact absurd H (by simp)
   ·rw [if_neg c6] at H
    exact absurd H (by simp)
  ·rw [if_neg c5] at H
   exact absurd H (by simp)
 ·rw [if_neg c4] at H
  exact absurd H (by simp)

/-- THE ONE PURE STATEMENT of shuttlelaw01_BitsLists: yours. -/
def shuttlelaw01_BitsLists.Pure : Prop := ∀ (l0 : List Int) (l1 : List Int), l0.length ≤ maxLen → l0.length * 1 ≤ 140737488351232 → (∀ x ∈ l0, (Lit.int .u8 x).wf = true) → l1.length ≤ maxLen → l1.length * 8 ≤ 140737488351232 → (∀ x ∈ l1, (Lit.int .i64 x).wf = true) → ∃ k, shuttlelaw01_BitsLists.f k l0 l1 = some true
theorem shuttlelaw01_BitsLists.walk (P : shuttlelaw01_BitsLists.Pure) (a0 : Option Addr) (len0 cap0 : Nat) (z0 : List Int) (a1 : Option Addr) (len1 cap1 : Nat) (z1 : List Int) (w : World) (w0 : (a0 = none ∧ len0 = 0 ∧ cap0 = 0 ∧ z0 = []) ∨ ∃ x, a0 = some x ∧ len0 ≤ cap0 ∧ cap0 ≤ maxLen ∧ z0.length = cap0 ∧ (∀ i, i < z0.length → w.cell? (x.add i) = some (.int .u8 (z0.getD i 0))) ∧ ∀ n ∈ z0, (Lit.int .u8 n).wf = true) (y0 : len0 * 1 ≤ 140737488351232) (w1 : (a1 = none ∧ len1 = 0 ∧ cap1 = 0 ∧ z1 = []) ∨ ∃ x, a1 = some x ∧ len1 ≤ cap1 ∧ cap1 ≤ maxLen ∧ z1.length = cap1 ∧ (∀ i, i < z1.length → w.cell? (x.add i) = some (.int .i64 (z1.getD i 0))) ∧ ∀ n ∈ z1, (Lit.int .i64 n).wf = true) (y1 : len1 * 8 ≤ 140737488351232) :
    Calls Try.prog 9 #[.slice a0 len0 cap0, .slice a1 len1 cap1] w fun e w' => e = .returned (.bool true) ∧ Below w.heap.size w w' := by
  obtain ⟨l0, rfl, hr0, hm0, hw0, hc0⟩ := ReadsInt.ofRowC w0
  obtain ⟨l1, rfl, hr1, hm1, hw1, hc1⟩ := ReadsInt.ofRowC w1
  obtain ⟨k, h⟩ := P l0 l1 hm0 y0 hw0 hm1 y1 hw1
  refine (shuttlelaw01_BitsLists.calls k _ _ l0 _ _ l1 true w (Kd.C_of_reads (d := (0 : Int)) (h1 := fun _ => rfl) hr0) hc0 (Kd.C_of_reads (d := (0 : Int)) (h1 := fun _ => rfl) hr1) hc1 h).mono ?_
  rintro e w' ⟨rfl, hd⟩
  exact ⟨rfl, hd⟩

end Go.Proofs.Ytmjilfeadgancaa.X
