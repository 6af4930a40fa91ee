-- Made by xprint.py (an own driver round the kit's print.py), with contracts of this session's own. Lean checks it.
import Derived.Test.YtmajbcglpcagoaaX0
import Derived.Test.YtmajbcglpcagoaaX7
import Derived.Test.YtmajbcglpcagoaaX10
import Derived.Test.YtmajbcglpcagoaaX11
import Derived.Test.YtmajbcglpcagoaaX13
import Derived.Test.YtmajbcglpcagoaaX14
namespace Go.Proofs.Ytmajbcglpcagoaa.X
open Go.RowKit Go.Proofs.YtmajbcglpcagoaaW.PrintWords Go.Proofs.YtmajbcglpcagoaaW.PrintLast Go.Proofs.YtmajbcglpcagoaaW.PrintMore
attribute [local go_sem] max2_int min2_int max_two min_two max_three min_three max_four min_four   -- for this text's walks alone
set_option linter.unusedVariables false
set_option linter.unusedSimpArgs false

/-! ### shuttlelaw11_VersionSplits: function 3 -/
mutual
def shuttlelaw11_VersionSplits.j0 : Nat → List Int → ByteArray → Int → Bool → List Int → List Int → List Int → List Int → Option (Bool)
  | 0, _, _, _, _, _, _, _, _ => none
  | k + 1, x0, x3, x5, x30, x193000, x193001, x193002, x193003 => if x30 = true then (some false) else ((shuttleref01_Right.f k x0).bind fun t194 => (if t194 = true then (if ((x0.length : Int) % 4) = 0 then (shuttlelaw11_VersionSplits.l0 k x0 x3 x5 0 x193000 x193001 x193002 x193003) else (if x5 = 1 then (some ((x193000.length : Int) == 0)) else (some false))) else (if x5 = 5 then (some ((x193000.length : Int) == 0)) else (some false))))
def shuttlelaw11_VersionSplits.l0 : Nat → List Int → ByteArray → Int → Int → List Int → List Int → List Int → List Int → Option (Bool)
  | 0, _, _, _, _, _, _, _, _ => none
  | k + 1, x0, x3, x5, x6, x193000, x193001, x193002, x193003 => if x6 < 4 then (if x6 = 0 then ((shuttleref10_Pick.f k x0 0).bind fun t204 => (if (strOfNums x193000).toList = (strOfNums t204).toList then (shuttlelaw11_VersionSplits.l0 k x0 x3 x5 (0 + 1) x193000 x193001 x193002 x193003) else (some false))) else (if x6 = 1 then ((shuttleref10_Pick.f k x0 1).bind fun t201 => (if (strOfNums x193001).toList = (strOfNums t201).toList then (shuttlelaw11_VersionSplits.l0 k x0 x3 x5 (1 + 1) x193000 x193001 x193002 x193003) else (some false))) else (if x6 = 2 then ((shuttleref10_Pick.f k x0 2).bind fun t198 => (if (strOfNums x193002).toList = (strOfNums t198).toList then (shuttlelaw11_VersionSplits.l0 k x0 x3 x5 (2 + 1) x193000 x193001 x193002 x193003) else (some false))) else (if x6 = 3 then ((shuttleref10_Pick.f k x0 3).bind fun t195 => (if (strOfNums x193003).toList = (strOfNums t195).toList then (shuttlelaw11_VersionSplits.l0 k x0 x3 x5 (3 + 1) x193000 x193001 x193002 x193003) else (some false))) else (none))))) else ((version_Join.f k x193000 x193001 x193002 x193003).bind fun bt207 => (if x5 = 0 then (if bt207.2 = 0 then (some ((strOfNums bt207.1).toList == x3.toList)) else (some false)) else (some false)))
end
def shuttlelaw11_VersionSplits.f (k : Nat) (l0 : List Int) : Option (Bool) := (some (([] : List Int) : List Int)).bind fun y172 => (if 0 ≤ (mn (l0.length : Int) 300) then (if (mn (l0.length : Int) 300) ≤ (l0.length : Int) then (if y172.length + (l0.take ((mn (l0.length : Int) 300) : Int).toNat).length < 140737488355328 then ((some (y172 ++ (l0.take ((mn (l0.length : Int) 300) : Int).toNat) : List Int)).bind fun y176 => ((version_Split.f k y176).bind fun bt179 => ((shuttlelaw11_splits.f k).bind fun t193 => (if t193 = true then (shuttlelaw11_VersionSplits.j0 k y176 (strOfNums y176) bt179.2.2.2.2 ((strOfNums y176).toList != (strOfNums y176).toList) bt179.1 bt179.2.1 bt179.2.2.1 bt179.2.2.2.1) else (shuttlelaw11_VersionSplits.j0 k y176 (strOfNums y176) bt179.2.2.2.2 true bt179.1 bt179.2.1 bt179.2.2.1 bt179.2.2.2.1))))) else (none)) else (none)) else (none))
theorem shuttlelaw11_VersionSplits.mono_l : ∀ k, (∀ y0 y1 y2 y3 y4 y5 y6 y7, LeO (shuttlelaw11_VersionSplits.j0 k y0 y1 y2 y3 y4 y5 y6 y7) (shuttlelaw11_VersionSplits.j0 (k + 1) y0 y1 y2 y3 y4 y5 y6 y7)) ∧ (∀ y0 y1 y2 y3 y4 y5 y6 y7, LeO (shuttlelaw11_VersionSplits.l0 k y0 y1 y2 y3 y4 y5 y6 y7) (shuttlelaw11_VersionSplits.l0 (k + 1) y0 y1 y2 y3 y4 y5 y6 y7))
  | 0 => ⟨fun _ _ _ _ _ _ _ _ r h => by simp [shuttlelaw11_VersionSplits.j0] at h, fun _ _ _ _ _ _ _ _ r h => by simp [shuttlelaw11_VersionSplits.l0] at h⟩
  | k + 1 => by
    obtain ⟨ih0, ih1⟩ := shuttlelaw11_VersionSplits.mono_l k
    refine ⟨?_, ?_⟩
    · intro y0 y1 y2 y3 y4 y5 y6 y7
      unfold shuttlelaw11_VersionSplits.j0
      repeat' first
      | (with_reducible exact ih0 _ _ _ _ _ _ _ _)
      | (with_reducible exact ih1 _ _ _ _ _ _ _ _)
      | (with_reducible exact shuttlelaw11_splits.mono _)
      | (with_reducible exact shuttleref01_Right.mono _ _)
      | (with_reducible exact shuttleref10_Pick.mono _ _ _)
      | (with_reducible exact version_Join.mono _ _ _ _ _)
      | (with_reducible exact version_Split.mono _ _)
      | (with_reducible exact LeO.refl _)
      | (with_reducible exact LeO.none _)
      | (with_reducible refine LeO.ite ?_ ?_)
      | (with_reducible refine LeO.bind ?_ (fun _ => ?_))
      | exact ih0 _ _ _ _ _ _ _ _
      | exact ih1 _ _ _ _ _ _ _ _
      | exact shuttlelaw11_splits.mono _
      | exact shuttleref01_Right.mono _ _
      | exact shuttleref10_Pick.mono _ _ _
      | exact version_Join.mono _ _ _ _ _
      | exact version_Split.mono _ _
      | exact LeO.none _
      | refine LeO.ite ?_ ?_
      | refine LeO.bind ?_ (fun _ => ?_)
    · intro y0 y1 y2 y3 y4 y5 y6 y7
      unfold shuttlelaw11_VersionSplits.l0
      repeat' first
      | (with_reducible exact ih0 _ _ _ _ _ _ _ _)
      | (with_reducible exact ih1 _ _ _ _ _ _ _ _)
      | (with_reducible exact shuttlelaw11_splits.mono _)
      | (with_reducible exact shuttleref01_Right.mono _ _)
      | (with_reducible exact shuttleref10_Pick.mono _ _ _)
      | (with_reducible exact version_Join.mono _ _ _ _ _)
      | (with_reducible exact version_Split.mono _ _)
      | (with_reducible exact LeO.refl _)
      | (with_reducible exact LeO.none _)
      | (with_reducible refine LeO.ite ?_ ?_)
      | (with_reducible refine LeO.bind ?_ (fun _ => ?_))
      | exact ih0 _ _ _ _ _ _ _ _
      | exact ih1 _ _ _ _ _ _ _ _
      | exact shuttlelaw11_splits.mono _
      | exact shuttleref01_Right.mono _ _
      | exact shuttleref10_Pick.mono _ _ _
      | exact version_Join.mono _ _ _ _ _
      | exact version_Split.mono _ _
      | exact LeO.none _
      | refine LeO.ite ?_ ?_
      | refine LeO.bind ?_ (fun _ => ?_)
theorem shuttlelaw11_VersionSplits.mono : ∀ a0 k, LeO (shuttlelaw11_VersionSplits.f k a0) (shuttlelaw11_VersionSplits.f (k + 1) a0) := by
  intro a0 k
  obtain ⟨ih0, ih1⟩ := shuttlelaw11_VersionSplits.mono_l k
  unfold shuttlelaw11_VersionSplits.f
  repeat' first
      | (with_reducible exact ih0 _ _ _ _ _ _ _ _)
      | (with_reducible exact ih1 _ _ _ _ _ _ _ _)
      | (with_reducible exact shuttlelaw11_splits.mono _)
      | (with_reducible exact shuttleref01_Right.mono _ _)
      | (with_reducible exact shuttleref10_Pick.mono _ _ _)
      | (with_reducible exact version_Join.mono _ _ _ _ _)
      | (with_reducible exact version_Split.mono _ _)
      | (with_reducible exact LeO.refl _)
      | (with_reducible exact LeO.none _)
      | (with_reducible refine LeO.ite ?_ ?_)
      | (with_reducible refine LeO.bind ?_ (fun _ => ?_))
      | exact ih0 _ _ _ _ _ _ _ _
      | exact ih1 _ _ _ _ _ _ _ _
      | exact shuttlelaw11_splits.mono _
      | exact shuttleref01_Right.mono _ _
      | exact shuttleref10_Pick.mono _ _ _
      | exact version_Join.mono _ _ _ _ _
      | exact version_Split.mono _ _
      | exact LeO.none _
      | refine LeO.ite ?_ ?_
      | refine LeO.bind ?_ (fun _ => ?_)
def shuttlelaw11_VersionSplits.T13 : Bool × List (List Nat × List Nat) := (true, [([], []), ([0], [0]), ([1], [1]), ([2], [2]), ([], []), ([], []), ([4, 5], [4, 5]), ([6], [6]), ([3, 7], [3, 7])])
def shuttlelaw11_VersionSplits.B13 : List Nat := [0, 1, 3, 7, 0, 0, 48, 112, 255]
theorem shuttlelaw11_VersionSplits.tab13 : rtab .any (opsOf Try.f3 13) = shuttlelaw11_VersionSplits.T13 := by kernel_rfl
theorem shuttlelaw11_VersionSplits.bits13 : waitsOk shuttlelaw11_VersionSplits.T13.2 shuttlelaw11_VersionSplits.B13 = true := by kernel_rfl
abbrev tY : Bool := true
abbrev tN : Bool := false
theorem sq_a1 {α : Type} (l : List α) (i : Nat) (x : α) : l.toArray.setIfInBounds i x = (l.set i x).toArray := List.setIfInBounds_toArray ..
theorem sq_a2 {α : Type} (a : α) (s : List α) (x : α) : (a :: s).set 0 x = x :: s := List.set_cons_zero
theorem sq_a3 {α : Type} (a : α) (s : List α) (n : Nat) (x : α) : (a :: s).set (n + 1) x = a :: s.set n x := List.set_cons_succ
theorem sq_m {p : Prop} (h : p) : Aside0 p := ⟨h⟩
theorem sq_b {w W : World} (h : Below w.heap.size w W) (o : Obj) : Below w.heap.size w (W.alloc o) := below_alloc h o
theorem sq_n {B : Nat} {w W : World} (h : Below B w W) (n : Nat) : Below B w (W.drewN n) := pw_below_drewN h n
theorem sq_d {B : Nat} {w W : World} (h : Below B w W) : Below B w W.drew := below_drew1 h
theorem sq_N {α : Type} {d : Kd α} {e : Nat} {w : World} {base : Nat} {ok : Nat → Prop} {v : Value} {xs : List α} (h : d.R e w base ok v xs) (m : Nat) : d.R e (w.drewN m) base ok v xs := Kd.R_drewN h m
theorem sq_D {α : Type} {d : Kd α} {e : Nat} {w : World} {base : Nat} {ok : Nat → Prop} {v : Value} {xs : List α} (h : d.R e w base ok v xs) : d.R e w.drew base ok v xs := Kd.R_drew h
theorem sq_A {α : Type} {d : Kd α} {e : Nat} {w : World} {base : Nat} {ok : Nat → Prop} {v : Value} {xs : List α} (h : d.R e w base ok v xs) (o : Obj) : d.R e (w.alloc o) base ok v xs := Kd.R_alloc h o
theorem sq_R {α : Type} {d : Kd α} {e : Nat} {w W : World} {base : Nat} {ok : Nat → Prop} {v : Value} {xs : List α} (h : d.R e w base ok v xs) (t : d.R e w base ok v xs → d.R e W base ok v xs := by intro h; (with_reducible repeat (first | apply sq_A | apply sq_N | apply sq_D)); exact h) : d.R e W base ok v xs := t h
theorem sq_B {B : Nat} {w w' W : World} (h : Below B w w') (t : Below B w w' → Below B w W := by intro h; (with_reducible repeat (first | exact h | apply sq_b | apply sq_n | apply sq_d))) : Below B w W := t h
abbrev mk0 : Array Bool := #[tN,tN,tN,tN,tN,tN,tN,tN,tN]
abbrev mk1 : Array Bool := #[tY,tN,tN,tN,tN,tN,tN,tN,tN]
abbrev mk2 : Array Bool := #[tY,tY,tN,tN,tN,tN,tN,tN,tN]
abbrev mk3 : Array Bool := #[tY,tY,tN,tN,tY,tN,tN,tN,tN]
abbrev mk4 : Array Bool := #[tY,tY,tN,tN,tY,tY,tN,tN,tN]
abbrev mk5 : Array Bool := #[tY,tY,tY,tN,tY,tY,tN,tN,tN]
abbrev mk6 : Array Bool := #[tY,tY,tY,tY,tY,tY,tY,tY,tN]
abbrev mk7 : Array Bool := #[tY,tY,tY,tY,tY,tY,tN,tN,tN]
abbrev mk8 : Array Bool := #[tY,tY,tY,tN,tY,tY,tY,tN,tN]
abbrev mk9 : Array Bool := #[tY,tY,tY,tY,tY,tY,tY,tN,tN]
abbrev mk10 : Array Bool := #[tY,tY,tY,tN,tY,tY,tY,tY,tN]
abbrev mk11 : Array Bool := #[tY,tY,tY,tY,tY,tY,tY,tY,tY]
set_option maxHeartbeats 8000000 in
set_option maxRecDepth 100000 in
theorem shuttlelaw11_VersionSplits.calls (k : Nat) (A0 : Option Addr) (c0 : Nat) (l0 : List Int) (r : Bool) (w : World) (hr0 : Kd.C (Kd.int .u8) w A0 l0.length l0) (hc0 : l0.length ≤ c0) (h : shuttlelaw11_VersionSplits.f k l0 = some r) :
  Calls Try.prog 3 #[.slice A0 l0.length c0] w fun e w' => e = .returned (.bool r) ∧ Below w.heap.size w w' := by
 have hu23 := Try.underlying23
 have HR0 := sq_m hr0
 have HC0 := sq_m hc0
 clear hr0 hc0
 have HB := sq_m (Below.refl w.heap.size w)
 have H : ((some (([] : List Int) : List Int)).bind fun y172 => (if 0 ≤ (mn (l0.length : Int) 300) then (if (mn (l0.length : Int) 300) ≤ (l0.length : Int) then (if y172.length + (l0.take ((mn (l0.length : Int) 300) : Int).toNat).length < 140737488355328 then ((some (y172 ++ (l0.take ((mn (l0.length : Int) 300) : Int).toNat) : List Int)).bind fun zg => ((version_Split.f k zg).bind fun bt179 => ((shuttlelaw11_splits.f k).bind fun t193 => (if t193 = true then (shuttlelaw11_VersionSplits.j0 k zg (strOfNums zg) bt179.2.2.2.2 ((strOfNums zg).toList != (strOfNums zg).toList) bt179.1 bt179.2.1 bt179.2.2.1 bt179.2.2.2.1) else (shuttlelaw11_VersionSplits.j0 k zg (strOfNums zg) bt179.2.2.2.2 true bt179.1 bt179.2.1 bt179.2.2.1 bt179.2.2.2.1))))) else (none)) else (none)) else (none))) = some r := h
 clear h
 obtain ⟨y172, hy172⟩ : ∃ y_ : List Int, y_ = (([] : List Int)) := ⟨_, rfl⟩
 replace H : (if 0 ≤ (mn (l0.length : Int) 300) then (if (mn (l0.length : Int) 300) ≤ (l0.length : Int) then (if y172.length + (l0.take ((mn (l0.length : Int) 300) : Int).toNat).length < 140737488355328 then ((some (y172 ++ (l0.take ((mn (l0.length : Int) 300) : Int).toNat) : List Int)).bind fun zg => ((version_Split.f k zg).bind fun bt179 => ((shuttlelaw11_splits.f k).bind fun t193 => (if t193 = true then (shuttlelaw11_VersionSplits.j0 k zg (strOfNums zg) bt179.2.2.2.2 ((strOfNums zg).toList != (strOfNums zg).toList) bt179.1 bt179.2.1 bt179.2.2.1 bt179.2.2.2.1) else (shuttlelaw11_VersionSplits.j0 k zg (strOfNums zg) bt179.2.2.2.2 true bt179.1 bt179.2.1 bt179.2.2.1 bt179.2.2.2.1))))) else (none)) else (none)) else (none)) = some r := by first | (rw [hy172]; with_reducible exact H) | (have H2_ := (Option.bind_some _ _).symm.trans H; rw [hy172]; with_reducible exact H2_) | (have H2_ := (Option.bind_some _ _).symm.trans H; with_reducible exact H2_) | with_reducible exact H | (rw [hy172]; exact H) | exact H
 have Ny172 := sq_m hy172
 clear hy172
 obtain ⟨ji2, hji2⟩ : ∃ j_ : Int, (mn (l0.length : Int) 300) = j_ := ⟨_, rfl⟩
 replace H : (if 0 ≤ (ji2) then (if (ji2) ≤ (l0.length : Int) then (if y172.length + (l0.take ((ji2) : Int).toNat).length < 140737488355328 then ((some (y172 ++ (l0.take ((ji2) : Int).toNat) : List Int)).bind fun zg => ((version_Split.f k zg).bind fun bt179 => ((shuttlelaw11_splits.f k).bind fun t193 => (if t193 = true then (shuttlelaw11_VersionSplits.j0 k zg (strOfNums zg) bt179.2.2.2.2 ((strOfNums zg).toList != (strOfNums zg).toList) bt179.1 bt179.2.1 bt179.2.2.1 bt179.2.2.2.1) else (shuttlelaw11_VersionSplits.j0 k zg (strOfNums zg) bt179.2.2.2.2 true bt179.1 bt179.2.1 bt179.2.2.1 bt179.2.2.2.1))))) else (none)) else (none)) else (none)) = some r := by first | (rw [hji2] at H; exact H) | (simp only [hji2] at H ⊢; exact H)
 (try (have hji2h : ji2 ≤ 300 := by (rw [← hji2]; unfold mn; (repeat' split) <;> omega)))
 (try (have hji2g : ji2 ≤ 64 := by omega))
 (try (have hji2l : 0 ≤ ji2 := by (rw [← hji2]; unfold mn; (repeat' split) <;> omega)))
 (try (have hji2m : 0 ≤ ji2 := by omega))
 have hji2_ : (if 300 < (l0.length : Int) then 300 else (l0.length : Int)) = ji2 := hji2
 by_cases c3 : 0 ≤ (ji2)
 ·rw [if_pos c3] at H
  have c3b0 := eq_true c3
  have c3b1 : decide (0 ≤ (ji2)) = true := decide_eq_true c3
  clear c3
  by_cases c4 : (ji2) ≤ (l0.length : Int)
  ·rw [if_pos c4] at H
   have c4b0 := eq_true c4
   have c4b1 : decide ((ji2) ≤ (l0.length : Int)) = true := decide_eq_true c4
   clear c4
   by_cases c5 : y172.length + (l0.take ((ji2) : Int).toNat).length < 140737488355328
   ·rw [if_pos c5] at H
    have LMc5 := sq_m c5
    clear c5
    obtain ⟨zg, hy176⟩ : ∃ y_ : List Int, y_ = (y172 ++ (l0.take ((ji2) : Int).toNat)) := ⟨_, rfl⟩
    replace H : ((version_Split.f k zg).bind fun bt179 => ((shuttlelaw11_splits.f k).bind fun t193 => (if t193 = true then (shuttlelaw11_VersionSplits.j0 k zg (strOfNums zg) bt179.2.2.2.2 ((strOfNums zg).toList != (strOfNums zg).toList) bt179.1 bt179.2.1 bt179.2.2.1 bt179.2.2.2.1) else (shuttlelaw11_VersionSplits.j0 k zg (strOfNums zg) bt179.2.2.2.2 true bt179.1 bt179.2.1 bt179.2.2.1 bt179.2.2.2.1)))) = some r := by first | (rw [hy176]; with_reducible exact H) | (have H2_ := (Option.bind_some _ _).symm.trans H; rw [hy176]; with_reducible exact H2_) | (have H2_ := (Option.bind_some _ _).symm.trans H; with_reducible exact H2_) | with_reducible exact H | (rw [hy176]; exact H) | exact H
    have Ny176 := sq_m hy176
    clear hy176
    replace H := Option.bind_eq_some_iff.mp H
    obtain ⟨⟨zh, zi, zj, zk, zy⟩, A60, H⟩ := H
    replace H : ((shuttlelaw11_splits.f k).bind fun t193 => (if t193 = true then (shuttlelaw11_VersionSplits.j0 k zg (strOfNums zg) zy ((strOfNums zg).toList != (strOfNums zg).toList) zh zi zj zk) else (shuttlelaw11_VersionSplits.j0 k zg (strOfNums zg) zy true zh zi zj zk))) = some r := H
    have A6 := sq_m A60
    clear A60
    have HC7 := sq_m H
    clear H
    go_enter Try.func3, Try.ntmps3
    go_upto_region 4 with (first | ((with_reducible refine gate_dst (N := 9) rfl ?_); (try (refine gate_guard (by rfl) ?_; dsimp only)); refine Kd.R_lit (Kd.int .u8) _ 5 ?hg (N := 9) ?hd (xs := ([] : List Int)) (inner := []) (ok := fun _ => True) (okp := fun _ => True) ?hr ?hp (fun _ hk => hk) trivial (Below.refl _ _) (Nat.le_refl _) (by simp) ?_; (case hd => rfl); (case hg => rfl); (case hr => first | (go_simp; done) | (go_simp; rfl)); (case hp => exact (Reps.none _ _)); intro v173 w8 ho9 hb hg_ hnew_; clear hg_ hnew_; (first | rw [← Ny172.out] at ho9 | (simp only [Int.reduceToNat] at ho9; rw [← Ny172.out] at ho9)); have n0_ := sq_m (Kd.R_lower ho9 (below_size (sq_B HB.out))); have n1_ := sq_m (below_step (sq_B HB.out) hb); clear HB; have HO174 := n0_; have HB := n1_; clear n0_ n1_; clear hb ho9; obtain ⟨i010, hi010, _, hsz10, _⟩ := info_parts info5; obtain ⟨hcut10, hA10, hC10⟩ := print_take_of (P := Try.prog) (Value.int .u8) 0 22 5 .i64 Try.underlying22 hi010 hsz10 A0 c0 l0 (ji2) (of_decide_eq_true (by first | (with_reducible assumption) | assumption)) (of_decide_eq_true (by first | (with_reducible assumption) | assumption)) HC0.out; have HR175 := sq_m (Kd.C_of_reads (h1 := fun _ => rfl) (hA10 _ (Kd.reads_of_C HR0.out))); have HC175 := sq_m hC10; clear hA10 hC10 hi010 hsz10) | ((with_reducible refine gate_builtin (b := .append) (xs := #[.tmp 9, .tmp 14]) rfl ?_); (try (refine gate_guard (by rfl) ?_; dsimp only)); at_builtin; refine Kd.R_append_rows (Kd.int .u8) (w0 := w) w.heap.size rfl (.tmp 9) (.tmp 14) 22 5 (.int .u8 0) 1 rfl Try.underlying22 info5 rfl (by decide) (by omega) v173 y172 (l0.take ((ji2) : Int).toNat) _ _ _ (fun _ => True) (fun _ => False) rfl rfl ?aO ?aR (fun _ _ h => h) (fun _ h => h.elim) ?aF ?aB ?aS ?aL ?_; (case aR => first | (refine reads_len (show (l0.take ((ji2) : Int).toNat).length = (ji2).toNat from (by rw [List.length_take]; have h_ : ((ji2) : Int) ≤ (l0.length : Int) := of_decide_eq_true (by first | (with_reducible assumption) | assumption); omega)) ?_; repeat (first | exact (Kd.C_below HR175.out HB.out) | (with_reducible refine Kd.C_alloc ?_ _) | (with_reducible refine Kd.C_drewN ?_ _) | (with_reducible refine Kd.C_drew ?_))) | (repeat (first | exact (Kd.C_below HR175.out HB.out) | (with_reducible refine Kd.C_alloc ?_ _) | (with_reducible refine Kd.C_drewN ?_ _) | (with_reducible refine Kd.C_drew ?_)))); (case aB => exact (sq_B HB.out)); (case aF => exact (fun _ _ => trivial)); (case aO => exact (sq_R HO174.out)); (case aS => exact (below_size (sq_B HB.out))); (case aL => have := LMc5.out; have hlx_ := (show (l0.take ((ji2) : Int).toNat).length = (ji2).toNat from (by rw [List.length_take]; have h_ : ((ji2) : Int) ≤ (l0.length : Int) := of_decide_eq_true (by first | (with_reducible assumption) | assumption); omega)); omega); intro v177 w11 ho hb hg hat; rw [← Ny176.out] at ho; have n0_ := sq_m (hb); have n1_ := sq_m (ho); clear HB; clear HO174; have HB := n0_; have zz := n1_; clear n0_ n1_; clear ho hb hg hat; have hcv12 := own_string (P := Try.prog) Try.underlying22 Try.underlying5 Try.underlying9 (Kd.own_of_R zz.out); obtain ⟨zu, zv, eo13⟩ := Kd.R_slice zz.out; subst eo13) | ((with_reducible refine gate_callee (f := 8) rfl ?_); refine goesL_ (some 20) rfl rfl Try.func8 (by kernel_rfl) rfl #[.slice zu zg.length zv] rfl (by (try simp only [List.map_toArray, List.map_cons, List.map_nil]); first | done | rfl | (simp only [List.length_drop, List.length_take]; rfl)) ?_; (with_reducible refine (version_Split.calls k _ _ zg zh zi zj zk zy _ ?side1 ?side2 A6.out).mono ?_); (case side1 => repeat (first | exact (Kd.R_reads' zz.out).2.2 | (with_reducible refine Kd.C_alloc ?_ _) | (with_reducible refine Kd.C_drewN ?_ _) | (with_reducible refine Kd.C_drew ?_))); (case side2 => exact (Kd.R_reads' zz.out).2.1); rintro e w14 ⟨v180, v183, v186, v189, rfl, zw, ho1, ho2, ho3, hb⟩; refine ⟨_, rfl, ?_⟩; have n0_ := sq_m (Kd.R_mono (Kd.R_told (Kd.R_told (Kd.R_told (Kd.R_told (Kd.R_old (sq_R zz.out) hb) (Kd.R_base zw)) (Kd.R_base ho1)) (Kd.R_base ho2)) (Kd.R_base ho3)) (fun _ h_ => h_.1)); have n1_ := sq_m (Kd.R_lower (Kd.R_new' zw (Kd.R_lt (sq_R zz.out))) (below_size (sq_B HB.out))); have n2_ := sq_m (Kd.R_lower (Kd.R_new' ho1 (Kd.R_lt (sq_R zz.out))) (below_size (sq_B HB.out))); have n3_ := sq_m (Kd.R_lower (Kd.R_new' ho2 (Kd.R_lt (sq_R zz.out))) (below_size (sq_B HB.out))); have n4_ := sq_m (Kd.R_lower (Kd.R_new' ho3 (Kd.R_lt (sq_R zz.out))) (below_size (sq_B HB.out))); have n5_ := sq_m (below_step (sq_B HB.out) hb); clear zz; clear HB; have zz := n0_; have HO181 := n1_; have HO184 := n2_; have HO187 := n3_; have HO190 := n4_; have HB := n5_; clear n0_ n1_ n2_ n3_ n4_ n5_; (try clear hb); (try clear hb2); (try clear hk); (try clear hi); (try clear zw); (try clear ho1); (try clear ho2); (try clear ho3)) | ((with_reducible refine gate_dst (N := 4) rfl ?_); (try (refine gate_guard (by rfl) ?_; dsimp only)); refine box_event ?hg (N := 4) ?hd (cs := #[.slice none 0 0, .slice none 0 0, .slice none 0 0, .slice none 0 0]) (t := 23) ?hr ?_; (case hd => rfl); (case hg => rfl); (case hr => first | (go_simp; done) | (go_simp; rfl)); intro zf hg w15 hbox hb; have n0_ := sq_m (Kd.R_below (sq_R zz.out) hb); have n1_ := sq_m (Kd.R_below (sq_R HO181.out) hb); have n2_ := sq_m (Kd.R_below (sq_R HO184.out) hb); have n3_ := sq_m (Kd.R_below (sq_R HO187.out) hb); have n4_ := sq_m (Kd.R_below (sq_R HO190.out) hb); have n5_ := sq_m (below_step (sq_B HB.out) hb); have n6_ := sq_m (hbox); have n7_ := sq_m ((by rw [hg]; exact (below_size (sq_B HB.out)) : w.heap.size ≤ zf)); have n8_ := sq_m ((by rw [hg]; exact (below_size (sq_B HB.out)) : w.heap.size ≤ zf)); clear zz; clear HO181; clear HO184; clear HO187; clear HO190; clear HB; have zz := n0_; have HO181 := n1_; have HO184 := n2_; have HO187 := n3_; have HO190 := n4_; have HB := n5_; have za := n6_; have GW192 := n7_; have zx := n8_; clear n0_ n1_ n2_ n3_ n4_ n5_ n6_ n7_ n8_; clear hb hbox hg; obtain ⟨zm, zn, eo16⟩ := Kd.R_slice HO181.out; subst eo16; have hcz17_0 : w15.cell? ⟨zf, 0, none⟩ = some (.slice none 0 0) := (blk_cell za.out 0).trans rfl; have hcz17_1 : w15.cell? ⟨zf, 1, none⟩ = some (.slice none 0 0) := (blk_cell za.out 1).trans rfl; have hcz17_2 : w15.cell? ⟨zf, 2, none⟩ = some (.slice none 0 0) := (blk_cell za.out 2).trans rfl; have hcz17_3 : w15.cell? ⟨zf, 3, none⟩ = some (.slice none 0 0) := (blk_cell za.out 3).trans rfl; have hfz17_0 := blk_frozen za.out 0; have hfz17_1 := blk_frozen za.out 1; have hfz17_2 := blk_frozen za.out 2; have hfz17_3 := blk_frozen za.out 3; obtain ⟨zo, zp, eo18⟩ := Kd.R_slice HO184.out; subst eo18; obtain ⟨zq, zr, eo19⟩ := Kd.R_slice HO187.out; subst eo19; obtain ⟨zs, zt, eo20⟩ := Kd.R_slice HO190.out; subst eo20))
    (try simp only [Act.put, sq_a1, sq_a2, sq_a3])
    go_cut [30] (fun v30 wc => ∃ (kq : Nat) (x30_6 : Bool), v30 = .bool x30_6 ∧ Aside0 (shuttlelaw11_VersionSplits.j0 kq zg (strOfNums zg) zy x30_6 zh zi zj zk = some r) ∧ Aside0 (kq ≤ k) ∧ Aside0 (Kd.R (Kd.int .u8) 5 wc w.heap.size (fun k_ => some k_ ≠ ((.slice zm zh.length zn) : Value).ownBlock ∧ some k_ ≠ ((.slice zo zi.length zp) : Value).ownBlock ∧ some k_ ≠ ((.slice zq zj.length zr) : Value).ownBlock ∧ some k_ ≠ ((.slice zs zk.length zt) : Value).ownBlock) (.slice zu zg.length zv) zg) ∧ Aside0 (Kd.R (Kd.int .u8) 5 wc w.heap.size (fun k_ => some k_ ≠ ((.slice zu zg.length zv) : Value).ownBlock ∧ some k_ ≠ ((.slice zo zi.length zp) : Value).ownBlock ∧ some k_ ≠ ((.slice zq zj.length zr) : Value).ownBlock ∧ some k_ ≠ ((.slice zs zk.length zt) : Value).ownBlock) (.slice zm zh.length zn) zh) ∧ Aside0 (Kd.R (Kd.int .u8) 5 wc w.heap.size (fun k_ => some k_ ≠ ((.slice zu zg.length zv) : Value).ownBlock ∧ some k_ ≠ ((.slice zm zh.length zn) : Value).ownBlock ∧ some k_ ≠ ((.slice zq zj.length zr) : Value).ownBlock ∧ some k_ ≠ ((.slice zs zk.length zt) : Value).ownBlock) (.slice zo zi.length zp) zi) ∧ Aside0 (Kd.R (Kd.int .u8) 5 wc w.heap.size (fun k_ => some k_ ≠ ((.slice zu zg.length zv) : Value).ownBlock ∧ some k_ ≠ ((.slice zm zh.length zn) : Value).ownBlock ∧ some k_ ≠ ((.slice zo zi.length zp) : Value).ownBlock ∧ some k_ ≠ ((.slice zs zk.length zt) : Value).ownBlock) (.slice zq zj.length zr) zj) ∧ Aside0 (Kd.R (Kd.int .u8) 5 wc w.heap.size (fun k_ => some k_ ≠ ((.slice zu zg.length zv) : Value).ownBlock ∧ some k_ ≠ ((.slice zm zh.length zn) : Value).ownBlock ∧ some k_ ≠ ((.slice zo zi.length zp) : Value).ownBlock ∧ some k_ ≠ ((.slice zq zj.length zr) : Value).ownBlock) (.slice zs zk.length zt) zk) ∧ Aside0 (wc.heap[zf]? = some (.cells #[(.slice zm zh.length zn), (.slice zo zi.length zp), (.slice zq zj.length zr), (.slice zs zk.length zt)] 23 (0, 0))) ∧ Aside0 (Below w.heap.size w wc))
    case first =>
     have H := HC7.out
     clear HC7
     replace H := Option.bind_eq_some_iff.mp H
     obtain ⟨t193, A210, H⟩ := H
     replace H : (if t193 = true then (shuttlelaw11_VersionSplits.j0 k zg (strOfNums zg) zy ((strOfNums zg).toList != (strOfNums zg).toList) zh zi zj zk) else (shuttlelaw11_VersionSplits.j0 k zg (strOfNums zg) zy true zh zi zj zk)) = some r := H
     have A21 := sq_m A210
     clear A210
     by_cases c22 : t193 = true
     ·subst c22
      have H1 : (shuttlelaw11_VersionSplits.j0 k zg (strOfNums zg) zy ((strOfNums zg).toList != (strOfNums zg).toList) zh zi zj zk) = some r := by rw [if_pos rfl] at H; exact H
      clear H
      have H := H1
      clear H1
      have H' := sq_m H
      clear H
      go_wp2_with (first | ((with_reducible refine gate_callee (f := 9) rfl ?_); refine goesL_ (some 23) rfl rfl Try.func9 (by kernel_rfl) rfl #[] rfl (by (try simp only [List.map_toArray, List.map_cons, List.map_nil]); first | done | rfl | (simp only [List.length_drop, List.length_take]; rfl)) ?_; (with_reducible refine (shuttlelaw11_splits.calls k  true _ A21.out).mono ?_); rintro e w23 ⟨rfl, hb⟩; refine ⟨_, rfl, ?_⟩; have n0_ := sq_m (Kd.R_below (by (with_reducible repeat (first | apply sq_A | apply sq_N | apply sq_D)); exact (Kd.R_mono (Kd.R_far (p := ⟨zf, 3, none⟩) (Kd.R_far (p := ⟨zf, 2, none⟩) (Kd.R_far (p := ⟨zf, 1, none⟩) (Kd.R_far (p := ⟨zf, 0, none⟩) (Kd.R_types zz.out za.out (by decide)) (fun _ hk => hk.2) (.slice zm zh.length zn)) (fun _ hk => hk.2) (.slice zo zi.length zp)) (fun _ hk => hk.2) (.slice zq zj.length zr)) (fun _ hk => hk.2) (.slice zs zk.length zt)) (fun _ h_ => h_.1))) hb); have n1_ := sq_m (Kd.R_below (by (with_reducible repeat (first | apply sq_A | apply sq_N | apply sq_D)); exact (Kd.R_mono (Kd.R_far (p := ⟨zf, 3, none⟩) (Kd.R_far (p := ⟨zf, 2, none⟩) (Kd.R_far (p := ⟨zf, 1, none⟩) (Kd.R_far (p := ⟨zf, 0, none⟩) (Kd.R_types HO181.out za.out (by decide)) (fun _ hk => hk.2) (.slice zm zh.length zn)) (fun _ hk => hk.2) (.slice zo zi.length zp)) (fun _ hk => hk.2) (.slice zq zj.length zr)) (fun _ hk => hk.2) (.slice zs zk.length zt)) (fun _ h_ => h_.1))) hb); have n2_ := sq_m (Kd.R_below (by (with_reducible repeat (first | apply sq_A | apply sq_N | apply sq_D)); exact (Kd.R_mono (Kd.R_far (p := ⟨zf, 3, none⟩) (Kd.R_far (p := ⟨zf, 2, none⟩) (Kd.R_far (p := ⟨zf, 1, none⟩) (Kd.R_far (p := ⟨zf, 0, none⟩) (Kd.R_types HO184.out za.out (by decide)) (fun _ hk => hk.2) (.slice zm zh.length zn)) (fun _ hk => hk.2) (.slice zo zi.length zp)) (fun _ hk => hk.2) (.slice zq zj.length zr)) (fun _ hk => hk.2) (.slice zs zk.length zt)) (fun _ h_ => h_.1))) hb); have n3_ := sq_m (Kd.R_below (by (with_reducible repeat (first | apply sq_A | apply sq_N | apply sq_D)); exact (Kd.R_mono (Kd.R_far (p := ⟨zf, 3, none⟩) (Kd.R_far (p := ⟨zf, 2, none⟩) (Kd.R_far (p := ⟨zf, 1, none⟩) (Kd.R_far (p := ⟨zf, 0, none⟩) (Kd.R_types HO187.out za.out (by decide)) (fun _ hk => hk.2) (.slice zm zh.length zn)) (fun _ hk => hk.2) (.slice zo zi.length zp)) (fun _ hk => hk.2) (.slice zq zj.length zr)) (fun _ hk => hk.2) (.slice zs zk.length zt)) (fun _ h_ => h_.1))) hb); have n4_ := sq_m (Kd.R_below (by (with_reducible repeat (first | apply sq_A | apply sq_N | apply sq_D)); exact (Kd.R_mono (Kd.R_far (p := ⟨zf, 3, none⟩) (Kd.R_far (p := ⟨zf, 2, none⟩) (Kd.R_far (p := ⟨zf, 1, none⟩) (Kd.R_far (p := ⟨zf, 0, none⟩) (Kd.R_types HO190.out za.out (by decide)) (fun _ hk => hk.2) (.slice zm zh.length zn)) (fun _ hk => hk.2) (.slice zo zi.length zp)) (fun _ hk => hk.2) (.slice zq zj.length zr)) (fun _ hk => hk.2) (.slice zs zk.length zt)) (fun _ h_ => h_.1))) hb); have n5_ := sq_m (blk_below (g := zf) (o := .cells #[.slice zm zh.length zn, .slice zo zi.length zp, .slice zq zj.length zr, .slice zs zk.length zt] 23 (0, 0)) (by (with_reducible repeat (first | refine blk_drewN ?_ _ | refine blk_drew ?_ | refine blk_alloc ?_ _)); refine blk_put (cs := #[.slice zm zh.length zn, .slice zo zi.length zp, .slice zq zj.length zr, .slice none 0 0]) ?_ 3 _ rfl; (with_reducible repeat (first | refine blk_drewN ?_ _ | refine blk_drew ?_ | refine blk_alloc ?_ _)); refine blk_put (cs := #[.slice zm zh.length zn, .slice zo zi.length zp, .slice none 0 0, .slice none 0 0]) ?_ 2 _ rfl; (with_reducible repeat (first | refine blk_drewN ?_ _ | refine blk_drew ?_ | refine blk_alloc ?_ _)); refine blk_put (cs := #[.slice zm zh.length zn, .slice none 0 0, .slice none 0 0, .slice none 0 0]) ?_ 1 _ rfl; (with_reducible repeat (first | refine blk_drewN ?_ _ | refine blk_drew ?_ | refine blk_alloc ?_ _)); refine blk_put (cs := #[.slice none 0 0, .slice none 0 0, .slice none 0 0, .slice none 0 0]) ?_ 0 _ rfl; (with_reducible repeat (first | refine blk_drewN ?_ _ | refine blk_drew ?_ | refine blk_alloc ?_ _)); exact za.out) hb); have n6_ := sq_m (below_step (by with_reducible repeat (first | exact HB.out | apply sq_b | apply sq_n | apply sq_d | refine below_set ?_ zx.out)) hb); clear zz; clear HO181; clear HO184; clear HO187; clear HO190; clear za; clear HB; have zz := n0_; have HO181 := n1_; have HO184 := n2_; have HO187 := n3_; have HO190 := n4_; have za := n5_; have HB := n6_; clear n0_ n1_ n2_ n3_ n4_ n5_ n6_; (try clear hb); (try clear hb2); (try clear hk); (try clear hi); have hcv24 := own_string (P := Try.prog) Try.underlying22 Try.underlying5 Try.underlying9 (Kd.own_of_R zz.out)))
      go_meet
      case rel => exact ⟨_, (((strOfNums zg).toList != (strOfNums zg).toList)), (by first | rfl | (simp; done) | (simp [*]; done)), H', ⟨by first | omega | exact Nat.le_refl _⟩, ⟨by (with_reducible repeat (first | apply sq_A | apply sq_N | apply sq_D)); exact Kd.R_mono zz.out (fun _ hk => by simp [hk])⟩, ⟨by (with_reducible repeat (first | apply sq_A | apply sq_N | apply sq_D)); exact Kd.R_mono HO181.out (fun _ hk => by simp [hk])⟩, ⟨by (with_reducible repeat (first | apply sq_A | apply sq_N | apply sq_D)); exact Kd.R_mono HO184.out (fun _ hk => by simp [hk])⟩, ⟨by (with_reducible repeat (first | apply sq_A | apply sq_N | apply sq_D)); exact Kd.R_mono HO187.out (fun _ hk => by simp [hk])⟩, ⟨by (with_reducible repeat (first | apply sq_A | apply sq_N | apply sq_D)); exact Kd.R_mono HO190.out (fun _ hk => by simp [hk])⟩, ⟨by (with_reducible repeat (first | refine blk_drewN ?_ _ | refine blk_drew ?_ | refine blk_alloc ?_ _)); exact za.out⟩, ⟨by with_reducible repeat (first | exact HB.out | apply sq_b | apply sq_n | apply sq_d | refine below_set ?_ zx.out)⟩⟩
     ·replace c22 := Bool.eq_false_iff.mpr c22
      subst c22
      have H1 : (shuttlelaw11_VersionSplits.j0 k zg (strOfNums zg) zy true zh zi zj zk) = some r := by rw [if_neg (show ¬ (false = true) by decide)] at H; exact H
      clear H
      have H := H1
      clear H1
      have H' := sq_m H
      clear H
      go_wp2_with (first | ((with_reducible refine gate_callee (f := 9) rfl ?_); refine goesL_ (some 23) rfl rfl Try.func9 (by kernel_rfl) rfl #[] rfl (by (try simp only [List.map_toArray, List.map_cons, List.map_nil]); first | done | rfl | (simp only [List.length_drop, List.length_take]; rfl)) ?_; (with_reducible refine (shuttlelaw11_splits.calls k  false _ A21.out).mono ?_); rintro e w25 ⟨rfl, hb⟩; refine ⟨_, rfl, ?_⟩; have n0_ := sq_m (Kd.R_below (by (with_reducible repeat (first | apply sq_A | apply sq_N | apply sq_D)); exact (Kd.R_mono (Kd.R_far (p := ⟨zf, 3, none⟩) (Kd.R_far (p := ⟨zf, 2, none⟩) (Kd.R_far (p := ⟨zf, 1, none⟩) (Kd.R_far (p := ⟨zf, 0, none⟩) (Kd.R_types zz.out za.out (by decide)) (fun _ hk => hk.2) (.slice zm zh.length zn)) (fun _ hk => hk.2) (.slice zo zi.length zp)) (fun _ hk => hk.2) (.slice zq zj.length zr)) (fun _ hk => hk.2) (.slice zs zk.length zt)) (fun _ h_ => h_.1))) hb); have n1_ := sq_m (Kd.R_below (by (with_reducible repeat (first | apply sq_A | apply sq_N | apply sq_D)); exact (Kd.R_mono (Kd.R_far (p := ⟨zf, 3, none⟩) (Kd.R_far (p := ⟨zf, 2, none⟩) (Kd.R_far (p := ⟨zf, 1, none⟩) (Kd.R_far (p := ⟨zf, 0, none⟩) (Kd.R_types HO181.out za.out (by decide)) (fun _ hk => hk.2) (.slice zm zh.length zn)) (fun _ hk => hk.2) (.slice zo zi.length zp)) (fun _ hk => hk.2) (.slice zq zj.length zr)) (fun _ hk => hk.2) (.slice zs zk.length zt)) (fun _ h_ => h_.1))) hb); have n2_ := sq_m (Kd.R_below (by (with_reducible repeat (first | apply sq_A | apply sq_N | apply sq_D)); exact (Kd.R_mono (Kd.R_far (p := ⟨zf, 3, none⟩) (Kd.R_far (p := ⟨zf, 2, none⟩) (Kd.R_far (p := ⟨zf, 1, none⟩) (Kd.R_far (p := ⟨zf, 0, none⟩) (Kd.R_types HO184.out za.out (by decide)) (fun _ hk => hk.2) (.slice zm zh.length zn)) (fun _ hk => hk.2) (.slice zo zi.length zp)) (fun _ hk => hk.2) (.slice zq zj.length zr)) (fun _ hk => hk.2) (.slice zs zk.length zt)) (fun _ h_ => h_.1))) hb); have n3_ := sq_m (Kd.R_below (by (with_reducible repeat (first | apply sq_A | apply sq_N | apply sq_D)); exact (Kd.R_mono (Kd.R_far (p := ⟨zf, 3, none⟩) (Kd.R_far (p := ⟨zf, 2, none⟩) (Kd.R_far (p := ⟨zf, 1, none⟩) (Kd.R_far (p := ⟨zf, 0, none⟩) (Kd.R_types HO187.out za.out (by decide)) (fun _ hk => hk.2) (.slice zm zh.length zn)) (fun _ hk => hk.2) (.slice zo zi.length zp)) (fun _ hk => hk.2) (.slice zq zj.length zr)) (fun _ hk => hk.2) (.slice zs zk.length zt)) (fun _ h_ => h_.1))) hb); have n4_ := sq_m (Kd.R_below (by (with_reducible repeat (first | apply sq_A | apply sq_N | apply sq_D)); exact (Kd.R_mono (Kd.R_far (p := ⟨zf, 3, none⟩) (Kd.R_far (p := ⟨zf, 2, none⟩) (Kd.R_far (p := ⟨zf, 1, none⟩) (Kd.R_far (p := ⟨zf, 0, none⟩) (Kd.R_types HO190.out za.out (by decide)) (fun _ hk => hk.2) (.slice zm zh.length zn)) (fun _ hk => hk.2) (.slice zo zi.length zp)) (fun _ hk => hk.2) (.slice zq zj.length zr)) (fun _ hk => hk.2) (.slice zs zk.length zt)) (fun _ h_ => h_.1))) hb); have n5_ := sq_m (blk_below (g := zf) (o := .cells #[.slice zm zh.length zn, .slice zo zi.length zp, .slice zq zj.length zr, .slice zs zk.length zt] 23 (0, 0)) (by (with_reducible repeat (first | refine blk_drewN ?_ _ | refine blk_drew ?_ | refine blk_alloc ?_ _)); refine blk_put (cs := #[.slice zm zh.length zn, .slice zo zi.length zp, .slice zq zj.length zr, .slice none 0 0]) ?_ 3 _ rfl; (with_reducible repeat (first | refine blk_drewN ?_ _ | refine blk_drew ?_ | refine blk_alloc ?_ _)); refine blk_put (cs := #[.slice zm zh.length zn, .slice zo zi.length zp, .slice none 0 0, .slice none 0 0]) ?_ 2 _ rfl; (with_reducible repeat (first | refine blk_drewN ?_ _ | refine blk_drew ?_ | refine blk_alloc ?_ _)); refine blk_put (cs := #[.slice zm zh.length zn, .slice none 0 0, .slice none 0 0, .slice none 0 0]) ?_ 1 _ rfl; (with_reducible repeat (first | refine blk_drewN ?_ _ | refine blk_drew ?_ | refine blk_alloc ?_ _)); refine blk_put (cs := #[.slice none 0 0, .slice none 0 0, .slice none 0 0, .slice none 0 0]) ?_ 0 _ rfl; (with_reducible repeat (first | refine blk_drewN ?_ _ | refine blk_drew ?_ | refine blk_alloc ?_ _)); exact za.out) hb); have n6_ := sq_m (below_step (by with_reducible repeat (first | exact HB.out | apply sq_b | apply sq_n | apply sq_d | refine below_set ?_ zx.out)) hb); clear zz; clear HO181; clear HO184; clear HO187; clear HO190; clear za; clear HB; have zz := n0_; have HO181 := n1_; have HO184 := n2_; have HO187 := n3_; have HO190 := n4_; have za := n5_; have HB := n6_; clear n0_ n1_ n2_ n3_ n4_ n5_ n6_; (try clear hb); (try clear hb2); (try clear hk); (try clear hi)))
      go_meet
      case rel => exact ⟨_, (true), (by first | rfl | (simp; done) | (simp [*]; done)), H', ⟨by first | omega | exact Nat.le_refl _⟩, ⟨by (with_reducible repeat (first | apply sq_A | apply sq_N | apply sq_D)); exact Kd.R_mono zz.out (fun _ hk => by simp [hk])⟩, ⟨by (with_reducible repeat (first | apply sq_A | apply sq_N | apply sq_D)); exact Kd.R_mono HO181.out (fun _ hk => by simp [hk])⟩, ⟨by (with_reducible repeat (first | apply sq_A | apply sq_N | apply sq_D)); exact Kd.R_mono HO184.out (fun _ hk => by simp [hk])⟩, ⟨by (with_reducible repeat (first | apply sq_A | apply sq_N | apply sq_D)); exact Kd.R_mono HO187.out (fun _ hk => by simp [hk])⟩, ⟨by (with_reducible repeat (first | apply sq_A | apply sq_N | apply sq_D)); exact Kd.R_mono HO190.out (fun _ hk => by simp [hk])⟩, ⟨by (with_reducible repeat (first | refine blk_drewN ?_ _ | refine blk_drew ?_ | refine blk_alloc ?_ _)); exact za.out⟩, ⟨by with_reducible repeat (first | exact HB.out | apply sq_b | apply sq_n | apply sq_d | refine below_set ?_ zx.out)⟩⟩
    case rest =>
     clear HC7
     try clear hcv1
     try clear c2
     try clear p2
     try clear hcv2
     try clear c3
     try clear c3b0
     try clear c3b1
     try clear c4
     try clear c4b0
     try clear c4b1
     try clear c5
     try clear c8
     try clear c9
     try clear hcv12
     try clear c22
     try clear hcv24
     try clear hcz17_0
     try clear hcz17_1
     try clear hcz17_2
     try clear hcz17_3
     try clear hfz17_0
     try clear hfz17_1
     try clear hfz17_2
     try clear hfz17_3
     obtain ⟨kq, x30_6, rfl, HA, HJ6, zl, zb, zc, zd, ze, za, HB⟩ := hcut
     cases kq with
     | zero => exact absurd HA.out (by simp [shuttlelaw11_VersionSplits.j0])
     | succ kj6 =>
      have H := HA.out
      clear HA
      simp only [shuttlelaw11_VersionSplits.j0] at H
      by_cases c26 : x30_6 = true
      ·subst c26
       have H1 : (some false) = some r := by rw [if_pos rfl] at H; exact H
       clear H
       have H := H1
       clear H1
       obtain rfl := Option.some.inj H
       go_wp2
       go_ret
       exact ⟨by first | rfl | (simp [errW_none, errW_some] <;> rfl) | (simp only [← hji2]; first | rfl | (simp [errW_none, errW_some] <;> rfl)) | (simp [*, errW_none, errW_some] <;> rfl), by with_reducible repeat (first | exact HB.out | apply sq_b | apply sq_n | apply sq_d | refine below_set ?_ zx.out)⟩
      ·replace c26 := Bool.eq_false_iff.mpr c26
       subst c26
       have H1 : ((shuttleref01_Right.f kj6 zg).bind fun t194 => (if t194 = true then (if ((zg.length : Int) % 4) = 0 then (shuttlelaw11_VersionSplits.l0 kj6 zg (strOfNums zg) zy 0 zh zi zj zk) else (if zy = 1 then (some ((zh.length : Int) == 0)) else (some false))) else (if zy = 5 then (some ((zh.length : Int) == 0)) else (some false)))) = some r := by rw [if_neg (show ¬ (false = true) by decide)] at H; exact H
       clear H
       have H := H1
       clear H1
       replace H := Option.bind_eq_some_iff.mp H
       obtain ⟨t194, A270, H⟩ := H
       replace H : (if t194 = true then (if ((zg.length : Int) % 4) = 0 then (shuttlelaw11_VersionSplits.l0 kj6 zg (strOfNums zg) zy 0 zh zi zj zk) else (if zy = 1 then (some ((zh.length : Int) == 0)) else (some false))) else (if zy = 5 then (some ((zh.length : Int) == 0)) else (some false))) = some r := H
       have A27 := sq_m A270
       clear A270
       by_cases c28 : t194 = true
       ·subst c28
        have H1 : (if ((zg.length : Int) % 4) = 0 then (shuttlelaw11_VersionSplits.l0 kj6 zg (strOfNums zg) zy 0 zh zi zj zk) else (if zy = 1 then (some ((zh.length : Int) == 0)) else (some false))) = some r := by rw [if_pos rfl] at H; exact H
        clear H
        have H := H1
        clear H1
        by_cases c29 : ((zg.length : Int) % 4) = 0
        ·rw [if_pos c29] at H
         have c29b0 : (((zg.length : Int) % 4) == 0) = true := beq_iff_eq.mpr c29
         have c29b1 : (((zg.length : Int) % 4) != 0) = false := bne_eq_false_iff_eq.mpr c29
         clear c29
         have H' := sq_m H
         clear H
         go_wp2_with (first | ((with_reducible refine gate_callee (f := 10) rfl ?_); refine goesL_ (some 32) rfl rfl Try.func10 (by kernel_rfl) rfl #[.slice zu zg.length zv] rfl (by (try simp only [List.map_toArray, List.map_cons, List.map_nil]); first | done | rfl | (simp only [List.length_drop, List.length_take]; rfl)) ?_; (with_reducible refine (shuttleref01_Right.calls kj6 _ _ zg true _ ?side1 ?side2 A27.out).mono ?_); (case side1 => repeat (first | exact (Kd.R_reads' zl.out).2.2 | (with_reducible refine Kd.C_alloc ?_ _) | (with_reducible refine Kd.C_drewN ?_ _) | (with_reducible refine Kd.C_drew ?_))); (case side2 => exact (Kd.R_reads' zl.out).2.1); rintro e w' ⟨rfl, ⟨nd, rfl⟩⟩; refine ⟨_, rfl, ?_⟩))
         go_loopg [6] kj6 (fun kq v6 w' => ∃ (x6_2 : Int), v6 = .int .i64 x6_2 ∧ Aside0 (shuttlelaw11_VersionSplits.l0 kq zg (strOfNums zg) zy x6_2 zh zi zj zk = some r) ∧ Aside0 (kq ≤ kj6) ∧ Aside0 (Kd.R (Kd.int .u8) 5 w' w.heap.size (fun k_ => some k_ ≠ ((.slice zm zh.length zn) : Value).ownBlock ∧ some k_ ≠ ((.slice zo zi.length zp) : Value).ownBlock ∧ some k_ ≠ ((.slice zq zj.length zr) : Value).ownBlock ∧ some k_ ≠ ((.slice zs zk.length zt) : Value).ownBlock) (.slice zu zg.length zv) zg) ∧ Aside0 (Kd.R (Kd.int .u8) 5 w' w.heap.size (fun k_ => some k_ ≠ ((.slice zu zg.length zv) : Value).ownBlock ∧ some k_ ≠ ((.slice zo zi.length zp) : Value).ownBlock ∧ some k_ ≠ ((.slice zq zj.length zr) : Value).ownBlock ∧ some k_ ≠ ((.slice zs zk.length zt) : Value).ownBlock) (.slice zm zh.length zn) zh) ∧ Aside0 (Kd.R (Kd.int .u8) 5 w' w.heap.size (fun k_ => some k_ ≠ ((.slice zu zg.length zv) : Value).ownBlock ∧ some k_ ≠ ((.slice zm zh.length zn) : Value).ownBlock ∧ some k_ ≠ ((.slice zq zj.length zr) : Value).ownBlock ∧ some k_ ≠ ((.slice zs zk.length zt) : Value).ownBlock) (.slice zo zi.length zp) zi) ∧ Aside0 (Kd.R (Kd.int .u8) 5 w' w.heap.size (fun k_ => some k_ ≠ ((.slice zu zg.length zv) : Value).ownBlock ∧ some k_ ≠ ((.slice zm zh.length zn) : Value).ownBlock ∧ some k_ ≠ ((.slice zo zi.length zp) : Value).ownBlock ∧ some k_ ≠ ((.slice zs zk.length zt) : Value).ownBlock) (.slice zq zj.length zr) zj) ∧ Aside0 (Kd.R (Kd.int .u8) 5 w' w.heap.size (fun k_ => some k_ ≠ ((.slice zu zg.length zv) : Value).ownBlock ∧ some k_ ≠ ((.slice zm zh.length zn) : Value).ownBlock ∧ some k_ ≠ ((.slice zo zi.length zp) : Value).ownBlock ∧ some k_ ≠ ((.slice zq zj.length zr) : Value).ownBlock) (.slice zs zk.length zt) zk) ∧ Aside0 (w'.heap[zf]? = some (.cells #[(.slice zm zh.length zn), (.slice zo zi.length zp), (.slice zq zj.length zr), (.slice zs zk.length zt)] 23 (0, 0))) ∧ Aside0 (Below w.heap.size w w'))
         case atStart => exact ⟨(0), (by first | rfl | (simp; done) | (simp [*]; done)), H', ⟨Nat.le_refl _⟩, ⟨by (with_reducible repeat (first | apply sq_A | apply sq_N | apply sq_D)); exact zl.out⟩, ⟨by (with_reducible repeat (first | apply sq_A | apply sq_N | apply sq_D)); exact zb.out⟩, ⟨by (with_reducible repeat (first | apply sq_A | apply sq_N | apply sq_D)); exact zc.out⟩, ⟨by (with_reducible repeat (first | apply sq_A | apply sq_N | apply sq_D)); exact zd.out⟩, ⟨by (with_reducible repeat (first | apply sq_A | apply sq_N | apply sq_D)); exact ze.out⟩, ⟨by (with_reducible repeat (first | refine blk_drewN ?_ _ | refine blk_drew ?_ | refine blk_alloc ?_ _)); exact za.out⟩, ⟨by with_reducible repeat (first | exact HB.out | apply sq_b | apply sq_n | apply sq_d | refine below_set ?_ zx.out)⟩⟩
         case round =>
          clear H'
          try clear c1
          try clear hcv1
          try clear c2
          try clear p2
          try clear hcv2
          try clear c3
          try clear c3b0
          try clear c3b1
          try clear c4
          try clear c4b0
          try clear c4b1
          try clear c5
          try clear c8
          try clear c9
          try clear c10
          try clear hcv12
          try clear c22
          try clear hcv24
          try clear c26
          try clear c28
          try clear c29
          try clear c29b0
          try clear c29b1
          try clear hcz17_0
          try clear hcz17_1
          try clear hcz17_2
          try clear hcz17_3
          try clear hfz17_0
          try clear hfz17_1
          try clear hfz17_2
          try clear hfz17_3
          try clear p2
          obtain ⟨x6_2, rfl, HA, HK2, zl, zb, zc, zd, ze, za, HB⟩ := hrel
          cases gk with
          | zero => exact absurd HA.out (by simp [shuttlelaw11_VersionSplits.l0])
          | succ k2 =>
           have H := HA.out
           clear HA
           simp only [shuttlelaw11_VersionSplits.l0] at H
           by_cases c30 : x6_2 < 4
           ·rw [if_pos c30] at H
            have c30b0 : decide (x6_2 < 4) = true := decide_eq_true c30
            clear c30
            by_cases c31 : x6_2 = 0
            ·rw [if_pos c31] at H
             subst c31
             replace H := Option.bind_eq_some_iff.mp H
             obtain ⟨t204, A320, H⟩ := H
             replace H : (if (strOfNums zh).toList = (strOfNums t204).toList then (shuttlelaw11_VersionSplits.l0 k2 zg (strOfNums zg) zy (0 + 1) zh zi zj zk) else (some false)) = some r := H
             have A32 := sq_m A320
             clear A320
             by_cases c33 : (strOfNums zh).toList = (strOfNums t204).toList
             ·rw [if_pos c33] at H
              have c33b0 : ((strOfNums zh).toList == (strOfNums t204).toList) = true := beq_iff_eq.mpr c33
              have c33b1 : ((strOfNums zh).toList != (strOfNums t204).toList) = false := bne_eq_false_iff_eq.mpr c33
              clear c33
              have H' := sq_m H
              clear H
              try go_wp2
              have n0_ := sq_m (sq_D zl.out)
              have n1_ := sq_m (sq_D zb.out)
              have n2_ := sq_m (sq_D zc.out)
              have n3_ := sq_m (sq_D zd.out)
              have n4_ := sq_m (sq_D ze.out)
              have n5_ := sq_m (blk_drew za.out)
              have n6_ := sq_m (sq_d HB.out)
              clear zl
              clear zb
              clear zc
              clear zd
              clear ze
              clear za
              clear HB
              have zl := n0_
              have zb := n1_
              have zc := n2_
              have zd := n3_
              have ze := n4_
              have za := n5_
              have HB := n6_
              clear n0_ n1_ n2_ n3_ n4_ n5_ n6_
              refine start_ (n := 9) (S := fun w' => w'.cell? ⟨zf, 0, none⟩ = some (.slice zm zh.length zn) ∧ w'.cell? ⟨zf, 1, none⟩ = some (.slice zo zi.length zp) ∧ w'.cell? ⟨zf, 2, none⟩ = some (.slice zq zj.length zr) ∧ w'.cell? ⟨zf, 3, none⟩ = some (.slice zs zk.length zt)) (ds := []) mk0 (by kernel_rfl) rfl rfl ⟨(blk_cell za.out 0).trans rfl, (blk_cell za.out 1).trans rfl, (blk_cell za.out 2).trans rfl, (blk_cell za.out 3).trans rfl⟩ (fun hHeld => ?_); refine with_tabW shuttlelaw11_VersionSplits.tab13 shuttlelaw11_VersionSplits.bits13 (fun HT_ HW_ => ?_)
              generalize wr.drew = w34 at zl zb zc zd ze za HB hHeld ⊢
              refine pure_ (i := 0) (N := some 58) (v := ?_) (a' := ?_) mk1 rfl rfl (any_of HT_.out (by kernel_rfl)) (fun _ _ _ h => h) (Or.inl ⟨by rfl, ?_⟩) ?_ ?_; rotate_left; (intro w'; go_simp; with_reducible rfl); rotate_left; (simp only [Act.put, sq_a1, sq_a2, sq_a3, i64_w, i32_w]; rfl)
              refine pure_ (i := 1) (N := some 59) (v := ?_) (a' := ?_) mk2 rfl rfl (any_of HT_.out (by kernel_rfl)) (fun _ _ _ h => h) (Or.inl ⟨by rfl, ?_⟩) ?_ ?_; rotate_left; (intro w'; go_simp; with_reducible rfl); rotate_left; (simp only [Act.put, sq_a1, sq_a2, sq_a3, i64_w, i32_w]; rfl)
              refine pure_ (i := 4) (N := some 62) (v := ?_) (a' := ?_) mk3 rfl rfl (any_of HT_.out (by kernel_rfl)) (fun _ _ _ h => h) (Or.inl ⟨by rfl, ?_⟩) ?_ ?_; rotate_left; (intro w'; go_simp; with_reducible rfl); rotate_left; (simp only [Act.put, sq_a1, sq_a2, sq_a3, i64_w, i32_w]; rfl)
              refine pure_ (i := 5) (N := some 63) (v := ?_) (a' := ?_) mk4 rfl rfl (any_of HT_.out (by kernel_rfl)) (fun _ _ _ h => h) (Or.inl ⟨by rfl, ?_⟩) ?_ ?_; rotate_left; (intro w'; go_simp; with_reducible rfl); rotate_left; (simp only [Act.put, sq_a1, sq_a2, sq_a3, i64_w, i32_w]; rfl)
              refine take_ (i := 2) (N := some 60) (v := ?_) (a' := ?_) mk5 rfl rfl (take_ofW HT_.out HW_.out (by kernel_rfl)) (fun _ _ _ h => h) (Or.inl ⟨by rfl, ?_⟩) hHeld ?_ ?_
              rotate_left
              ·rintro w' ⟨s0, s1, s2, s3⟩
               go_simp
               with_reducible rfl
              rotate_left
              ·simp only [Act.put, sq_a1, sq_a2, sq_a3, i64_w, i32_w]
               rfl
              refine join_ (σ := Value) 1 mk6 (fun s_ => [(61, .string (strOfNums zh)), (64, s_), (65, .string (strOfNums t204))]) (fun s_ w' => (w'.cell? ⟨zf, 0, none⟩ = some (.slice zm zh.length zn) ∧ w'.cell? ⟨zf, 1, none⟩ = some (.slice zo zi.length zp) ∧ w'.cell? ⟨zf, 2, none⟩ = some (.slice zq zj.length zr) ∧ w'.cell? ⟨zf, 3, none⟩ = some (.slice zs zk.length zt)) ∧ (Kd.R (Kd.int .u8) 5 w' w.heap.size (fun k_ => some k_ ≠ (.slice zu zg.length zv : Value).ownBlock ∧ some k_ ≠ (.slice zm zh.length zn : Value).ownBlock ∧ some k_ ≠ (.slice zo zi.length zp : Value).ownBlock ∧ some k_ ≠ (.slice zq zj.length zr : Value).ownBlock ∧ some k_ ≠ (.slice zs zk.length zt : Value).ownBlock) s_ t204) ∧ (Kd.R (Kd.int .u8) 5 w' w.heap.size (fun k_ => some k_ ≠ (s_ : Value).ownBlock ∧ some k_ ≠ (.slice zm zh.length zn : Value).ownBlock ∧ some k_ ≠ (.slice zo zi.length zp : Value).ownBlock ∧ some k_ ≠ (.slice zq zj.length zr : Value).ownBlock ∧ some k_ ≠ (.slice zs zk.length zt : Value).ownBlock) (.slice zu zg.length zv) zg) ∧ (Kd.R (Kd.int .u8) 5 w' w.heap.size (fun k_ => some k_ ≠ (s_ : Value).ownBlock ∧ some k_ ≠ (.slice zu zg.length zv : Value).ownBlock ∧ some k_ ≠ (.slice zo zi.length zp : Value).ownBlock ∧ some k_ ≠ (.slice zq zj.length zr : Value).ownBlock ∧ some k_ ≠ (.slice zs zk.length zt : Value).ownBlock) (.slice zm zh.length zn) zh) ∧ (Kd.R (Kd.int .u8) 5 w' w.heap.size (fun k_ => some k_ ≠ (s_ : Value).ownBlock ∧ some k_ ≠ (.slice zu zg.length zv : Value).ownBlock ∧ some k_ ≠ (.slice zm zh.length zn : Value).ownBlock ∧ some k_ ≠ (.slice zq zj.length zr : Value).ownBlock ∧ some k_ ≠ (.slice zs zk.length zt : Value).ownBlock) (.slice zo zi.length zp) zi) ∧ (Kd.R (Kd.int .u8) 5 w' w.heap.size (fun k_ => some k_ ≠ (s_ : Value).ownBlock ∧ some k_ ≠ (.slice zu zg.length zv : Value).ownBlock ∧ some k_ ≠ (.slice zm zh.length zn : Value).ownBlock ∧ some k_ ≠ (.slice zo zi.length zp : Value).ownBlock ∧ some k_ ≠ (.slice zs zk.length zt : Value).ownBlock) (.slice zq zj.length zr) zj) ∧ (Kd.R (Kd.int .u8) 5 w' w.heap.size (fun k_ => some k_ ≠ (s_ : Value).ownBlock ∧ some k_ ≠ (.slice zu zg.length zv : Value).ownBlock ∧ some k_ ≠ (.slice zm zh.length zn : Value).ownBlock ∧ some k_ ≠ (.slice zo zi.length zp : Value).ownBlock ∧ some k_ ≠ (.slice zq zj.length zr : Value).ownBlock) (.slice zs zk.length zt) zk) ∧ (w'.heap[zf]? = some (.cells #[.slice zm zh.length zn, .slice zo zi.length zp, .slice zq zj.length zr, .slice zs zk.length zt] 23 (0, 0))) ∧ (Below w.heap.size w w')) ?_ ?_
              rotate_left
              ·intro hCont
               refine two_ (i := 3) (j := 6) (Ni := some 61) (Nj := some 64) mk7 mk8 rfl rfl rfl rfl (two_of HT_.out (by kernel_rfl)) (by decide) (by decide) (fun K hK => ?_) (fun K hK => ?_)
               ·skip
                (have hcv35 := own_string (P := Try.prog) Try.underlying22 Try.underlying5 Try.underlying9 (Kd.own_of_R zb.out); have hcv35d := fun n_ : Nat => own_string (P := Try.prog) Try.underlying22 Try.underlying5 Try.underlying9 (Kd.own_of_R (sq_N zb.out n_)))
                refine value_ (w1 := ?_) (v := ?_) (by rfl) rfl ?_ ?_
                rotate_left 2
                ·go_simp
                 constructor
                 ·rfl
                 ·rfl
                clear hcv35 hcv35d
                refine hK.out _ _ ⟨(blk_cell za.out 0).trans rfl, (blk_cell za.out 1).trans rfl, (blk_cell za.out 2).trans rfl, (blk_cell za.out 3).trans rfl⟩ (fun hHeld => ?_)
                clear hK K
                refine norm_ (a' := ?_) ?_ ?_
                rotate_left
                ·show Act.put _ (some 61) _ = _
                 simp only [Act.put, sq_a1, sq_a2, sq_a3, i64_w, i32_w]
                 rfl
                refine one_ (i := 6) (N := some 64) mk9 rfl rfl (one_of HT_.out (by kernel_rfl)) (by decide) (fun K hK => ?_)
                refine goes_ Try.func11 (by kernel_rfl) rfl #[.slice zu zg.length zv, .int .i64 0] (by rfl) rfl rfl (by (try simp only [List.map_toArray, List.map_cons, List.map_nil]); first | done | rfl | (simp only [List.length_drop, List.length_take]; rfl)) ?_
                with_reducible refine (shuttleref10_Pick.calls k2 _ _ zg 0 t204 _ ?side1 ?side2 A32.out).mono ?_
                (case side1 => repeat (first | exact (Kd.R_reads' zl.out).2.2 | (with_reducible refine Kd.C_alloc ?_ _) | (with_reducible refine Kd.C_drewN ?_ _) | (with_reducible refine Kd.C_drew ?_)))
                (case side2 => exact (Kd.R_reads' zl.out).2.1)
                rintro e w36 ⟨zae, rfl, zw, hb⟩
                refine ⟨_, rfl, ?_⟩
                have n0_ := sq_m (Kd.R_elder' (sq_R zl.out) (Kd.R_base zw) hb)
                have n1_ := sq_m (Kd.R_elder' (sq_R zb.out) (Kd.R_base zw) hb)
                have n2_ := sq_m (Kd.R_elder' (sq_R zc.out) (Kd.R_base zw) hb)
                have n3_ := sq_m (Kd.R_elder' (sq_R zd.out) (Kd.R_base zw) hb)
                have n4_ := sq_m (Kd.R_elder' (sq_R ze.out) (Kd.R_base zw) hb)
                have n5_ := sq_m (Kd.R_lower (Kd.R_new' (Kd.R_new' (Kd.R_new' (Kd.R_new' (Kd.R_new' zw (Kd.R_lt (sq_R zl.out))) (Kd.R_lt (sq_R zb.out))) (Kd.R_lt (sq_R zc.out))) (Kd.R_lt (sq_R zd.out))) (Kd.R_lt (sq_R ze.out))) (below_size (by with_reducible repeat (first | exact HB.out | apply sq_b | apply sq_n | apply sq_d | refine below_set ?_ zx.out))))
                have n6_ := sq_m (blk_below (g := zf) (o := .cells #[.slice zm zh.length zn, .slice zo zi.length zp, .slice zq zj.length zr, .slice zs zk.length zt] 23 (0, 0)) (by (with_reducible repeat (first | refine blk_drewN ?_ _ | refine blk_drew ?_ | refine blk_alloc ?_ _)); exact za.out) hb)
                have n7_ := sq_m (below_step (by with_reducible repeat (first | exact HB.out | apply sq_b | apply sq_n | apply sq_d | refine below_set ?_ zx.out)) hb)
                clear zl
                clear zb
                clear zc
                clear zd
                clear ze
                clear za
                clear HB
                have zl := n0_
                have zb := n1_
                have zc := n2_
                have zd := n3_
                have ze := n4_
                have zaa := n5_
                have za := n6_
                have HB := n7_
                clear n0_ n1_ n2_ n3_ n4_ n5_ n6_ n7_
                (try clear hb)
                (try clear hb2)
                (try clear hk)
                (try clear hi)
                (try clear zw)
                refine hK.out _ _ ⟨(blk_cell za.out 0).trans rfl, (blk_cell za.out 1).trans rfl, (blk_cell za.out 2).trans rfl, (blk_cell za.out 3).trans rfl⟩ (fun hHeld => ?_)
                clear hK K
                refine norm_ (a' := ?_) ?_ ?_
                rotate_left
                ·show Act.put _ (some 64) _ = _
                 simp only [Act.put, sq_a1, sq_a2, sq_a3, i64_w, i32_w]
                 rfl
                refine one_ (i := 7) (N := some 65) mk6 rfl rfl (one_of HT_.out (by kernel_rfl)) (by decide) (fun K hK => ?_)
                (have hcv37 := own_string (P := Try.prog) Try.underlying22 Try.underlying5 Try.underlying9 (Kd.own_of_R zaa.out); have hcv37d := fun n_ : Nat => own_string (P := Try.prog) Try.underlying22 Try.underlying5 Try.underlying9 (Kd.own_of_R (sq_N zaa.out n_)))
                refine value_ (w1 := ?_) (v := ?_) (by rfl) rfl ?_ ?_
                rotate_left 2
                ·go_simp
                 constructor
                 ·rfl
                 ·rfl
                clear hcv37 hcv37d
                refine hK.out _ _ ⟨(blk_cell za.out 0).trans rfl, (blk_cell za.out 1).trans rfl, (blk_cell za.out 2).trans rfl, (blk_cell za.out 3).trans rfl⟩ (fun hHeld => ?_)
                clear hK K
                refine norm_ (a' := ?_) ?_ ?_
                rotate_left
                ·show Act.put _ (some 65) _ = _
                 simp only [Act.put, sq_a1, sq_a2, sq_a3, i64_w, i32_w]
                 rfl
                exact norm_ (by simp only [putAll, Act.put, sq_a1, sq_a2, sq_a3]) (hCont (zae) _ ⟨hHeld, (by (with_reducible repeat (first | apply sq_A | apply sq_N | apply sq_D)); exact Kd.R_mono zaa.out (fun _ hk => by simp [hk])), (by (with_reducible repeat (first | apply sq_A | apply sq_N | apply sq_D)); exact Kd.R_mono zl.out (fun _ hk => by simp [hk])), (by (with_reducible repeat (first | apply sq_A | apply sq_N | apply sq_D)); exact Kd.R_mono zb.out (fun _ hk => by simp [hk])), (by (with_reducible repeat (first | apply sq_A | apply sq_N | apply sq_D)); exact Kd.R_mono zc.out (fun _ hk => by simp [hk])), (by (with_reducible repeat (first | apply sq_A | apply sq_N | apply sq_D)); exact Kd.R_mono zd.out (fun _ hk => by simp [hk])), (by (with_reducible repeat (first | apply sq_A | apply sq_N | apply sq_D)); exact Kd.R_mono ze.out (fun _ hk => by simp [hk])), (by (with_reducible repeat (first | refine blk_drewN ?_ _ | refine blk_drew ?_ | refine blk_alloc ?_ _)); exact za.out), (by with_reducible repeat (first | exact HB.out | apply sq_b | apply sq_n | apply sq_d | refine below_set ?_ zx.out))⟩)
               ·skip
                refine goes_ Try.func11 (by kernel_rfl) rfl #[.slice zu zg.length zv, .int .i64 0] (by rfl) rfl rfl (by (try simp only [List.map_toArray, List.map_cons, List.map_nil]); first | done | rfl | (simp only [List.length_drop, List.length_take]; rfl)) ?_
                with_reducible refine (shuttleref10_Pick.calls k2 _ _ zg 0 t204 _ ?side1 ?side2 A32.out).mono ?_
                (case side1 => repeat (first | exact (Kd.R_reads' zl.out).2.2 | (with_reducible refine Kd.C_alloc ?_ _) | (with_reducible refine Kd.C_drewN ?_ _) | (with_reducible refine Kd.C_drew ?_)))
                (case side2 => exact (Kd.R_reads' zl.out).2.1)
                rintro e w35 ⟨zae, rfl, zw, hb⟩
                refine ⟨_, rfl, ?_⟩
                have n0_ := sq_m (Kd.R_elder' (sq_R zl.out) (Kd.R_base zw) hb)
                have n1_ := sq_m (Kd.R_elder' (sq_R zb.out) (Kd.R_base zw) hb)
                have n2_ := sq_m (Kd.R_elder' (sq_R zc.out) (Kd.R_base zw) hb)
                have n3_ := sq_m (Kd.R_elder' (sq_R zd.out) (Kd.R_base zw) hb)
                have n4_ := sq_m (Kd.R_elder' (sq_R ze.out) (Kd.R_base zw) hb)
                have n5_ := sq_m (Kd.R_lower (Kd.R_new' (Kd.R_new' (Kd.R_new' (Kd.R_new' (Kd.R_new' zw (Kd.R_lt (sq_R zl.out))) (Kd.R_lt (sq_R zb.out))) (Kd.R_lt (sq_R zc.out))) (Kd.R_lt (sq_R zd.out))) (Kd.R_lt (sq_R ze.out))) (below_size (by with_reducible repeat (first | exact HB.out | apply sq_b | apply sq_n | apply sq_d | refine below_set ?_ zx.out))))
                have n6_ := sq_m (blk_below (g := zf) (o := .cells #[.slice zm zh.length zn, .slice zo zi.length zp, .slice zq zj.length zr, .slice zs zk.length zt] 23 (0, 0)) (by (with_reducible repeat (first | refine blk_drewN ?_ _ | refine blk_drew ?_ | refine blk_alloc ?_ _)); exact za.out) hb)
                have n7_ := sq_m (below_step (by with_reducible repeat (first | exact HB.out | apply sq_b | apply sq_n | apply sq_d | refine below_set ?_ zx.out)) hb)
                clear zl
                clear zb
                clear zc
                clear zd
                clear ze
                clear za
                clear HB
                have zl := n0_
                have zb := n1_
                have zc := n2_
                have zd := n3_
                have ze := n4_
                have zaa := n5_
                have za := n6_
                have HB := n7_
                clear n0_ n1_ n2_ n3_ n4_ n5_ n6_ n7_
                (try clear hb)
                (try clear hb2)
                (try clear hk)
                (try clear hi)
                (try clear zw)
                refine hK.out _ _ ⟨(blk_cell za.out 0).trans rfl, (blk_cell za.out 1).trans rfl, (blk_cell za.out 2).trans rfl, (blk_cell za.out 3).trans rfl⟩ (fun hHeld => ?_)
                clear hK K
                refine norm_ (a' := ?_) ?_ ?_
                rotate_left
                ·show Act.put _ (some 64) _ = _
                 simp only [Act.put, sq_a1, sq_a2, sq_a3, i64_w, i32_w]
                 rfl
                refine two_ (i := 3) (j := 7) (Ni := some 61) (Nj := some 65) mk9 mk10 rfl rfl rfl rfl (two_of HT_.out (by kernel_rfl)) (by decide) (by decide) (fun K hK => ?_) (fun K hK => ?_)
                ·skip
                 (have hcv36 := own_string (P := Try.prog) Try.underlying22 Try.underlying5 Try.underlying9 (Kd.own_of_R zb.out); have hcv36d := fun n_ : Nat => own_string (P := Try.prog) Try.underlying22 Try.underlying5 Try.underlying9 (Kd.own_of_R (sq_N zb.out n_)))
                 refine value_ (w1 := ?_) (v := ?_) (by rfl) rfl ?_ ?_
                 rotate_left 2
                 ·go_simp
                  constructor
                  ·rfl
                  ·rfl
                 clear hcv36 hcv36d
                 refine hK.out _ _ ⟨(blk_cell za.out 0).trans rfl, (blk_cell za.out 1).trans rfl, (blk_cell za.out 2).trans rfl, (blk_cell za.out 3).trans rfl⟩ (fun hHeld => ?_)
                 clear hK K
                 refine norm_ (a' := ?_) ?_ ?_
                 rotate_left
                 ·show Act.put _ (some 61) _ = _
                  simp only [Act.put, sq_a1, sq_a2, sq_a3, i64_w, i32_w]
                  rfl
                 refine one_ (i := 7) (N := some 65) mk6 rfl rfl (one_of HT_.out (by kernel_rfl)) (by decide) (fun K hK => ?_)
                 (have hcv37 := own_string (P := Try.prog) Try.underlying22 Try.underlying5 Try.underlying9 (Kd.own_of_R zaa.out); have hcv37d := fun n_ : Nat => own_string (P := Try.prog) Try.underlying22 Try.underlying5 Try.underlying9 (Kd.own_of_R (sq_N zaa.out n_)))
                 refine value_ (w1 := ?_) (v := ?_) (by rfl) rfl ?_ ?_
                 rotate_left 2
                 ·go_simp
                  constructor
                  ·rfl
                  ·rfl
                 clear hcv37 hcv37d
                 refine hK.out _ _ ⟨(blk_cell za.out 0).trans rfl, (blk_cell za.out 1).trans rfl, (blk_cell za.out 2).trans rfl, (blk_cell za.out 3).trans rfl⟩ (fun hHeld => ?_)
                 clear hK K
                 refine norm_ (a' := ?_) ?_ ?_
                 rotate_left
                 ·show Act.put _ (some 65) _ = _
                  simp only [Act.put, sq_a1, sq_a2, sq_a3, i64_w, i32_w]
                  rfl
                 exact norm_ (by simp only [putAll, Act.put, sq_a1, sq_a2, sq_a3]) (hCont (zae) _ ⟨hHeld, (by (with_reducible repeat (first | apply sq_A | apply sq_N | apply sq_D)); exact Kd.R_mono zaa.out (fun _ hk => by simp [hk])), (by (with_reducible repeat (first | apply sq_A | apply sq_N | apply sq_D)); exact Kd.R_mono zl.out (fun _ hk => by simp [hk])), (by (with_reducible repeat (first | apply sq_A | apply sq_N | apply sq_D)); exact Kd.R_mono zb.out (fun _ hk => by simp [hk])), (by (with_reducible repeat (first | apply sq_A | apply sq_N | apply sq_D)); exact Kd.R_mono zc.out (fun _ hk => by simp [hk])), (by (with_reducible repeat (first | apply sq_A | apply sq_N | apply sq_D)); exact Kd.R_mono zd.out (fun _ hk => by simp [hk])), (by (with_reducible repeat (first | apply sq_A | apply sq_N | apply sq_D)); exact Kd.R_mono ze.out (fun _ hk => by simp [hk])), (by (with_reducible repeat (first | refine blk_drewN ?_ _ | refine blk_drew ?_ | refine blk_alloc ?_ _)); exact za.out), (by with_reducible repeat (first | exact HB.out | apply sq_b | apply sq_n | apply sq_d | refine below_set ?_ zx.out))⟩)
                ·skip
                 (have hcv36 := own_string (P := Try.prog) Try.underlying22 Try.underlying5 Try.underlying9 (Kd.own_of_R zaa.out); have hcv36d := fun n_ : Nat => own_string (P := Try.prog) Try.underlying22 Try.underlying5 Try.underlying9 (Kd.own_of_R (sq_N zaa.out n_)))
                 refine value_ (w1 := ?_) (v := ?_) (by rfl) rfl ?_ ?_
                 rotate_left 2
                 ·go_simp
                  constructor
                  ·rfl
                  ·rfl
                 clear hcv36 hcv36d
                 refine hK.out _ _ ⟨(blk_cell za.out 0).trans rfl, (blk_cell za.out 1).trans rfl, (blk_cell za.out 2).trans rfl, (blk_cell za.out 3).trans rfl⟩ (fun hHeld => ?_)
                 clear hK K
                 refine norm_ (a' := ?_) ?_ ?_
                 rotate_left
                 ·show Act.put _ (some 65) _ = _
                  simp only [Act.put, sq_a1, sq_a2, sq_a3, i64_w, i32_w]
                  rfl
                 refine one_ (i := 3) (N := some 61) mk6 rfl rfl (one_of HT_.out (by kernel_rfl)) (by decide) (fun K hK => ?_)
                 (have hcv37 := own_string (P := Try.prog) Try.underlying22 Try.underlying5 Try.underlying9 (Kd.own_of_R zb.out); have hcv37d := fun n_ : Nat => own_string (P := Try.prog) Try.underlying22 Try.underlying5 Try.underlying9 (Kd.own_of_R (sq_N zb.out n_)))
                 refine value_ (w1 := ?_) (v := ?_) (by rfl) rfl ?_ ?_
                 rotate_left 2
                 ·go_simp
                  constructor
                  ·rfl
                  ·rfl
                 clear hcv37 hcv37d
                 refine hK.out _ _ ⟨(blk_cell za.out 0).trans rfl, (blk_cell za.out 1).trans rfl, (blk_cell za.out 2).trans rfl, (blk_cell za.out 3).trans rfl⟩ (fun hHeld => ?_)
                 clear hK K
                 refine norm_ (a' := ?_) ?_ ?_
                 rotate_left
                 ·show Act.put _ (some 61) _ = _
                  simp only [Act.put, sq_a1, sq_a2, sq_a3, i64_w, i32_w]
                  rfl
                 exact norm_ (by simp only [putAll, Act.put, sq_a1, sq_a2, sq_a3]) (hCont (zae) _ ⟨hHeld, (by (with_reducible repeat (first | apply sq_A | apply sq_N | apply sq_D)); exact Kd.R_mono zaa.out (fun _ hk => by simp [hk])), (by (with_reducible repeat (first | apply sq_A | apply sq_N | apply sq_D)); exact Kd.R_mono zl.out (fun _ hk => by simp [hk])), (by (with_reducible repeat (first | apply sq_A | apply sq_N | apply sq_D)); exact Kd.R_mono zb.out (fun _ hk => by simp [hk])), (by (with_reducible repeat (first | apply sq_A | apply sq_N | apply sq_D)); exact Kd.R_mono zc.out (fun _ hk => by simp [hk])), (by (with_reducible repeat (first | apply sq_A | apply sq_N | apply sq_D)); exact Kd.R_mono zd.out (fun _ hk => by simp [hk])), (by (with_reducible repeat (first | apply sq_A | apply sq_N | apply sq_D)); exact Kd.R_mono ze.out (fun _ hk => by simp [hk])), (by (with_reducible repeat (first | refine blk_drewN ?_ _ | refine blk_drew ?_ | refine blk_alloc ?_ _)); exact za.out), (by with_reducible repeat (first | exact HB.out | apply sq_b | apply sq_n | apply sq_d | refine below_set ?_ zx.out))⟩)
              rintro zae w38 ⟨hS_, h0_, h1_, h2_, h3_, h4_, h5_, h6_, h7_⟩
              have n0_ : Aside0 (Kd.R (Kd.int .u8) 5 w38 w.heap.size (fun k_ => some k_ ≠ (.slice zu zg.length zv : Value).ownBlock ∧ some k_ ≠ (.slice zm zh.length zn : Value).ownBlock ∧ some k_ ≠ (.slice zo zi.length zp : Value).ownBlock ∧ some k_ ≠ (.slice zq zj.length zr : Value).ownBlock ∧ some k_ ≠ (.slice zs zk.length zt : Value).ownBlock) zae t204) := ⟨h0_⟩
              have n1_ : Aside0 (Kd.R (Kd.int .u8) 5 w38 w.heap.size (fun k_ => some k_ ≠ (zae : Value).ownBlock ∧ some k_ ≠ (.slice zm zh.length zn : Value).ownBlock ∧ some k_ ≠ (.slice zo zi.length zp : Value).ownBlock ∧ some k_ ≠ (.slice zq zj.length zr : Value).ownBlock ∧ some k_ ≠ (.slice zs zk.length zt : Value).ownBlock) (.slice zu zg.length zv) zg) := ⟨h1_⟩
              have n2_ : Aside0 (Kd.R (Kd.int .u8) 5 w38 w.heap.size (fun k_ => some k_ ≠ (zae : Value).ownBlock ∧ some k_ ≠ (.slice zu zg.length zv : Value).ownBlock ∧ some k_ ≠ (.slice zo zi.length zp : Value).ownBlock ∧ some k_ ≠ (.slice zq zj.length zr : Value).ownBlock ∧ some k_ ≠ (.slice zs zk.length zt : Value).ownBlock) (.slice zm zh.length zn) zh) := ⟨h2_⟩
              have n3_ : Aside0 (Kd.R (Kd.int .u8) 5 w38 w.heap.size (fun k_ => some k_ ≠ (zae : Value).ownBlock ∧ some k_ ≠ (.slice zu zg.length zv : Value).ownBlock ∧ some k_ ≠ (.slice zm zh.length zn : Value).ownBlock ∧ some k_ ≠ (.slice zq zj.length zr : Value).ownBlock ∧ some k_ ≠ (.slice zs zk.length zt : Value).ownBlock) (.slice zo zi.length zp) zi) := ⟨h3_⟩
              have n4_ : Aside0 (Kd.R (Kd.int .u8) 5 w38 w.heap.size (fun k_ => some k_ ≠ (zae : Value).ownBlock ∧ some k_ ≠ (.slice zu zg.length zv : Value).ownBlock ∧ some k_ ≠ (.slice zm zh.length zn : Value).ownBlock ∧ some k_ ≠ (.slice zo zi.length zp : Value).ownBlock ∧ some k_ ≠ (.slice zs zk.length zt : Value).ownBlock) (.slice zq zj.length zr) zj) := ⟨h4_⟩
              have n5_ : Aside0 (Kd.R (Kd.int .u8) 5 w38 w.heap.size (fun k_ => some k_ ≠ (zae : Value).ownBlock ∧ some k_ ≠ (.slice zu zg.length zv : Value).ownBlock ∧ some k_ ≠ (.slice zm zh.length zn : Value).ownBlock ∧ some k_ ≠ (.slice zo zi.length zp : Value).ownBlock ∧ some k_ ≠ (.slice zq zj.length zr : Value).ownBlock) (.slice zs zk.length zt) zk) := ⟨h5_⟩
              have n6_ : Aside0 (w38.heap[zf]? = some (.cells #[.slice zm zh.length zn, .slice zo zi.length zp, .slice zq zj.length zr, .slice zs zk.length zt] 23 (0, 0))) := ⟨h6_⟩
              have n7_ : Aside0 (Below w.heap.size w w38) := ⟨h7_⟩
              clear zl
              clear zb
              clear zc
              clear zd
              clear ze
              clear za
              clear HB
              clear h0_ h1_ h2_ h3_ h4_ h5_ h6_ h7_
              have zaa := n0_
              have zl := n1_
              have zb := n2_
              have zc := n3_
              have zd := n4_
              have ze := n5_
              have za := n6_
              have HB := n7_
              clear n0_ n1_ n2_ n3_ n4_ n5_ n6_ n7_
              have hHeld : w38.cell? ⟨zf, 0, none⟩ = some (.slice zm zh.length zn) ∧ w38.cell? ⟨zf, 1, none⟩ = some (.slice zo zi.length zp) ∧ w38.cell? ⟨zf, 2, none⟩ = some (.slice zq zj.length zr) ∧ w38.cell? ⟨zf, 3, none⟩ = some (.slice zs zk.length zt) := hS_
              refine norm_ (a' := ?_) ?_ ?_
              rotate_left
              ·simp only [putAll, Act.put, sq_a1, sq_a2, sq_a3]
               rfl
              refine pure_ (i := 8) (N := some 66) (v := ?_) (a' := ?_) mk11 rfl rfl (any_of HT_.out (by kernel_rfl)) (fun _ _ _ h => h) (Or.inl ⟨by rfl, ?_⟩) ?_ ?_; rotate_left; (intro w'; go_simp; with_reducible rfl); rotate_left; (simp only [Act.put, sq_a1, sq_a2, sq_a3, i64_w, i32_w]; rfl)
              refine done_ (done_of HT_.out (by kernel_rfl)) ?_
              try go_wp2
              go_roundg k2
              case measure => have := HJ6.out; have := HK2.out; omega
              case rel => exact ⟨(0 + 1), (by first | rfl | (simp; done) | (simp [*]; done)), H', ⟨by have := HJ6.out; have := HK2.out; omega⟩, ⟨by (with_reducible repeat (first | apply sq_A | apply sq_N | apply sq_D)); exact Kd.R_mono zl.out (fun _ hk => by simp [hk])⟩, ⟨by (with_reducible repeat (first | apply sq_A | apply sq_N | apply sq_D)); exact Kd.R_mono zb.out (fun _ hk => by simp [hk])⟩, ⟨by (with_reducible repeat (first | apply sq_A | apply sq_N | apply sq_D)); exact Kd.R_mono zc.out (fun _ hk => by simp [hk])⟩, ⟨by (with_reducible repeat (first | apply sq_A | apply sq_N | apply sq_D)); exact Kd.R_mono zd.out (fun _ hk => by simp [hk])⟩, ⟨by (with_reducible repeat (first | apply sq_A | apply sq_N | apply sq_D)); exact Kd.R_mono ze.out (fun _ hk => by simp [hk])⟩, ⟨by (with_reducible repeat (first | refine blk_drewN ?_ _ | refine blk_drew ?_ | refine blk_alloc ?_ _)); exact za.out⟩, ⟨by with_reducible repeat (first | exact HB.out | apply sq_b | apply sq_n | apply sq_d | refine below_set ?_ zx.out)⟩⟩
             ·rw [if_neg c33] at H
              have c33b0 : ((strOfNums zh).toList == (strOfNums t204).toList) = false := beq_eq_false_iff_ne.mpr c33
              have c33b1 : ((strOfNums zh).toList != (strOfNums t204).toList) = true := bne_iff_ne.mpr c33
              obtain rfl := Option.some.inj H
              try go_wp2
              have n0_ := sq_m (sq_D zl.out)
              have n1_ := sq_m (sq_D zb.out)
              have n2_ := sq_m (sq_D zc.out)
              have n3_ := sq_m (sq_D zd.out)
              have n4_ := sq_m (sq_D ze.out)
              have n5_ := sq_m (blk_drew za.out)
              have n6_ := sq_m (sq_d HB.out)
              clear zl
              clear zb
              clear zc
              clear zd
              clear ze
              clear za
              clear HB
              have zl := n0_
              have zb := n1_
              have zc := n2_
              have zd := n3_
              have ze := n4_
              have za := n5_
              have HB := n6_
              clear n0_ n1_ n2_ n3_ n4_ n5_ n6_
              refine start_ (n := 9) (S := fun w' => w'.cell? ⟨zf, 0, none⟩ = some (.slice zm zh.length zn) ∧ w'.cell? ⟨zf, 1, none⟩ = some (.slice zo zi.length zp) ∧ w'.cell? ⟨zf, 2, none⟩ = some (.slice zq zj.length zr) ∧ w'.cell? ⟨zf, 3, none⟩ = some (.slice zs zk.length zt)) (ds := []) mk0 (by kernel_rfl) rfl rfl ⟨(blk_cell za.out 0).trans rfl, (blk_cell za.out 1).trans rfl, (blk_cell za.out 2).trans rfl, (blk_cell za.out 3).trans rfl⟩ (fun hHeld => ?_); refine with_tabW shuttlelaw11_VersionSplits.tab13 shuttlelaw11_VersionSplits.bits13 (fun HT_ HW_ => ?_)
              generalize wr.drew = w39 at zl zb zc zd ze za HB hHeld ⊢
              refine pure_ (i := 0) (N := some 58) (v := ?_) (a' := ?_) mk1 rfl rfl (any_of HT_.out (by kernel_rfl)) (fun _ _ _ h => h) (Or.inl ⟨by rfl, ?_⟩) ?_ ?_; rotate_left; (intro w'; go_simp; with_reducible rfl); rotate_left; (simp only [Act.put, sq_a1, sq_a2, sq_a3, i64_w, i32_w]; rfl)
              refine pure_ (i := 1) (N := some 59) (v := ?_) (a' := ?_) mk2 rfl rfl (any_of HT_.out (by kernel_rfl)) (fun _ _ _ h => h) (Or.inl ⟨by rfl, ?_⟩) ?_ ?_; rotate_left; (intro w'; go_simp; with_reducible rfl); rotate_left; (simp only [Act.put, sq_a1, sq_a2, sq_a3, i64_w, i32_w]; rfl)
              refine pure_ (i := 4) (N := some 62) (v := ?_) (a' := ?_) mk3 rfl rfl (any_of HT_.out (by kernel_rfl)) (fun _ _ _ h => h) (Or.inl ⟨by rfl, ?_⟩) ?_ ?_; rotate_left; (intro w'; go_simp; with_reducible rfl); rotate_left; (simp only [Act.put, sq_a1, sq_a2, sq_a3, i64_w, i32_w]; rfl)
              refine pure_ (i := 5) (N := some 63) (v := ?_) (a' := ?_) mk4 rfl rfl (any_of HT_.out (by kernel_rfl)) (fun _ _ _ h => h) (Or.inl ⟨by rfl, ?_⟩) ?_ ?_; rotate_left; (intro w'; go_simp; with_reducible rfl); rotate_left; (simp only [Act.put, sq_a1, sq_a2, sq_a3, i64_w, i32_w]; rfl)
              refine take_ (i := 2) (N := some 60) (v := ?_) (a' := ?_) mk5 rfl rfl (take_ofW HT_.out HW_.out (by kernel_rfl)) (fun _ _ _ h => h) (Or.inl ⟨by rfl, ?_⟩) hHeld ?_ ?_
              rotate_left
              ·rintro w' ⟨s0, s1, s2, s3⟩
               go_simp
               with_reducible rfl
              rotate_left
              ·simp only [Act.put, sq_a1, sq_a2, sq_a3, i64_w, i32_w]
               rfl
              refine join_ (σ := Value) 1 mk6 (fun s_ => [(61, .string (strOfNums zh)), (64, s_), (65, .string (strOfNums t204))]) (fun s_ w' => (w'.cell? ⟨zf, 0, none⟩ = some (.slice zm zh.length zn) ∧ w'.cell? ⟨zf, 1, none⟩ = some (.slice zo zi.length zp) ∧ w'.cell? ⟨zf, 2, none⟩ = some (.slice zq zj.length zr) ∧ w'.cell? ⟨zf, 3, none⟩ = some (.slice zs zk.length zt)) ∧ (Kd.R (Kd.int .u8) 5 w' w.heap.size (fun k_ => some k_ ≠ (.slice zu zg.length zv : Value).ownBlock ∧ some k_ ≠ (.slice zm zh.length zn : Value).ownBlock ∧ some k_ ≠ (.slice zo zi.length zp : Value).ownBlock ∧ some k_ ≠ (.slice zq zj.length zr : Value).ownBlock ∧ some k_ ≠ (.slice zs zk.length zt : Value).ownBlock) s_ t204) ∧ (Kd.R (Kd.int .u8) 5 w' w.heap.size (fun k_ => some k_ ≠ (s_ : Value).ownBlock ∧ some k_ ≠ (.slice zm zh.length zn : Value).ownBlock ∧ some k_ ≠ (.slice zo zi.length zp : Value).ownBlock ∧ some k_ ≠ (.slice zq zj.length zr : Value).ownBlock ∧ some k_ ≠ (.slice zs zk.length zt : Value).ownBlock) (.slice zu zg.length zv) zg) ∧ (Kd.R (Kd.int .u8) 5 w' w.heap.size (fun k_ => some k_ ≠ (s_ : Value).ownBlock ∧ some k_ ≠ (.slice zu zg.length zv : Value).ownBlock ∧ some k_ ≠ (.slice zo zi.length zp : Value).ownBlock ∧ some k_ ≠ (.slice zq zj.length zr : Value).ownBlock ∧ some k_ ≠ (.slice zs zk.length zt : Value).ownBlock) (.slice zm zh.length zn) zh) ∧ (Kd.R (Kd.int .u8) 5 w' w.heap.size (fun k_ => some k_ ≠ (s_ : Value).ownBlock ∧ some k_ ≠ (.slice zu zg.length zv : Value).ownBlock ∧ some k_ ≠ (.slice zm zh.length zn : Value).ownBlock ∧ some k_ ≠ (.slice zq zj.length zr : Value).ownBlock ∧ some k_ ≠ (.slice zs zk.length zt : Value).ownBlock) (.slice zo zi.length zp) zi) ∧ (Kd.R (Kd.int .u8) 5 w' w.heap.size (fun k_ => some k_ ≠ (s_ : Value).ownBlock ∧ some k_ ≠ (.slice zu zg.length zv : Value).ownBlock ∧ some k_ ≠ (.slice zm zh.length zn : Value).ownBlock ∧ some k_ ≠ (.slice zo zi.length zp : Value).ownBlock ∧ some k_ ≠ (.slice zs zk.length zt : Value).ownBlock) (.slice zq zj.length zr) zj) ∧ (Kd.R (Kd.int .u8) 5 w' w.heap.size (fun k_ => some k_ ≠ (s_ : Value).ownBlock ∧ some k_ ≠ (.slice zu zg.length zv : Value).ownBlock ∧ some k_ ≠ (.slice zm zh.length zn : Value).ownBlock ∧ some k_ ≠ (.slice zo zi.length zp : Value).ownBlock ∧ some k_ ≠ (.slice zq zj.length zr : Value).ownBlock) (.slice zs zk.length zt) zk) ∧ (w'.heap[zf]? = some (.cells #[.slice zm zh.length zn, .slice zo zi.length zp, .slice zq zj.length zr, .slice zs zk.length zt] 23 (0, 0))) ∧ (Below w.heap.size w w')) ?_ ?_
              rotate_left
              ·intro hCont
               refine two_ (i := 3) (j := 6) (Ni := some 61) (Nj := some 64) mk7 mk8 rfl rfl rfl rfl (two_of HT_.out (by kernel_rfl)) (by decide) (by decide) (fun K hK => ?_) (fun K hK => ?_)
               ·skip
                (have hcv40 := own_string (P := Try.prog) Try.underlying22 Try.underlying5 Try.underlying9 (Kd.own_of_R zb.out); have hcv40d := fun n_ : Nat => own_string (P := Try.prog) Try.underlying22 Try.underlying5 Try.underlying9 (Kd.own_of_R (sq_N zb.out n_)))
                refine value_ (w1 := ?_) (v := ?_) (by rfl) rfl ?_ ?_
                rotate_left 2
                ·go_simp
                 constructor
                 ·rfl
                 ·rfl
                clear hcv40 hcv40d
                refine hK.out _ _ ⟨(blk_cell za.out 0).trans rfl, (blk_cell za.out 1).trans rfl, (blk_cell za.out 2).trans rfl, (blk_cell za.out 3).trans rfl⟩ (fun hHeld => ?_)
                clear hK K
                refine norm_ (a' := ?_) ?_ ?_
                rotate_left
                ·show Act.put _ (some 61) _ = _
                 simp only [Act.put, sq_a1, sq_a2, sq_a3, i64_w, i32_w]
                 rfl
                refine one_ (i := 6) (N := some 64) mk9 rfl rfl (one_of HT_.out (by kernel_rfl)) (by decide) (fun K hK => ?_)
                refine goes_ Try.func11 (by kernel_rfl) rfl #[.slice zu zg.length zv, .int .i64 0] (by rfl) rfl rfl (by (try simp only [List.map_toArray, List.map_cons, List.map_nil]); first | done | rfl | (simp only [List.length_drop, List.length_take]; rfl)) ?_
                with_reducible refine (shuttleref10_Pick.calls k2 _ _ zg 0 t204 _ ?side1 ?side2 A32.out).mono ?_
                (case side1 => repeat (first | exact (Kd.R_reads' zl.out).2.2 | (with_reducible refine Kd.C_alloc ?_ _) | (with_reducible refine Kd.C_drewN ?_ _) | (with_reducible refine Kd.C_drew ?_)))
                (case side2 => exact (Kd.R_reads' zl.out).2.1)
                rintro e w41 ⟨zae, rfl, zw, hb⟩
                refine ⟨_, rfl, ?_⟩
                have n0_ := sq_m (Kd.R_elder' (sq_R zl.out) (Kd.R_base zw) hb)
                have n1_ := sq_m (Kd.R_elder' (sq_R zb.out) (Kd.R_base zw) hb)
                have n2_ := sq_m (Kd.R_elder' (sq_R zc.out) (Kd.R_base zw) hb)
                have n3_ := sq_m (Kd.R_elder' (sq_R zd.out) (Kd.R_base zw) hb)
                have n4_ := sq_m (Kd.R_elder' (sq_R ze.out) (Kd.R_base zw) hb)
                have n5_ := sq_m (Kd.R_lower (Kd.R_new' (Kd.R_new' (Kd.R_new' (Kd.R_new' (Kd.R_new' zw (Kd.R_lt (sq_R zl.out))) (Kd.R_lt (sq_R zb.out))) (Kd.R_lt (sq_R zc.out))) (Kd.R_lt (sq_R zd.out))) (Kd.R_lt (sq_R ze.out))) (below_size (by with_reducible repeat (first | exact HB.out | apply sq_b | apply sq_n | apply sq_d | refine below_set ?_ zx.out))))
                have n6_ := sq_m (blk_below (g := zf) (o := .cells #[.slice zm zh.length zn, .slice zo zi.length zp, .slice zq zj.length zr, .slice zs zk.length zt] 23 (0, 0)) (by (with_reducible repeat (first | refine blk_drewN ?_ _ | refine blk_drew ?_ | refine blk_alloc ?_ _)); exact za.out) hb)
                have n7_ := sq_m (below_step (by with_reducible repeat (first | exact HB.out | apply sq_b | apply sq_n | apply sq_d | refine below_set ?_ zx.out)) hb)
                clear zl
                clear zb
                clear zc
                clear zd
                clear ze
                clear za
                clear HB
                have zl := n0_
                have zb := n1_
                have zc := n2_
                have zd := n3_
                have ze := n4_
                have zaa := n5_
                have za := n6_
                have HB := n7_
                clear n0_ n1_ n2_ n3_ n4_ n5_ n6_ n7_
                (try clear hb)
                (try clear hb2)
                (try clear hk)
                (try clear hi)
                (try clear zw)
                refine hK.out _ _ ⟨(blk_cell za.out 0).trans rfl, (blk_cell za.out 1).trans rfl, (blk_cell za.out 2).trans rfl, (blk_cell za.out 3).trans rfl⟩ (fun hHeld => ?_)
                clear hK K
                refine norm_ (a' := ?_) ?_ ?_
                rotate_left
                ·show Act.put _ (some 64) _ = _
                 simp only [Act.put, sq_a1, sq_a2, sq_a3, i64_w, i32_w]
                 rfl
                refine one_ (i := 7) (N := some 65) mk6 rfl rfl (one_of HT_.out (by kernel_rfl)) (by decide) (fun K hK => ?_)
                (have hcv42 := own_string (P := Try.prog) Try.underlying22 Try.underlying5 Try.underlying9 (Kd.own_of_R zaa.out); have hcv42d := fun n_ : Nat => own_string (P := Try.prog) Try.underlying22 Try.underlying5 Try.underlying9 (Kd.own_of_R (sq_N zaa.out n_)))
                refine value_ (w1 := ?_) (v := ?_) (by rfl) rfl ?_ ?_
                rotate_left 2
                ·go_simp
                 constructor
                 ·rfl
                 ·rfl
                clear hcv42 hcv42d
                refine hK.out _ _ ⟨(blk_cell za.out 0).trans rfl, (blk_cell za.out 1).trans rfl, (blk_cell za.out 2).trans rfl, (blk_cell za.out 3).trans rfl⟩ (fun hHeld => ?_)
                clear hK K
                refine norm_ (a' := ?_) ?_ ?_
                rotate_left
                ·show Act.put _ (some 65) _ = _
                 simp only [Act.put, sq_a1, sq_a2, sq_a3, i64_w, i32_w]
                 rfl
                exact norm_ (by simp only [putAll, Act.put, sq_a1, sq_a2, sq_a3]) (hCont (zae) _ ⟨hHeld, (by (with_reducible repeat (first | apply sq_A | apply sq_N | apply sq_D)); exact Kd.R_mono zaa.out (fun _ hk => by simp [hk])), (by (with_reducible repeat (first | apply sq_A | apply sq_N | apply sq_D)); exact Kd.R_mono zl.out (fun _ hk => by simp [hk])), (by (with_reducible repeat (first | apply sq_A | apply sq_N | apply sq_D)); exact Kd.R_mono zb.out (fun _ hk => by simp [hk])), (by (with_reducible repeat (first | apply sq_A | apply sq_N | apply sq_D)); exact Kd.R_mono zc.out (fun _ hk => by simp [hk])), (by (with_reducible repeat (first | apply sq_A | apply sq_N | apply sq_D)); exact Kd.R_mono zd.out (fun _ hk => by simp [hk])), (by (with_reducible repeat (first | apply sq_A | apply sq_N | apply sq_D)); exact Kd.R_mono ze.out (fun _ hk => by simp [hk])), (by (with_reducible repeat (first | refine blk_drewN ?_ _ | refine blk_drew ?_ | refine blk_alloc ?_ _)); exact za.out), (by with_reducible repeat (first | exact HB.out | apply sq_b | apply sq_n | apply sq_d | refine below_set ?_ zx.out))⟩)
               ·skip
                refine goes_ Try.func11 (by kernel_rfl) rfl #[.slice zu zg.length zv, .int .i64 0] (by rfl) rfl rfl (by (try simp only [List.map_toArray, List.map_cons, List.map_nil]); first | done | rfl | (simp only [List.length_drop, List.length_take]; rfl)) ?_
                with_reducible refine (shuttleref10_Pick.calls k2 _ _ zg 0 t204 _ ?side1 ?side2 A32.out).mono ?_
                (case side1 => repeat (first | exact (Kd.R_reads' zl.out).2.2 | (with_reducible refine Kd.C_alloc ?_ _) | (with_reducible refine Kd.C_drewN ?_ _) | (with_reducible refine Kd.C_drew ?_)))
                (case side2 => exact (Kd.R_reads' zl.out).2.1)
                rintro e w40 ⟨zae, rfl, zw, hb⟩
                refine ⟨_, rfl, ?_⟩
                have n0_ := sq_m (Kd.R_elder' (sq_R zl.out) (Kd.R_base zw) hb)
                have n1_ := sq_m (Kd.R_elder' (sq_R zb.out) (Kd.R_base zw) hb)
                have n2_ := sq_m (Kd.R_elder' (sq_R zc.out) (Kd.R_base zw) hb)
                have n3_ := sq_m (Kd.R_elder' (sq_R zd.out) (Kd.R_base zw) hb)
                have n4_ := sq_m (Kd.R_elder' (sq_R ze.out) (Kd.R_base zw) hb)
                have n5_ := sq_m (Kd.R_lower (Kd.R_new' (Kd.R_new' (Kd.R_new' (Kd.R_new' (Kd.R_new' zw (Kd.R_lt (sq_R zl.out))) (Kd.R_lt (sq_R zb.out))) (Kd.R_lt (sq_R zc.out))) (Kd.R_lt (sq_R zd.out))) (Kd.R_lt (sq_R ze.out))) (below_size (by with_reducible repeat (first | exact HB.out | apply sq_b | apply sq_n | apply sq_d | refine below_set ?_ zx.out))))
                have n6_ := sq_m (blk_below (g := zf) (o := .cells #[.slice zm zh.length zn, .slice zo zi.length zp, .slice zq zj.length zr, .slice zs zk.length zt] 23 (0, 0)) (by (with_reducible repeat (first | refine blk_drewN ?_ _ | refine blk_drew ?_ | refine blk_alloc ?_ _)); exact za.out) hb)
                have n7_ := sq_m (below_step (by with_reducible repeat (first | exact HB.out | apply sq_b | apply sq_n | apply sq_d | refine below_set ?_ zx.out)) hb)
                clear zl
                clear zb
                clear zc
                clear zd
                clear ze
                clear za
                clear HB
                have zl := n0_
                have zb := n1_
                have zc := n2_
                have zd := n3_
                have ze := n4_
                have zaa := n5_
                have za := n6_
                have HB := n7_
                clear n0_ n1_ n2_ n3_ n4_ n5_ n6_ n7_
                (try clear hb)
                (try clear hb2)
                (try clear hk)
                (try clear hi)
                (try clear zw)
                refine hK.out _ _ ⟨(blk_cell za.out 0).trans rfl, (blk_cell za.out 1).trans rfl, (blk_cell za.out 2).trans rfl, (blk_cell za.out 3).trans rfl⟩ (fun hHeld => ?_)
                clear hK K
                refine norm_ (a' := ?_) ?_ ?_
                rotate_left
                ·show Act.put _ (some 64) _ = _
                 simp only [Act.put, sq_a1, sq_a2, sq_a3, i64_w, i32_w]
                 rfl
                refine two_ (i := 3) (j := 7) (Ni := some 61) (Nj := some 65) mk9 mk10 rfl rfl rfl rfl (two_of HT_.out (by kernel_rfl)) (by decide) (by decide) (fun K hK => ?_) (fun K hK => ?_)
                ·skip
                 (have hcv41 := own_string (P := Try.prog) Try.underlying22 Try.underlying5 Try.underlying9 (Kd.own_of_R zb.out); have hcv41d := fun n_ : Nat => own_string (P := Try.prog) Try.underlying22 Try.underlying5 Try.underlying9 (Kd.own_of_R (sq_N zb.out n_)))
                 refine value_ (w1 := ?_) (v := ?_) (by rfl) rfl ?_ ?_
                 rotate_left 2
                 ·go_simp
                  constructor
                  ·rfl
                  ·rfl
                 clear hcv41 hcv41d
                 refine hK.out _ _ ⟨(blk_cell za.out 0).trans rfl, (blk_cell za.out 1).trans rfl, (blk_cell za.out 2).trans rfl, (blk_cell za.out 3).trans rfl⟩ (fun hHeld => ?_)
                 clear hK K
                 refine norm_ (a' := ?_) ?_ ?_
                 rotate_left
                 ·show Act.put _ (some 61) _ = _
                  simp only [Act.put, sq_a1, sq_a2, sq_a3, i64_w, i32_w]
                  rfl
                 refine one_ (i := 7) (N := some 65) mk6 rfl rfl (one_of HT_.out (by kernel_rfl)) (by decide) (fun K hK => ?_)
                 (have hcv42 := own_string (P := Try.prog) Try.underlying22 Try.underlying5 Try.underlying9 (Kd.own_of_R zaa.out); have hcv42d := fun n_ : Nat => own_string (P := Try.prog) Try.underlying22 Try.underlying5 Try.underlying9 (Kd.own_of_R (sq_N zaa.out n_)))
                 refine value_ (w1 := ?_) (v := ?_) (by rfl) rfl ?_ ?_
                 rotate_left 2
                 ·go_simp
                  constructor
                  ·rfl
                  ·rfl
                 clear hcv42 hcv42d
                 refine hK.out _ _ ⟨(blk_cell za.out 0).trans rfl, (blk_cell za.out 1).trans rfl, (blk_cell za.out 2).trans rfl, (blk_cell za.out 3).trans rfl⟩ (fun hHeld => ?_)
                 clear hK K
                 refine norm_ (a' := ?_) ?_ ?_
                 rotate_left
                 ·show Act.put _ (some 65) _ = _
                  simp only [Act.put, sq_a1, sq_a2, sq_a3, i64_w, i32_w]
                  rfl
                 exact norm_ (by simp only [putAll, Act.put, sq_a1, sq_a2, sq_a3]) (hCont (zae) _ ⟨hHeld, (by (with_reducible repeat (first | apply sq_A | apply sq_N | apply sq_D)); exact Kd.R_mono zaa.out (fun _ hk => by simp [hk])), (by (with_reducible repeat (first | apply sq_A | apply sq_N | apply sq_D)); exact Kd.R_mono zl.out (fun _ hk => by simp [hk])), (by (with_reducible repeat (first | apply sq_A | apply sq_N | apply sq_D)); exact Kd.R_mono zb.out (fun _ hk => by simp [hk])), (by (with_reducible repeat (first | apply sq_A | apply sq_N | apply sq_D)); exact Kd.R_mono zc.out (fun _ hk => by simp [hk])), (by (with_reducible repeat (first | apply sq_A | apply sq_N | apply sq_D)); exact Kd.R_mono zd.out (fun _ hk => by simp [hk])), (by (with_reducible repeat (first | apply sq_A | apply sq_N | apply sq_D)); exact Kd.R_mono ze.out (fun _ hk => by simp [hk])), (by (with_reducible repeat (first | refine blk_drewN ?_ _ | refine blk_drew ?_ | refine blk_alloc ?_ _)); exact za.out), (by with_reducible repeat (first | exact HB.out | apply sq_b | apply sq_n | apply sq_d | refine below_set ?_ zx.out))⟩)
                ·skip
                 (have hcv41 := own_string (P := Try.prog) Try.underlying22 Try.underlying5 Try.underlying9 (Kd.own_of_R zaa.out); have hcv41d := fun n_ : Nat => own_string (P := Try.prog) Try.underlying22 Try.underlying5 Try.underlying9 (Kd.own_of_R (sq_N zaa.out n_)))
                 refine value_ (w1 := ?_) (v := ?_) (by rfl) rfl ?_ ?_
                 rotate_left 2
                 ·go_simp
                  constructor
                  ·rfl
                  ·rfl
                 clear hcv41 hcv41d
                 refine hK.out _ _ ⟨(blk_cell za.out 0).trans rfl, (blk_cell za.out 1).trans rfl, (blk_cell za.out 2).trans rfl, (blk_cell za.out 3).trans rfl⟩ (fun hHeld => ?_)
                 clear hK K
                 refine norm_ (a' := ?_) ?_ ?_
                 rotate_left
                 ·show Act.put _ (some 65) _ = _
                  simp only [Act.put, sq_a1, sq_a2, sq_a3, i64_w, i32_w]
                  rfl
                 refine one_ (i := 3) (N := some 61) mk6 rfl rfl (one_of HT_.out (by kernel_rfl)) (by decide) (fun K hK => ?_)
                 (have hcv42 := own_string (P := Try.prog) Try.underlying22 Try.underlying5 Try.underlying9 (Kd.own_of_R zb.out); have hcv42d := fun n_ : Nat => own_string (P := Try.prog) Try.underlying22 Try.underlying5 Try.underlying9 (Kd.own_of_R (sq_N zb.out n_)))
                 refine value_ (w1 := ?_) (v := ?_) (by rfl) rfl ?_ ?_
                 rotate_left 2
                 ·go_simp
                  constructor
                  ·rfl
                  ·rfl
                 clear hcv42 hcv42d
                 refine hK.out _ _ ⟨(blk_cell za.out 0).trans rfl, (blk_cell za.out 1).trans rfl, (blk_cell za.out 2).trans rfl, (blk_cell za.out 3).trans rfl⟩ (fun hHeld => ?_)
                 clear hK K
                 refine norm_ (a' := ?_) ?_ ?_
                 rotate_left
                 ·show Act.put _ (some 61) _ = _
                  simp only [Act.put, sq_a1, sq_a2, sq_a3, i64_w, i32_w]
                  rfl
                 exact norm_ (by simp only [putAll, Act.put, sq_a1, sq_a2, sq_a3]) (hCont (zae) _ ⟨hHeld, (by (with_reducible repeat (first | apply sq_A | apply sq_N | apply sq_D)); exact Kd.R_mono zaa.out (fun _ hk => by simp [hk])), (by (with_reducible repeat (first | apply sq_A | apply sq_N | apply sq_D)); exact Kd.R_mono zl.out (fun _ hk => by simp [hk])), (by (with_reducible repeat (first | apply sq_A | apply sq_N | apply sq_D)); exact Kd.R_mono zb.out (fun _ hk => by simp [hk])), (by (with_reducible repeat (first | apply sq_A | apply sq_N | apply sq_D)); exact Kd.R_mono zc.out (fun _ hk => by simp [hk])), (by (with_reducible repeat (first | apply sq_A | apply sq_N | apply sq_D)); exact Kd.R_mono zd.out (fun _ hk => by simp [hk])), (by (with_reducible repeat (first | apply sq_A | apply sq_N | apply sq_D)); exact Kd.R_mono ze.out (fun _ hk => by simp [hk])), (by (with_reducible repeat (first | refine blk_drewN ?_ _ | refine blk_drew ?_ | refine blk_alloc ?_ _)); exact za.out), (by with_reducible repeat (first | exact HB.out | apply sq_b | apply sq_n | apply sq_d | refine below_set ?_ zx.out))⟩)
              rintro zae w43 ⟨hS_, h0_, h1_, h2_, h3_, h4_, h5_, h6_, h7_⟩
              have n0_ : Aside0 (Kd.R (Kd.int .u8) 5 w43 w.heap.size (fun k_ => some k_ ≠ (.slice zu zg.length zv : Value).ownBlock ∧ some k_ ≠ (.slice zm zh.length zn : Value).ownBlock ∧ some k_ ≠ (.slice zo zi.length zp : Value).ownBlock ∧ some k_ ≠ (.slice zq zj.length zr : Value).ownBlock ∧ some k_ ≠ (.slice zs zk.length zt : Value).ownBlock) zae t204) := ⟨h0_⟩
              have n1_ : Aside0 (Kd.R (Kd.int .u8) 5 w43 w.heap.size (fun k_ => some k_ ≠ (zae : Value).ownBlock ∧ some k_ ≠ (.slice zm zh.length zn : Value).ownBlock ∧ some k_ ≠ (.slice zo zi.length zp : Value).ownBlock ∧ some k_ ≠ (.slice zq zj.length zr : Value).ownBlock ∧ some k_ ≠ (.slice zs zk.length zt : Value).ownBlock) (.slice zu zg.length zv) zg) := ⟨h1_⟩
              have n2_ : Aside0 (Kd.R (Kd.int .u8) 5 w43 w.heap.size (fun k_ => some k_ ≠ (zae : Value).ownBlock ∧ some k_ ≠ (.slice zu zg.length zv : Value).ownBlock ∧ some k_ ≠ (.slice zo zi.length zp : Value).ownBlock ∧ some k_ ≠ (.slice zq zj.length zr : Value).ownBlock ∧ some k_ ≠ (.slice zs zk.length zt : Value).ownBlock) (.slice zm zh.length zn) zh) := ⟨h2_⟩
              have n3_ : Aside0 (Kd.R (Kd.int .u8) 5 w43 w.heap.size (fun k_ => some k_ ≠ (zae : Value).ownBlock ∧ some k_ ≠ (.slice zu zg.length zv : Value).ownBlock ∧ some k_ ≠ (.slice zm zh.length zn : Value).ownBlock ∧ some k_ ≠ (.slice zq zj.length zr : Value).ownBlock ∧ some k_ ≠ (.slice zs zk.length zt : Value).ownBlock) (.slice zo zi.length zp) zi) := ⟨h3_⟩
              have n4_ : Aside0 (Kd.R (Kd.int .u8) 5 w43 w.heap.size (fun k_ => some k_ ≠ (zae : Value).ownBlock ∧ some k_ ≠ (.slice zu zg.length zv : Value).ownBlock ∧ some k_ ≠ (.slice zm zh.length zn : Value).ownBlock ∧ some k_ ≠ (.slice zo zi.length zp : Value).ownBlock ∧ some k_ ≠ (.slice zs zk.length zt : Value).ownBlock) (.slice zq zj.length zr) zj) := ⟨h4_⟩
              have n5_ : Aside0 (Kd.R (Kd.int .u8) 5 w43 w.heap.size (fun k_ => some k_ ≠ (zae : Value).ownBlock ∧ some k_ ≠ (.slice zu zg.length zv : Value).ownBlock ∧ some k_ ≠ (.slice zm zh.length zn : Value).ownBlock ∧ some k_ ≠ (.slice zo zi.length zp : Value).ownBlock ∧ some k_ ≠ (.slice zq zj.length zr : Value).ownBlock) (.slice zs zk.length zt) zk) := ⟨h5_⟩
              have n6_ : Aside0 (w43.heap[zf]? = some (.cells #[.slice zm zh.length zn, .slice zo zi.length zp, .slice zq zj.length zr, .slice zs zk.length zt] 23 (0, 0))) := ⟨h6_⟩
              have n7_ : Aside0 (Below w.heap.size w w43) := ⟨h7_⟩
              clear zl
              clear zb
              clear zc
              clear zd
              clear ze
              clear za
              clear HB
              clear h0_ h1_ h2_ h3_ h4_ h5_ h6_ h7_
              have zaa := n0_
              have zl := n1_
              have zb := n2_
              have zc := n3_
              have zd := n4_
              have ze := n5_
              have za := n6_
              have HB := n7_
              clear n0_ n1_ n2_ n3_ n4_ n5_ n6_ n7_
              have hHeld : w43.cell? ⟨zf, 0, none⟩ = some (.slice zm zh.length zn) ∧ w43.cell? ⟨zf, 1, none⟩ = some (.slice zo zi.length zp) ∧ w43.cell? ⟨zf, 2, none⟩ = some (.slice zq zj.length zr) ∧ w43.cell? ⟨zf, 3, none⟩ = some (.slice zs zk.length zt) := hS_
              refine norm_ (a' := ?_) ?_ ?_
              rotate_left
              ·simp only [putAll, Act.put, sq_a1, sq_a2, sq_a3]
               rfl
              refine pure_ (i := 8) (N := some 66) (v := ?_) (a' := ?_) mk11 rfl rfl (any_of HT_.out (by kernel_rfl)) (fun _ _ _ h => h) (Or.inl ⟨by rfl, ?_⟩) ?_ ?_; rotate_left; (intro w'; go_simp; with_reducible rfl); rotate_left; (simp only [Act.put, sq_a1, sq_a2, sq_a3, i64_w, i32_w]; rfl)
              refine done_ (done_of HT_.out (by kernel_rfl)) ?_
              try go_wp2
              go_ret
              exact ⟨by first | rfl | (simp [errW_none, errW_some] <;> rfl) | (simp only [← hji2]; first | rfl | (simp [errW_none, errW_some] <;> rfl)) | (simp [*, errW_none, errW_some] <;> rfl), by with_reducible repeat (first | exact HB.out | apply sq_b | apply sq_n | apply sq_d | refine below_set ?_ zx.out)⟩
            ·rw [if_neg c31] at H
             clear c31
             by_cases c44 : x6_2 = 1
             ·rw [if_pos c44] at H
              subst c44
              replace H := Option.bind_eq_some_iff.mp H
              obtain ⟨t201, A450, H⟩ := H
              replace H : (if (strOfNums zi).toList = (strOfNums t201).toList then (shuttlelaw11_VersionSplits.l0 k2 zg (strOfNums zg) zy (1 + 1) zh zi zj zk) else (some false)) = some r := H
              have A45 := sq_m A450
              clear A450
              by_cases c46 : (strOfNums zi).toList = (strOfNums t201).toList
              ·rw [if_pos c46] at H
               have c46b0 : ((strOfNums zi).toList == (strOfNums t201).toList) = true := beq_iff_eq.mpr c46
               have c46b1 : ((strOfNums zi).toList != (strOfNums t201).toList) = false := bne_eq_false_iff_eq.mpr c46
               clear c46
               have H' := sq_m H
               clear H
               try go_wp2
               have n0_ := sq_m (sq_D zl.out)
               have n1_ := sq_m (sq_D zb.out)
               have n2_ := sq_m (sq_D zc.out)
               have n3_ := sq_m (sq_D zd.out)
               have n4_ := sq_m (sq_D ze.out)
               have n5_ := sq_m (blk_drew za.out)
               have n6_ := sq_m (sq_d HB.out)
               clear zl
               clear zb
               clear zc
               clear zd
               clear ze
               clear za
               clear HB
               have zl := n0_
               have zb := n1_
               have zc := n2_
               have zd := n3_
               have ze := n4_
               have za := n5_
               have HB := n6_
               clear n0_ n1_ n2_ n3_ n4_ n5_ n6_
               refine start_ (n := 9) (S := fun w' => w'.cell? ⟨zf, 0, none⟩ = some (.slice zm zh.length zn) ∧ w'.cell? ⟨zf, 1, none⟩ = some (.slice zo zi.length zp) ∧ w'.cell? ⟨zf, 2, none⟩ = some (.slice zq zj.length zr) ∧ w'.cell? ⟨zf, 3, none⟩ = some (.slice zs zk.length zt)) (ds := []) mk0 (by kernel_rfl) rfl rfl ⟨(blk_cell za.out 0).trans rfl, (blk_cell za.out 1).trans rfl, (blk_cell za.out 2).trans rfl, (blk_cell za.out 3).trans rfl⟩ (fun hHeld => ?_); refine with_tabW shuttlelaw11_VersionSplits.tab13 shuttlelaw11_VersionSplits.bits13 (fun HT_ HW_ => ?_)
               generalize wr.drew = w47 at zl zb zc zd ze za HB hHeld ⊢
               refine pure_ (i := 0) (N := some 58) (v := ?_) (a' := ?_) mk1 rfl rfl (any_of HT_.out (by kernel_rfl)) (fun _ _ _ h => h) (Or.inl ⟨by rfl, ?_⟩) ?_ ?_; rotate_left; (intro w'; go_simp; with_reducible rfl); rotate_left; (simp only [Act.put, sq_a1, sq_a2, sq_a3, i64_w, i32_w]; rfl)
               refine pure_ (i := 1) (N := some 59) (v := ?_) (a' := ?_) mk2 rfl rfl (any_of HT_.out (by kernel_rfl)) (fun _ _ _ h => h) (Or.inl ⟨by rfl, ?_⟩) ?_ ?_; rotate_left; (intro w'; go_simp; with_reducible rfl); rotate_left; (simp only [Act.put, sq_a1, sq_a2, sq_a3, i64_w, i32_w]; rfl)
               refine pure_ (i := 4) (N := some 62) (v := ?_) (a' := ?_) mk3 rfl rfl (any_of HT_.out (by kernel_rfl)) (fun _ _ _ h => h) (Or.inl ⟨by rfl, ?_⟩) ?_ ?_; rotate_left; (intro w'; go_simp; with_reducible rfl); rotate_left; (simp only [Act.put, sq_a1, sq_a2, sq_a3, i64_w, i32_w]; rfl)
               refine pure_ (i := 5) (N := some 63) (v := ?_) (a' := ?_) mk4 rfl rfl (any_of HT_.out (by kernel_rfl)) (fun _ _ _ h => h) (Or.inl ⟨by rfl, ?_⟩) ?_ ?_; rotate_left; (intro w'; go_simp; with_reducible rfl); rotate_left; (simp only [Act.put, sq_a1, sq_a2, sq_a3, i64_w, i32_w]; rfl)
               refine take_ (i := 2) (N := some 60) (v := ?_) (a' := ?_) mk5 rfl rfl (take_ofW HT_.out HW_.out (by kernel_rfl)) (fun _ _ _ h => h) (Or.inl ⟨by rfl, ?_⟩) hHeld ?_ ?_
               rotate_left
               ·rintro w' ⟨s0, s1, s2, s3⟩
                go_simp
                with_reducible rfl
               rotate_left
               ·simp only [Act.put, sq_a1, sq_a2, sq_a3, i64_w, i32_w]
                rfl
               refine join_ (σ := Value) 1 mk6 (fun s_ => [(61, .string (strOfNums zi)), (64, s_), (65, .string (strOfNums t201))]) (fun s_ w' => (w'.cell? ⟨zf, 0, none⟩ = some (.slice zm zh.length zn) ∧ w'.cell? ⟨zf, 1, none⟩ = some (.slice zo zi.length zp) ∧ w'.cell? ⟨zf, 2, none⟩ = some (.slice zq zj.length zr) ∧ w'.cell? ⟨zf, 3, none⟩ = some (.slice zs zk.length zt)) ∧ (Kd.R (Kd.int .u8) 5 w' w.heap.size (fun k_ => some k_ ≠ (.slice zu zg.length zv : Value).ownBlock ∧ some k_ ≠ (.slice zm zh.length zn : Value).ownBlock ∧ some k_ ≠ (.slice zo zi.length zp : Value).ownBlock ∧ some k_ ≠ (.slice zq zj.length zr : Value).ownBlock ∧ some k_ ≠ (.slice zs zk.length zt : Value).ownBlock) s_ t201) ∧ (Kd.R (Kd.int .u8) 5 w' w.heap.size (fun k_ => some k_ ≠ (s_ : Value).ownBlock ∧ some k_ ≠ (.slice zm zh.length zn : Value).ownBlock ∧ some k_ ≠ (.slice zo zi.length zp : Value).ownBlock ∧ some k_ ≠ (.slice zq zj.length zr : Value).ownBlock ∧ some k_ ≠ (.slice zs zk.length zt : Value).ownBlock) (.slice zu zg.length zv) zg) ∧ (Kd.R (Kd.int .u8) 5 w' w.heap.size (fun k_ => some k_ ≠ (s_ : Value).ownBlock ∧ some k_ ≠ (.slice zu zg.length zv : Value).ownBlock ∧ some k_ ≠ (.slice zo zi.length zp : Value).ownBlock ∧ some k_ ≠ (.slice zq zj.length zr : Value).ownBlock ∧ some k_ ≠ (.slice zs zk.length zt : Value).ownBlock) (.slice zm zh.length zn) zh) ∧ (Kd.R (Kd.int .u8) 5 w' w.heap.size (fun k_ => some k_ ≠ (s_ : Value).ownBlock ∧ some k_ ≠ (.slice zu zg.length zv : Value).ownBlock ∧ some k_ ≠ (.slice zm zh.length zn : Value).ownBlock ∧ some k_ ≠ (.slice zq zj.length zr : Value).ownBlock ∧ some k_ ≠ (.slice zs zk.length zt : Value).ownBlock) (.slice zo zi.length zp) zi) ∧ (Kd.R (Kd.int .u8) 5 w' w.heap.size (fun k_ => some k_ ≠ (s_ : Value).ownBlock ∧ some k_ ≠ (.slice zu zg.length zv : Value).ownBlock ∧ some k_ ≠ (.slice zm zh.length zn : Value).ownBlock ∧ some k_ ≠ (.slice zo zi.length zp : Value).ownBlock ∧ some k_ ≠ (.slice zs zk.length zt : Value).ownBlock) (.slice zq zj.length zr) zj) ∧ (Kd.R (Kd.int .u8) 5 w' w.heap.size (fun k_ => some k_ ≠ (s_ : Value).ownBlock ∧ some k_ ≠ (.slice zu zg.length zv : Value).ownBlock ∧ some k_ ≠ (.slice zm zh.length zn : Value).ownBlock ∧ some k_ ≠ (.slice zo zi.length zp : Value).ownBlock ∧ some k_ ≠ (.slice zq zj.length zr : Value).ownBlock) (.slice zs zk.length zt) zk) ∧ (w'.heap[zf]? = some (.cells #[.slice zm zh.length zn, .slice zo zi.length zp, .slice zq zj.length zr, .slice zs zk.length zt] 23 (0, 0))) ∧ (Below w.heap.size w w')) ?_ ?_
               rotate_left
               ·intro hCont
                refine two_ (i := 3) (j := 6) (Ni := some 61) (Nj := some 64) mk7 mk8 rfl rfl rfl rfl (two_of HT_.out (by kernel_rfl)) (by decide) (by decide) (fun K hK => ?_) (fun K hK => ?_)
                ·skip
                 (have hcv48 := own_string (P := Try.prog) Try.underlying22 Try.underlying5 Try.underlying9 (Kd.own_of_R zc.out); have hcv48d := fun n_ : Nat => own_string (P := Try.prog) Try.underlying22 Try.underlying5 Try.underlying9 (Kd.own_of_R (sq_N zc.out n_)))
                 refine value_ (w1 := ?_) (v := ?_) (by rfl) rfl ?_ ?_
                 rotate_left 2
                 ·go_simp
                  constructor
                  ·rfl
                  ·rfl
                 clear hcv48 hcv48d
                 refine hK.out _ _ ⟨(blk_cell za.out 0).trans rfl, (blk_cell za.out 1).trans rfl, (blk_cell za.out 2).trans rfl, (blk_cell za.out 3).trans rfl⟩ (fun hHeld => ?_)
                 clear hK K
                 refine norm_ (a' := ?_) ?_ ?_
                 rotate_left
                 ·show Act.put _ (some 61) _ = _
                  simp only [Act.put, sq_a1, sq_a2, sq_a3, i64_w, i32_w]
                  rfl
                 refine one_ (i := 6) (N := some 64) mk9 rfl rfl (one_of HT_.out (by kernel_rfl)) (by decide) (fun K hK => ?_)
                 refine goes_ Try.func11 (by kernel_rfl) rfl #[.slice zu zg.length zv, .int .i64 1] (by rfl) rfl rfl (by (try simp only [List.map_toArray, List.map_cons, List.map_nil]); first | done | rfl | (simp only [List.length_drop, List.length_take]; rfl)) ?_
                 with_reducible refine (shuttleref10_Pick.calls k2 _ _ zg 1 t201 _ ?side1 ?side2 A45.out).mono ?_
                 (case side1 => repeat (first | exact (Kd.R_reads' zl.out).2.2 | (with_reducible refine Kd.C_alloc ?_ _) | (with_reducible refine Kd.C_drewN ?_ _) | (with_reducible refine Kd.C_drew ?_)))
                 (case side2 => exact (Kd.R_reads' zl.out).2.1)
                 rintro e w49 ⟨zaf, rfl, zw, hb⟩
                 refine ⟨_, rfl, ?_⟩
                 have n0_ := sq_m (Kd.R_elder' (sq_R zl.out) (Kd.R_base zw) hb)
                 have n1_ := sq_m (Kd.R_elder' (sq_R zb.out) (Kd.R_base zw) hb)
                 have n2_ := sq_m (Kd.R_elder' (sq_R zc.out) (Kd.R_base zw) hb)
                 have n3_ := sq_m (Kd.R_elder' (sq_R zd.out) (Kd.R_base zw) hb)
                 have n4_ := sq_m (Kd.R_elder' (sq_R ze.out) (Kd.R_base zw) hb)
                 have n5_ := sq_m (Kd.R_lower (Kd.R_new' (Kd.R_new' (Kd.R_new' (Kd.R_new' (Kd.R_new' zw (Kd.R_lt (sq_R zl.out))) (Kd.R_lt (sq_R zb.out))) (Kd.R_lt (sq_R zc.out))) (Kd.R_lt (sq_R zd.out))) (Kd.R_lt (sq_R ze.out))) (below_size (by with_reducible repeat (first | exact HB.out | apply sq_b | apply sq_n | apply sq_d | refine below_set ?_ zx.out))))
                 have n6_ := sq_m (blk_below (g := zf) (o := .cells #[.slice zm zh.length zn, .slice zo zi.length zp, .slice zq zj.length zr, .slice zs zk.length zt] 23 (0, 0)) (by (with_reducible repeat (first | refine blk_drewN ?_ _ | refine blk_drew ?_ | refine blk_alloc ?_ _)); exact za.out) hb)
                 have n7_ := sq_m (below_step (by with_reducible repeat (first | exact HB.out | apply sq_b | apply sq_n | apply sq_d | refine below_set ?_ zx.out)) hb)
                 clear zl
                 clear zb
                 clear zc
                 clear zd
                 clear ze
                 clear za
                 clear HB
                 have zl := n0_
                 have zb := n1_
                 have zc := n2_
                 have zd := n3_
                 have ze := n4_
                 have zab := n5_
                 have za := n6_
                 have HB := n7_
                 clear n0_ n1_ n2_ n3_ n4_ n5_ n6_ n7_
                 (try clear hb)
                 (try clear hb2)
                 (try clear hk)
                 (try clear hi)
                 (try clear zw)
                 refine hK.out _ _ ⟨(blk_cell za.out 0).trans rfl, (blk_cell za.out 1).trans rfl, (blk_cell za.out 2).trans rfl, (blk_cell za.out 3).trans rfl⟩ (fun hHeld => ?_)
                 clear hK K
                 refine norm_ (a' := ?_) ?_ ?_
                 rotate_left
                 ·show Act.put _ (some 64) _ = _
                  simp only [Act.put, sq_a1, sq_a2, sq_a3, i64_w, i32_w]
                  rfl
                 refine one_ (i := 7) (N := some 65) mk6 rfl rfl (one_of HT_.out (by kernel_rfl)) (by decide) (fun K hK => ?_)
                 (have hcv50 := own_string (P := Try.prog) Try.underlying22 Try.underlying5 Try.underlying9 (Kd.own_of_R zab.out); have hcv50d := fun n_ : Nat => own_string (P := Try.prog) Try.underlying22 Try.underlying5 Try.underlying9 (Kd.own_of_R (sq_N zab.out n_)))
                 refine value_ (w1 := ?_) (v := ?_) (by rfl) rfl ?_ ?_
                 rotate_left 2
                 ·go_simp
                  constructor
                  ·rfl
                  ·rfl
                 clear hcv50 hcv50d
                 refine hK.out _ _ ⟨(blk_cell za.out 0).trans rfl, (blk_cell za.out 1).trans rfl, (blk_cell za.out 2).trans rfl, (blk_cell za.out 3).trans rfl⟩ (fun hHeld => ?_)
                 clear hK K
                 refine norm_ (a' := ?_) ?_ ?_
                 rotate_left
                 ·show Act.put _ (some 65) _ = _
                  simp only [Act.put, sq_a1, sq_a2, sq_a3, i64_w, i32_w]
                  rfl
                 exact norm_ (by simp only [putAll, Act.put, sq_a1, sq_a2, sq_a3]) (hCont (zaf) _ ⟨hHeld, (by (with_reducible repeat (first | apply sq_A | apply sq_N | apply sq_D)); exact Kd.R_mono zab.out (fun _ hk => by simp [hk])), (by (with_reducible repeat (first | apply sq_A | apply sq_N | apply sq_D)); exact Kd.R_mono zl.out (fun _ hk => by simp [hk])), (by (with_reducible repeat (first | apply sq_A | apply sq_N | apply sq_D)); exact Kd.R_mono zb.out (fun _ hk => by simp [hk])), (by (with_reducible repeat (first | apply sq_A | apply sq_N | apply sq_D)); exact Kd.R_mono zc.out (fun _ hk => by simp [hk])), (by (with_reducible repeat (first | apply sq_A | apply sq_N | apply sq_D)); exact Kd.R_mono zd.out (fun _ hk => by simp [hk])), (by (with_reducible repeat (first | apply sq_A | apply sq_N | apply sq_D)); exact Kd.R_mono ze.out (fun _ hk => by simp [hk])), (by (with_reducible repeat (first | refine blk_drewN ?_ _ | refine blk_drew ?_ | refine blk_alloc ?_ _)); exact za.out), (by with_reducible repeat (first | exact HB.out | apply sq_b | apply sq_n | apply sq_d | refine below_set ?_ zx.out))⟩)
                ·skip
                 refine goes_ Try.func11 (by kernel_rfl) rfl #[.slice zu zg.length zv, .int .i64 1] (by rfl) rfl rfl (by (try simp only [List.map_toArray, List.map_cons, List.map_nil]); first | done | rfl | (simp only [List.length_drop, List.length_take]; rfl)) ?_
                 with_reducible refine (shuttleref10_Pick.calls k2 _ _ zg 1 t201 _ ?side1 ?side2 A45.out).mono ?_
                 (case side1 => repeat (first | exact (Kd.R_reads' zl.out).2.2 | (with_reducible refine Kd.C_alloc ?_ _) | (with_reducible refine Kd.C_drewN ?_ _) | (with_reducible refine Kd.C_drew ?_)))
                 (case side2 => exact (Kd.R_reads' zl.out).2.1)
                 rintro e w48 ⟨zaf, rfl, zw, hb⟩
                 refine ⟨_, rfl, ?_⟩
                 have n0_ := sq_m (Kd.R_elder' (sq_R zl.out) (Kd.R_base zw) hb)
                 have n1_ := sq_m (Kd.R_elder' (sq_R zb.out) (Kd.R_base zw) hb)
                 have n2_ := sq_m (Kd.R_elder' (sq_R zc.out) (Kd.R_base zw) hb)
                 have n3_ := sq_m (Kd.R_elder' (sq_R zd.out) (Kd.R_base zw) hb)
                 have n4_ := sq_m (Kd.R_elder' (sq_R ze.out) (Kd.R_base zw) hb)
                 have n5_ := sq_m (Kd.R_lower (Kd.R_new' (Kd.R_new' (Kd.R_new' (Kd.R_new' (Kd.R_new' zw (Kd.R_lt (sq_R zl.out))) (Kd.R_lt (sq_R zb.out))) (Kd.R_lt (sq_R zc.out))) (Kd.R_lt (sq_R zd.out))) (Kd.R_lt (sq_R ze.out))) (below_size (by with_reducible repeat (first | exact HB.out | apply sq_b | apply sq_n | apply sq_d | refine below_set ?_ zx.out))))
                 have n6_ := sq_m (blk_below (g := zf) (o := .cells #[.slice zm zh.length zn, .slice zo zi.length zp, .slice zq zj.length zr, .slice zs zk.length zt] 23 (0, 0)) (by (with_reducible repeat (first | refine blk_drewN ?_ _ | refine blk_drew ?_ | refine blk_alloc ?_ _)); exact za.out) hb)
                 have n7_ := sq_m (below_step (by with_reducible repeat (first | exact HB.out | apply sq_b | apply sq_n | apply sq_d | refine below_set ?_ zx.out)) hb)
                 clear zl
                 clear zb
                 clear zc
                 clear zd
                 clear ze
                 clear za
                 clear HB
                 have zl := n0_
                 have zb := n1_
                 have zc := n2_
                 have zd := n3_
                 have ze := n4_
                 have zab := n5_
                 have za := n6_
                 have HB := n7_
                 clear n0_ n1_ n2_ n3_ n4_ n5_ n6_ n7_
                 (try clear hb)
                 (try clear hb2)
                 (try clear hk)
                 (try clear hi)
                 (try clear zw)
                 refine hK.out _ _ ⟨(blk_cell za.out 0).trans rfl, (blk_cell za.out 1).trans rfl, (blk_cell za.out 2).trans rfl, (blk_cell za.out 3).trans rfl⟩ (fun hHeld => ?_)
                 clear hK K
                 refine norm_ (a' := ?_) ?_ ?_
                 rotate_left
                 ·show Act.put _ (some 64) _ = _
                  simp only [Act.put, sq_a1, sq_a2, sq_a3, i64_w, i32_w]
                  rfl
                 refine two_ (i := 3) (j := 7) (Ni := some 61) (Nj := some 65) mk9 mk10 rfl rfl rfl rfl (two_of HT_.out (by kernel_rfl)) (by decide) (by decide) (fun K hK => ?_) (fun K hK => ?_)
                 ·skip
                  (have hcv49 := own_string (P := Try.prog) Try.underlying22 Try.underlying5 Try.underlying9 (Kd.own_of_R zc.out); have hcv49d := fun n_ : Nat => own_string (P := Try.prog) Try.underlying22 Try.underlying5 Try.underlying9 (Kd.own_of_R (sq_N zc.out n_)))
                  refine value_ (w1 := ?_) (v := ?_) (by rfl) rfl ?_ ?_
                  rotate_left 2
                  ·go_simp
                   constructor
                   ·rfl
                   ·rfl
                  clear hcv49 hcv49d
                  refine hK.out _ _ ⟨(blk_cell za.out 0).trans rfl, (blk_cell za.out 1).trans rfl, (blk_cell za.out 2).trans rfl, (blk_cell za.out 3).trans rfl⟩ (fun hHeld => ?_)
                  clear hK K
                  refine norm_ (a' := ?_) ?_ ?_
                  rotate_left
                  ·show Act.put _ (some 61) _ = _
                   simp only [Act.put, sq_a1, sq_a2, sq_a3, i64_w, i32_w]
                   rfl
                  refine one_ (i := 7) (N := some 65) mk6 rfl rfl (one_of HT_.out (by kernel_rfl)) (by decide) (fun K hK => ?_)
                  (have hcv50 := own_string (P := Try.prog) Try.underlying22 Try.underlying5 Try.underlying9 (Kd.own_of_R zab.out); have hcv50d := fun n_ : Nat => own_string (P := Try.prog) Try.underlying22 Try.underlying5 Try.underlying9 (Kd.own_of_R (sq_N zab.out n_)))
                  refine value_ (w1 := ?_) (v := ?_) (by rfl) rfl ?_ ?_
                  rotate_left 2
                  ·go_simp
                   constructor
                   ·rfl
                   ·rfl
                  clear hcv50 hcv50d
                  refine hK.out _ _ ⟨(blk_cell za.out 0).trans rfl, (blk_cell za.out 1).trans rfl, (blk_cell za.out 2).trans rfl, (blk_cell za.out 3).trans rfl⟩ (fun hHeld => ?_)
                  clear hK K
                  refine norm_ (a' := ?_) ?_ ?_
                  rotate_left
                  ·show Act.put _ (some 65) _ = _
                   simp only [Act.put, sq_a1, sq_a2, sq_a3, i64_w, i32_w]
                   rfl
                  exact norm_ (by simp only [putAll, Act.put, sq_a1, sq_a2, sq_a3]) (hCont (zaf) _ ⟨hHeld, (by (with_reducible repeat (first | apply sq_A | apply sq_N | apply sq_D)); exact Kd.R_mono zab.out (fun _ hk => by simp [hk])), (by (with_reducible repeat (first | apply sq_A | apply sq_N | apply sq_D)); exact Kd.R_mono zl.out (fun _ hk => by simp [hk])), (by (with_reducible repeat (first | apply sq_A | apply sq_N | apply sq_D)); exact Kd.R_mono zb.out (fun _ hk => by simp [hk])), (by (with_reducible repeat (first | apply sq_A | apply sq_N | apply sq_D)); exact Kd.R_mono zc.out (fun _ hk => by simp [hk])), (by (with_reducible repeat (first | apply sq_A | apply sq_N | apply sq_D)); exact Kd.R_mono zd.out (fun _ hk => by simp [hk])), (by (with_reducible repeat (first | apply sq_A | apply sq_N | apply sq_D)); exact Kd.R_mono ze.out (fun _ hk => by simp [hk])), (by (with_reducible repeat (first | refine blk_drewN ?_ _ | refine blk_drew ?_ | refine blk_alloc ?_ _)); exact za.out), (by with_reducible repeat (first | exact HB.out | apply sq_b | apply sq_n | apply sq_d | refine below_set ?_ zx.out))⟩)
                 ·skip
                  (have hcv49 := own_string (P := Try.prog) Try.underlying22 Try.underlying5 Try.underlying9 (Kd.own_of_R zab.out); have hcv49d := fun n_ : Nat => own_string (P := Try.prog) Try.underlying22 Try.underlying5 Try.underlying9 (Kd.own_of_R (sq_N zab.out n_)))
                  refine value_ (w1 := ?_) (v := ?_) (by rfl) rfl ?_ ?_
                  rotate_left 2
                  ·go_simp
                   constructor
                   ·rfl
                   ·rfl
                  clear hcv49 hcv49d
                  refine hK.out _ _ ⟨(blk_cell za.out 0).trans rfl, (blk_cell za.out 1).trans rfl, (blk_cell za.out 2).trans rfl, (blk_cell za.out 3).trans rfl⟩ (fun hHeld => ?_)
                  clear hK K
                  refine norm_ (a' := ?_) ?_ ?_
                  rotate_left
                  ·show Act.put _ (some 65) _ = _
                   simp only [Act.put, sq_a1, sq_a2, sq_a3, i64_w, i32_w]
                   rfl
                  refine one_ (i := 3) (N := some 61) mk6 rfl rfl (one_of HT_.out (by kernel_rfl)) (by decide) (fun K hK => ?_)
                  (have hcv50 := own_string (P := Try.prog) Try.underlying22 Try.underlying5 Try.underlying9 (Kd.own_of_R zc.out); have hcv50d := fun n_ : Nat => own_string (P := Try.prog) Try.underlying22 Try.underlying5 Try.underlying9 (Kd.own_of_R (sq_N zc.out n_)))
                  refine value_ (w1 := ?_) (v := ?_) (by rfl) rfl ?_ ?_
                  rotate_left 2
                  ·go_simp
                   constructor
                   ·rfl
                   ·rfl
                  clear hcv50 hcv50d
                  refine hK.out _ _ ⟨(blk_cell za.out 0).trans rfl, (blk_cell za.out 1).trans rfl, (blk_cell za.out 2).trans rfl, (blk_cell za.out 3).trans rfl⟩ (fun hHeld => ?_)
                  clear hK K
                  refine norm_ (a' := ?_) ?_ ?_
                  rotate_left
                  ·show Act.put _ (some 61) _ = _
                   simp only [Act.put, sq_a1, sq_a2, sq_a3, i64_w, i32_w]
                   rfl
                  exact norm_ (by simp only [putAll, Act.put, sq_a1, sq_a2, sq_a3]) (hCont (zaf) _ ⟨hHeld, (by (with_reducible repeat (first | apply sq_A | apply sq_N | apply sq_D)); exact Kd.R_mono zab.out (fun _ hk => by simp [hk])), (by (with_reducible repeat (first | apply sq_A | apply sq_N | apply sq_D)); exact Kd.R_mono zl.out (fun _ hk => by simp [hk])), (by (with_reducible repeat (first | apply sq_A | apply sq_N | apply sq_D)); exact Kd.R_mono zb.out (fun _ hk => by simp [hk])), (by (with_reducible repeat (first | apply sq_A | apply sq_N | apply sq_D)); exact Kd.R_mono zc.out (fun _ hk => by simp [hk])), (by (with_reducible repeat (first | apply sq_A | apply sq_N | apply sq_D)); exact Kd.R_mono zd.out (fun _ hk => by simp [hk])), (by (with_reducible repeat (first | apply sq_A | apply sq_N | apply sq_D)); exact Kd.R_mono ze.out (fun _ hk => by simp [hk])), (by (with_reducible repeat (first | refine blk_drewN ?_ _ | refine blk_drew ?_ | refine blk_alloc ?_ _)); exact za.out), (by with_reducible repeat (first | exact HB.out | apply sq_b | apply sq_n | apply sq_d | refine below_set ?_ zx.out))⟩)
               rintro zaf w51 ⟨hS_, h0_, h1_, h2_, h3_, h4_, h5_, h6_, h7_⟩
               have n0_ : Aside0 (Kd.R (Kd.int .u8) 5 w51 w.heap.size (fun k_ => some k_ ≠ (.slice zu zg.length zv : Value).ownBlock ∧ some k_ ≠ (.slice zm zh.length zn : Value).ownBlock ∧ some k_ ≠ (.slice zo zi.length zp : Value).ownBlock ∧ some k_ ≠ (.slice zq zj.length zr : Value).ownBlock ∧ some k_ ≠ (.slice zs zk.length zt : Value).ownBlock) zaf t201) := ⟨h0_⟩
               have n1_ : Aside0 (Kd.R (Kd.int .u8) 5 w51 w.heap.size (fun k_ => some k_ ≠ (zaf : Value).ownBlock ∧ some k_ ≠ (.slice zm zh.length zn : Value).ownBlock ∧ some k_ ≠ (.slice zo zi.length zp : Value).ownBlock ∧ some k_ ≠ (.slice zq zj.length zr : Value).ownBlock ∧ some k_ ≠ (.slice zs zk.length zt : Value).ownBlock) (.slice zu zg.length zv) zg) := ⟨h1_⟩
               have n2_ : Aside0 (Kd.R (Kd.int .u8) 5 w51 w.heap.size (fun k_ => some k_ ≠ (zaf : Value).ownBlock ∧ some k_ ≠ (.slice zu zg.length zv : Value).ownBlock ∧ some k_ ≠ (.slice zo zi.length zp : Value).ownBlock ∧ some k_ ≠ (.slice zq zj.length zr : Value).ownBlock ∧ some k_ ≠ (.slice zs zk.length zt : Value).ownBlock) (.slice zm zh.length zn) zh) := ⟨h2_⟩
               have n3_ : Aside0 (Kd.R (Kd.int .u8) 5 w51 w.heap.size (fun k_ => some k_ ≠ (zaf : Value).ownBlock ∧ some k_ ≠ (.slice zu zg.length zv : Value).ownBlock ∧ some k_ ≠ (.slice zm zh.length zn : Value).ownBlock ∧ some k_ ≠ (.slice zq zj.length zr : Value).ownBlock ∧ some k_ ≠ (.slice zs zk.length zt : Value).ownBlock) (.slice zo zi.length zp) zi) := ⟨h3_⟩
               have n4_ : Aside0 (Kd.R (Kd.int .u8) 5 w51 w.heap.size (fun k_ => some k_ ≠ (zaf : Value).ownBlock ∧ some k_ ≠ (.slice zu zg.length zv : Value).ownBlock ∧ some k_ ≠ (.slice zm zh.length zn : Value).ownBlock ∧ some k_ ≠ (.slice zo zi.length zp : Value).ownBlock ∧ some k_ ≠ (.slice zs zk.length zt : Value).ownBlock) (.slice zq zj.length zr) zj) := ⟨h4_⟩
               have n5_ : Aside0 (Kd.R (Kd.int .u8) 5 w51 w.heap.size (fun k_ => some k_ ≠ (zaf : Value).ownBlock ∧ some k_ ≠ (.slice zu zg.length zv : Value).ownBlock ∧ some k_ ≠ (.slice zm zh.length zn : Value).ownBlock ∧ some k_ ≠ (.slice zo zi.length zp : Value).ownBlock ∧ some k_ ≠ (.slice zq zj.length zr : Value).ownBlock) (.slice zs zk.length zt) zk) := ⟨h5_⟩
               have n6_ : Aside0 (w51.heap[zf]? = some (.cells #[.slice zm zh.length zn, .slice zo zi.length zp, .slice zq zj.length zr, .slice zs zk.length zt] 23 (0, 0))) := ⟨h6_⟩
               have n7_ : Aside0 (Below w.heap.size w w51) := ⟨h7_⟩
               clear zl
               clear zb
               clear zc
               clear zd
               clear ze
               clear za
               clear HB
               clear h0_ h1_ h2_ h3_ h4_ h5_ h6_ h7_
               have zab := n0_
               have zl := n1_
               have zb := n2_
               have zc := n3_
               have zd := n4_
               have ze := n5_
               have za := n6_
               have HB := n7_
               clear n0_ n1_ n2_ n3_ n4_ n5_ n6_ n7_
               have hHeld : w51.cell? ⟨zf, 0, none⟩ = some (.slice zm zh.length zn) ∧ w51.cell? ⟨zf, 1, none⟩ = some (.slice zo zi.length zp) ∧ w51.cell? ⟨zf, 2, none⟩ = some (.slice zq zj.length zr) ∧ w51.cell? ⟨zf, 3, none⟩ = some (.slice zs zk.length zt) := hS_
               refine norm_ (a' := ?_) ?_ ?_
               rotate_left
               ·simp only [putAll, Act.put, sq_a1, sq_a2, sq_a3]
                rfl
               refine pure_ (i := 8) (N := some 66) (v := ?_) (a' := ?_) mk11 rfl rfl (any_of HT_.out (by kernel_rfl)) (fun _ _ _ h => h) (Or.inl ⟨by rfl, ?_⟩) ?_ ?_; rotate_left; (intro w'; go_simp; with_reducible rfl); rotate_left; (simp only [Act.put, sq_a1, sq_a2, sq_a3, i64_w, i32_w]; rfl)
               refine done_ (done_of HT_.out (by kernel_rfl)) ?_
               try go_wp2
               go_roundg k2
               case measure => have := HJ6.out; have := HK2.out; omega
               case rel => exact ⟨(1 + 1), (by first | rfl | (simp; done) | (simp [*]; done)), H', ⟨by have := HJ6.out; have := HK2.out; omega⟩, ⟨by (with_reducible repeat (first | apply sq_A | apply sq_N | apply sq_D)); exact Kd.R_mono zl.out (fun _ hk => by simp [hk])⟩, ⟨by (with_reducible repeat (first | apply sq_A | apply sq_N | apply sq_D)); exact Kd.R_mono zb.out (fun _ hk => by simp [hk])⟩, ⟨by (with_reducible repeat (first | apply sq_A | apply sq_N | apply sq_D)); exact Kd.R_mono zc.out (fun _ hk => by simp [hk])⟩, ⟨by (with_reducible repeat (first | apply sq_A | apply sq_N | apply sq_D)); exact Kd.R_mono zd.out (fun _ hk => by simp [hk])⟩, ⟨by (with_reducible repeat (first | apply sq_A | apply sq_N | apply sq_D)); exact Kd.R_mono ze.out (fun _ hk => by simp [hk])⟩, ⟨by (with_reducible repeat (first | refine blk_drewN ?_ _ | refine blk_drew ?_ | refine blk_alloc ?_ _)); exact za.out⟩, ⟨by with_reducible repeat (first | exact HB.out | apply sq_b | apply sq_n | apply sq_d | refine below_set ?_ zx.out)⟩⟩
              ·rw [if_neg c46] at H
               have c46b0 : ((strOfNums zi).toList == (strOfNums t201).toList) = false := beq_eq_false_iff_ne.mpr c46
               have c46b1 : ((strOfNums zi).toList != (strOfNums t201).toList) = true := bne_iff_ne.mpr c46
               obtain rfl := Option.some.inj H
               try go_wp2
               have n0_ := sq_m (sq_D zl.out)
               have n1_ := sq_m (sq_D zb.out)
               have n2_ := sq_m (sq_D zc.out)
               have n3_ := sq_m (sq_D zd.out)
               have n4_ := sq_m (sq_D ze.out)
               have n5_ := sq_m (blk_drew za.out)
               have n6_ := sq_m (sq_d HB.out)
               clear zl
               clear zb
               clear zc
               clear zd
               clear ze
               clear za
               clear HB
               have zl := n0_
               have zb := n1_
               have zc := n2_
               have zd := n3_
               have ze := n4_
               have za := n5_
               have HB := n6_
               clear n0_ n1_ n2_ n3_ n4_ n5_ n6_
               refine start_ (n := 9) (S := fun w' => w'.cell? ⟨zf, 0, none⟩ = some (.slice zm zh.length zn) ∧ w'.cell? ⟨zf, 1, none⟩ = some (.slice zo zi.length zp) ∧ w'.cell? ⟨zf, 2, none⟩ = some (.slice zq zj.length zr) ∧ w'.cell? ⟨zf, 3, none⟩ = some (.slice zs zk.length zt)) (ds := []) mk0 (by kernel_rfl) rfl rfl ⟨(blk_cell za.out 0).trans rfl, (blk_cell za.out 1).trans rfl, (blk_cell za.out 2).trans rfl, (blk_cell za.out 3).trans rfl⟩ (fun hHeld => ?_); refine with_tabW shuttlelaw11_VersionSplits.tab13 shuttlelaw11_VersionSplits.bits13 (fun HT_ HW_ => ?_)
               generalize wr.drew = w52 at zl zb zc zd ze za HB hHeld ⊢
               refine pure_ (i := 0) (N := some 58) (v := ?_) (a' := ?_) mk1 rfl rfl (any_of HT_.out (by kernel_rfl)) (fun _ _ _ h => h) (Or.inl ⟨by rfl, ?_⟩) ?_ ?_; rotate_left; (intro w'; go_simp; with_reducible rfl); rotate_left; (simp only [Act.put, sq_a1, sq_a2, sq_a3, i64_w, i32_w]; rfl)
               refine pure_ (i := 1) (N := some 59) (v := ?_) (a' := ?_) mk2 rfl rfl (any_of HT_.out (by kernel_rfl)) (fun _ _ _ h => h) (Or.inl ⟨by rfl, ?_⟩) ?_ ?_; rotate_left; (intro w'; go_simp; with_reducible rfl); rotate_left; (simp only [Act.put, sq_a1, sq_a2, sq_a3, i64_w, i32_w]; rfl)
               refine pure_ (i := 4) (N := some 62) (v := ?_) (a' := ?_) mk3 rfl rfl (any_of HT_.out (by kernel_rfl)) (fun _ _ _ h => h) (Or.inl ⟨by rfl, ?_⟩) ?_ ?_; rotate_left; (intro w'; go_simp; with_reducible rfl); rotate_left; (simp only [Act.put, sq_a1, sq_a2, sq_a3, i64_w, i32_w]; rfl)
               refine pure_ (i := 5) (N := some 63) (v := ?_) (a' := ?_) mk4 rfl rfl (any_of HT_.out (by kernel_rfl)) (fun _ _ _ h => h) (Or.inl ⟨by rfl, ?_⟩) ?_ ?_; rotate_left; (intro w'; go_simp; with_reducible rfl); rotate_left; (simp only [Act.put, sq_a1, sq_a2, sq_a3, i64_w, i32_w]; rfl)
               refine take_ (i := 2) (N := some 60) (v := ?_) (a' := ?_) mk5 rfl rfl (take_ofW HT_.out HW_.out (by kernel_rfl)) (fun _ _ _ h => h) (Or.inl ⟨by rfl, ?_⟩) hHeld ?_ ?_
               rotate_left
               ·rintro w' ⟨s0, s1, s2, s3⟩
                go_simp
                with_reducible rfl
               rotate_left
               ·simp only [Act.put, sq_a1, sq_a2, sq_a3, i64_w, i32_w]
                rfl
               refine join_ (σ := Value) 1 mk6 (fun s_ => [(61, .string (strOfNums zi)), (64, s_), (65, .string (strOfNums t201))]) (fun s_ w' => (w'.cell? ⟨zf, 0, none⟩ = some (.slice zm zh.length zn) ∧ w'.cell? ⟨zf, 1, none⟩ = some (.slice zo zi.length zp) ∧ w'.cell? ⟨zf, 2, none⟩ = some (.slice zq zj.length zr) ∧ w'.cell? ⟨zf, 3, none⟩ = some (.slice zs zk.length zt)) ∧ (Kd.R (Kd.int .u8) 5 w' w.heap.size (fun k_ => some k_ ≠ (.slice zu zg.length zv : Value).ownBlock ∧ some k_ ≠ (.slice zm zh.length zn : Value).ownBlock ∧ some k_ ≠ (.slice zo zi.length zp : Value).ownBlock ∧ some k_ ≠ (.slice zq zj.length zr : Value).ownBlock ∧ some k_ ≠ (.slice zs zk.length zt : Value).ownBlock) s_ t201) ∧ (Kd.R (Kd.int .u8) 5 w' w.heap.size (fun k_ => some k_ ≠ (s_ : Value).ownBlock ∧ some k_ ≠ (.slice zm zh.length zn : Value).ownBlock ∧ some k_ ≠ (.slice zo zi.length zp : Value).ownBlock ∧ some k_ ≠ (.slice zq zj.length zr : Value).ownBlock ∧ some k_ ≠ (.slice zs zk.length zt : Value).ownBlock) (.slice zu zg.length zv) zg) ∧ (Kd.R (Kd.int .u8) 5 w' w.heap.size (fun k_ => some k_ ≠ (s_ : Value).ownBlock ∧ some k_ ≠ (.slice zu zg.length zv : Value).ownBlock ∧ some k_ ≠ (.slice zo zi.length zp : Value).ownBlock ∧ some k_ ≠ (.slice zq zj.length zr : Value).ownBlock ∧ some k_ ≠ (.slice zs zk.length zt : Value).ownBlock) (.slice zm zh.length zn) zh) ∧ (Kd.R (Kd.int .u8) 5 w' w.heap.size (fun k_ => some k_ ≠ (s_ : Value).ownBlock ∧ some k_ ≠ (.slice zu zg.length zv : Value).ownBlock ∧ some k_ ≠ (.slice zm zh.length zn : Value).ownBlock ∧ some k_ ≠ (.slice zq zj.length zr : Value).ownBlock ∧ some k_ ≠ (.slice zs zk.length zt : Value).ownBlock) (.slice zo zi.length zp) zi) ∧ (Kd.R (Kd.int .u8) 5 w' w.heap.size (fun k_ => some k_ ≠ (s_ : Value).ownBlock ∧ some k_ ≠ (.slice zu zg.length zv : Value).ownBlock ∧ some k_ ≠ (.slice zm zh.length zn : Value).ownBlock ∧ some k_ ≠ (.slice zo zi.length zp : Value).ownBlock ∧ some k_ ≠ (.slice zs zk.length zt : Value).ownBlock) (.slice zq zj.length zr) zj) ∧ (Kd.R (Kd.int .u8) 5 w' w.heap.size (fun k_ => some k_ ≠ (s_ : Value).ownBlock ∧ some k_ ≠ (.slice zu zg.length zv : Value).ownBlock ∧ some k_ ≠ (.slice zm zh.length zn : Value).ownBlock ∧ some k_ ≠ (.slice zo zi.length zp : Value).ownBlock ∧ some k_ ≠ (.slice zq zj.length zr : Value).ownBlock) (.slice zs zk.length zt) zk) ∧ (w'.heap[zf]? = some (.cells #[.slice zm zh.length zn, .slice zo zi.length zp, .slice zq zj.length zr, .slice zs zk.length zt] 23 (0, 0))) ∧ (Below w.heap.size w w')) ?_ ?_
               rotate_left
               ·intro hCont
                refine two_ (i := 3) (j := 6) (Ni := some 61) (Nj := some 64) mk7 mk8 rfl rfl rfl rfl (two_of HT_.out (by kernel_rfl)) (by decide) (by decide) (fun K hK => ?_) (fun K hK => ?_)
                ·skip
                 (have hcv53 := own_string (P := Try.prog) Try.underlying22 Try.underlying5 Try.underlying9 (Kd.own_of_R zc.out); have hcv53d := fun n_ : Nat => own_string (P := Try.prog) Try.underlying22 Try.underlying5 Try.underlying9 (Kd.own_of_R (sq_N zc.out n_)))
                 refine value_ (w1 := ?_) (v := ?_) (by rfl) rfl ?_ ?_
                 rotate_left 2
                 ·go_simp
                  constructor
                  ·rfl
                  ·rfl
                 clear hcv53 hcv53d
                 refine hK.out _ _ ⟨(blk_cell za.out 0).trans rfl, (blk_cell za.out 1).trans rfl, (blk_cell za.out 2).trans rfl, (blk_cell za.out 3).trans rfl⟩ (fun hHeld => ?_)
                 clear hK K
                 refine norm_ (a' := ?_) ?_ ?_
                 rotate_left
                 ·show Act.put _ (some 61) _ = _
                  simp only [Act.put, sq_a1, sq_a2, sq_a3, i64_w, i32_w]
                  rfl
                 refine one_ (i := 6) (N := some 64) mk9 rfl rfl (one_of HT_.out (by kernel_rfl)) (by decide) (fun K hK => ?_)
                 refine goes_ Try.func11 (by kernel_rfl) rfl #[.slice zu zg.length zv, .int .i64 1] (by rfl) rfl rfl (by (try simp only [List.map_toArray, List.map_cons, List.map_nil]); first | done | rfl | (simp only [List.length_drop, List.length_take]; rfl)) ?_
                 with_reducible refine (shuttleref10_Pick.calls k2 _ _ zg 1 t201 _ ?side1 ?side2 A45.out).mono ?_
                 (case side1 => repeat (first | exact (Kd.R_reads' zl.out).2.2 | (with_reducible refine Kd.C_alloc ?_ _) | (with_reducible refine Kd.C_drewN ?_ _) | (with_reducible refine Kd.C_drew ?_)))
                 (case side2 => exact (Kd.R_reads' zl.out).2.1)
                 rintro e w54 ⟨zaf, rfl, zw, hb⟩
                 refine ⟨_, rfl, ?_⟩
                 have n0_ := sq_m (Kd.R_elder' (sq_R zl.out) (Kd.R_base zw) hb)
                 have n1_ := sq_m (Kd.R_elder' (sq_R zb.out) (Kd.R_base zw) hb)
                 have n2_ := sq_m (Kd.R_elder' (sq_R zc.out) (Kd.R_base zw) hb)
                 have n3_ := sq_m (Kd.R_elder' (sq_R zd.out) (Kd.R_base zw) hb)
                 have n4_ := sq_m (Kd.R_elder' (sq_R ze.out) (Kd.R_base zw) hb)
                 have n5_ := sq_m (Kd.R_lower (Kd.R_new' (Kd.R_new' (Kd.R_new' (Kd.R_new' (Kd.R_new' zw (Kd.R_lt (sq_R zl.out))) (Kd.R_lt (sq_R zb.out))) (Kd.R_lt (sq_R zc.out))) (Kd.R_lt (sq_R zd.out))) (Kd.R_lt (sq_R ze.out))) (below_size (by with_reducible repeat (first | exact HB.out | apply sq_b | apply sq_n | apply sq_d | refine below_set ?_ zx.out))))
                 have n6_ := sq_m (blk_below (g := zf) (o := .cells #[.slice zm zh.length zn, .slice zo zi.length zp, .slice zq zj.length zr, .slice zs zk.length zt] 23 (0, 0)) (by (with_reducible repeat (first | refine blk_drewN ?_ _ | refine blk_drew ?_ | refine blk_alloc ?_ _)); exact za.out) hb)
                 have n7_ := sq_m (below_step (by with_reducible repeat (first | exact HB.out | apply sq_b | apply sq_n | apply sq_d | refine below_set ?_ zx.out)) hb)
                 clear zl
                 clear zb
                 clear zc
                 clear zd
                 clear ze
                 clear za
                 clear HB
                 have zl := n0_
                 have zb := n1_
                 have zc := n2_
                 have zd := n3_
                 have ze := n4_
                 have zab := n5_
                 have za := n6_
                 have HB := n7_
                 clear n0_ n1_ n2_ n3_ n4_ n5_ n6_ n7_
                 (try clear hb)
                 (try clear hb2)
                 (try clear hk)
                 (try clear hi)
                 (try clear zw)
                 refine hK.out _ _ ⟨(blk_cell za.out 0).trans rfl, (blk_cell za.out 1).trans rfl, (blk_cell za.out 2).trans rfl, (blk_cell za.out 3).trans rfl⟩ (fun hHeld => ?_)
                 clear hK K
                 refine norm_ (a' := ?_) ?_ ?_
                 rotate_left
                 ·show Act.put _ (some 64) _ = _
                  simp only [Act.put, sq_a1, sq_a2, sq_a3, i64_w, i32_w]
                  rfl
                 refine one_ (i := 7) (N := some 65) mk6 rfl rfl (one_of HT_.out (by kernel_rfl)) (by decide) (fun K hK => ?_)
                 (have hcv55 := own_string (P := Try.prog) Try.underlying22 Try.underlying5 Try.underlying9 (Kd.own_of_R zab.out); have hcv55d := fun n_ : Nat => own_string (P := Try.prog) Try.underlying22 Try.underlying5 Try.underlying9 (Kd.own_of_R (sq_N zab.out n_)))
                 refine value_ (w1 := ?_) (v := ?_) (by rfl) rfl ?_ ?_
                 rotate_left 2
                 ·go_simp
                  constructor
                  ·rfl
                  ·rfl
                 clear hcv55 hcv55d
                 refine hK.out _ _ ⟨(blk_cell za.out 0).trans rfl, (blk_cell za.out 1).trans rfl, (blk_cell za.out 2).trans rfl, (blk_cell za.out 3).trans rfl⟩ (fun hHeld => ?_)
                 clear hK K
                 refine norm_ (a' := ?_) ?_ ?_
                 rotate_left
                 ·show Act.put _ (some 65) _ = _
                  simp only [Act.put, sq_a1, sq_a2, sq_a3, i64_w, i32_w]
                  rfl
                 exact norm_ (by simp only [putAll, Act.put, sq_a1, sq_a2, sq_a3]) (hCont (zaf) _ ⟨hHeld, (by (with_reducible repeat (first | apply sq_A | apply sq_N | apply sq_D)); exact Kd.R_mono zab.out (fun _ hk => by simp [hk])), (by (with_reducible repeat (first | apply sq_A | apply sq_N | apply sq_D)); exact Kd.R_mono zl.out (fun _ hk => by simp [hk])), (by (with_reducible repeat (first | apply sq_A | apply sq_N | apply sq_D)); exact Kd.R_mono zb.out (fun _ hk => by simp [hk])), (by (with_reducible repeat (first | apply sq_A | apply sq_N | apply sq_D)); exact Kd.R_mono zc.out (fun _ hk => by simp [hk])), (by (with_reducible repeat (first | apply sq_A | apply sq_N | apply sq_D)); exact Kd.R_mono zd.out (fun _ hk => by simp [hk])), (by (with_reducible repeat (first | apply sq_A | apply sq_N | apply sq_D)); exact Kd.R_mono ze.out (fun _ hk => by simp [hk])), (by (with_reducible repeat (first | refine blk_drewN ?_ _ | refine blk_drew ?_ | refine blk_alloc ?_ _)); exact za.out), (by with_reducible repeat (first | exact HB.out | apply sq_b | apply sq_n | apply sq_d | refine below_set ?_ zx.out))⟩)
                ·skip
                 refine goes_ Try.func11 (by kernel_rfl) rfl #[.slice zu zg.length zv, .int .i64 1] (by rfl) rfl rfl (by (try simp only [List.map_toArray, List.map_cons, List.map_nil]); first | done | rfl | (simp only [List.length_drop, List.length_take]; rfl)) ?_
                 with_reducible refine (shuttleref10_Pick.calls k2 _ _ zg 1 t201 _ ?side1 ?side2 A45.out).mono ?_
                 (case side1 => repeat (first | exact (Kd.R_reads' zl.out).2.2 | (with_reducible refine Kd.C_alloc ?_ _) | (with_reducible refine Kd.C_drewN ?_ _) | (with_reducible refine Kd.C_drew ?_)))
                 (case side2 => exact (Kd.R_reads' zl.out).2.1)
                 rintro e w53 ⟨zaf, rfl, zw, hb⟩
                 refine ⟨_, rfl, ?_⟩
                 have n0_ := sq_m (Kd.R_elder' (sq_R zl.out) (Kd.R_base zw) hb)
                 have n1_ := sq_m (Kd.R_elder' (sq_R zb.out) (Kd.R_base zw) hb)
                 have n2_ := sq_m (Kd.R_elder' (sq_R zc.out) (Kd.R_base zw) hb)
                 have n3_ := sq_m (Kd.R_elder' (sq_R zd.out) (Kd.R_base zw) hb)
                 have n4_ := sq_m (Kd.R_elder' (sq_R ze.out) (Kd.R_base zw) hb)
                 have n5_ := sq_m (Kd.R_lower (Kd.R_new' (Kd.R_new' (Kd.R_new' (Kd.R_new' (Kd.R_new' zw (Kd.R_lt (sq_R zl.out))) (Kd.R_lt (sq_R zb.out))) (Kd.R_lt (sq_R zc.out))) (Kd.R_lt (sq_R zd.out))) (Kd.R_lt (sq_R ze.out))) (below_size (by with_reducible repeat (first | exact HB.out | apply sq_b | apply sq_n | apply sq_d | refine below_set ?_ zx.out))))
                 have n6_ := sq_m (blk_below (g := zf) (o := .cells #[.slice zm zh.length zn, .slice zo zi.length zp, .slice zq zj.length zr, .slice zs zk.length zt] 23 (0, 0)) (by (with_reducible repeat (first | refine blk_drewN ?_ _ | refine blk_drew ?_ | refine blk_alloc ?_ _)); exact za.out) hb)
                 have n7_ := sq_m (below_step (by with_reducible repeat (first | exact HB.out | apply sq_b | apply sq_n | apply sq_d | refine below_set ?_ zx.out)) hb)
                 clear zl
                 clear zb
                 clear zc
                 clear zd
                 clear ze
                 clear za
                 clear HB
                 have zl := n0_
                 have zb := n1_
                 have zc := n2_
                 have zd := n3_
                 have ze := n4_
                 have zab := n5_
                 have za := n6_
                 have HB := n7_
                 clear n0_ n1_ n2_ n3_ n4_ n5_ n6_ n7_
                 (try clear hb)
                 (try clear hb2)
                 (try clear hk)
                 (try clear hi)
                 (try clear zw)
                 refine hK.out _ _ ⟨(blk_cell za.out 0).trans rfl, (blk_cell za.out 1).trans rfl, (blk_cell za.out 2).trans rfl, (blk_cell za.out 3).trans rfl⟩ (fun hHeld => ?_)
                 clear hK K
                 refine norm_ (a' := ?_) ?_ ?_
                 rotate_left
                 ·show Act.put _ (some 64) _ = _
                  simp only [Act.put, sq_a1, sq_a2, sq_a3, i64_w, i32_w]
                  rfl
                 refine two_ (i := 3) (j := 7) (Ni := some 61) (Nj := some 65) mk9 mk10 rfl rfl rfl rfl (two_of HT_.out (by kernel_rfl)) (by decide) (by decide) (fun K hK => ?_) (fun K hK => ?_)
                 ·skip
                  (have hcv54 := own_string (P := Try.prog) Try.underlying22 Try.underlying5 Try.underlying9 (Kd.own_of_R zc.out); have hcv54d := fun n_ : Nat => own_string (P := Try.prog) Try.underlying22 Try.underlying5 Try.underlying9 (Kd.own_of_R (sq_N zc.out n_)))
                  refine value_ (w1 := ?_) (v := ?_) (by rfl) rfl ?_ ?_
                  rotate_left 2
                  ·go_simp
                   constructor
                   ·rfl
                   ·rfl
                  clear hcv54 hcv54d
                  refine hK.out _ _ ⟨(blk_cell za.out 0).trans rfl, (blk_cell za.out 1).trans rfl, (blk_cell za.out 2).trans rfl, (blk_cell za.out 3).trans rfl⟩ (fun hHeld => ?_)
                  clear hK K
                  refine norm_ (a' := ?_) ?_ ?_
                  rotate_left
                  ·show Act.put _ (some 61) _ = _
                   simp only [Act.put, sq_a1, sq_a2, sq_a3, i64_w, i32_w]
                   rfl
                  refine one_ (i := 7) (N := some 65) mk6 rfl rfl (one_of HT_.out (by kernel_rfl)) (by decide) (fun K hK => ?_)
                  (have hcv55 := own_string (P := Try.prog) Try.underlying22 Try.underlying5 Try.underlying9 (Kd.own_of_R zab.out); have hcv55d := fun n_ : Nat => own_string (P := Try.prog) Try.underlying22 Try.underlying5 Try.underlying9 (Kd.own_of_R (sq_N zab.out n_)))
                  refine value_ (w1 := ?_) (v := ?_) (by rfl) rfl ?_ ?_
                  rotate_left 2
                  ·go_simp
                   constructor
                   ·rfl
                   ·rfl
                  clear hcv55 hcv55d
                  refine hK.out _ _ ⟨(blk_cell za.out 0).trans rfl, (blk_cell za.out 1).trans rfl, (blk_cell za.out 2).trans rfl, (blk_cell za.out 3).trans rfl⟩ (fun hHeld => ?_)
                  clear hK K
                  refine norm_ (a' := ?_) ?_ ?_
                  rotate_left
                  ·show Act.put _ (some 65) _ = _
                   simp only [Act.put, sq_a1, sq_a2, sq_a3, i64_w, i32_w]
                   rfl
                  exact norm_ (by simp only [putAll, Act.put, sq_a1, sq_a2, sq_a3]) (hCont (zaf) _ ⟨hHeld, (by (with_reducible repeat (first | apply sq_A | apply sq_N | apply sq_D)); exact Kd.R_mono zab.out (fun _ hk => by simp [hk])), (by (with_reducible repeat (first | apply sq_A | apply sq_N | apply sq_D)); exact Kd.R_mono zl.out (fun _ hk => by simp [hk])), (by (with_reducible repeat (first | apply sq_A | apply sq_N | apply sq_D)); exact Kd.R_mono zb.out (fun _ hk => by simp [hk])), (by (with_reducible repeat (first | apply sq_A | apply sq_N | apply sq_D)); exact Kd.R_mono zc.out (fun _ hk => by simp [hk])), (by (with_reducible repeat (first | apply sq_A | apply sq_N | apply sq_D)); exact Kd.R_mono zd.out (fun _ hk => by simp [hk])), (by (with_reducible repeat (first | apply sq_A | apply sq_N | apply sq_D)); exact Kd.R_mono ze.out (fun _ hk => by simp [hk])), (by (with_reducible repeat (first | refine blk_drewN ?_ _ | refine blk_drew ?_ | refine blk_alloc ?_ _)); exact za.out), (by with_reducible repeat (first | exact HB.out | apply sq_b | apply sq_n | apply sq_d | refine below_set ?_ zx.out))⟩)
                 ·skip
                  (have hcv54 := own_string (P := Try.prog) Try.underlying22 Try.underlying5 Try.underlying9 (Kd.own_of_R zab.out); have hcv54d := fun n_ : Nat => own_string (P := Try.prog) Try.underlying22 Try.underlying5 Try.underlying9 (Kd.own_of_R (sq_N zab.out n_)))
                  refine value_ (w1 := ?_) (v := ?_) (by rfl) rfl ?_ ?_
                  rotate_left 2
                  ·go_simp
                   constructor
                   ·rfl
                   ·rfl
                  clear hcv54 hcv54d
                  refine hK.out _ _ ⟨(blk_cell za.out 0).trans rfl, (blk_cell za.out 1).trans rfl, (blk_cell za.out 2).trans rfl, (blk_cell za.out 3).trans rfl⟩ (fun hHeld => ?_)
                  clear hK K
                  refine norm_ (a' := ?_) ?_ ?_
                  rotate_left
                  ·show Act.put _ (some 65) _ = _
                   simp only [Act.put, sq_a1, sq_a2, sq_a3, i64_w, i32_w]
                   rfl
                  refine one_ (i := 3) (N := some 61) mk6 rfl rfl (one_of HT_.out (by kernel_rfl)) (by decide) (fun K hK => ?_)
                  (have hcv55 := own_string (P := Try.prog) Try.underlying22 Try.underlying5 Try.underlying9 (Kd.own_of_R zc.out); have hcv55d := fun n_ : Nat => own_string (P := Try.prog) Try.underlying22 Try.underlying5 Try.underlying9 (Kd.own_of_R (sq_N zc.out n_)))
                  refine value_ (w1 := ?_) (v := ?_) (by rfl) rfl ?_ ?_
                  rotate_left 2
                  ·go_simp
                   constructor
                   ·rfl
                   ·rfl
                  clear hcv55 hcv55d
                  refine hK.out _ _ ⟨(blk_cell za.out 0).trans rfl, (blk_cell za.out 1).trans rfl, (blk_cell za.out 2).trans rfl, (blk_cell za.out 3).trans rfl⟩ (fun hHeld => ?_)
                  clear hK K
                  refine norm_ (a' := ?_) ?_ ?_
                  rotate_left
                  ·show Act.put _ (some 61) _ = _
                   simp only [Act.put, sq_a1, sq_a2, sq_a3, i64_w, i32_w]
                   rfl
                  exact norm_ (by simp only [putAll, Act.put, sq_a1, sq_a2, sq_a3]) (hCont (zaf) _ ⟨hHeld, (by (with_reducible repeat (first | apply sq_A | apply sq_N | apply sq_D)); exact Kd.R_mono zab.out (fun _ hk => by simp [hk])), (by (with_reducible repeat (first | apply sq_A | apply sq_N | apply sq_D)); exact Kd.R_mono zl.out (fun _ hk => by simp [hk])), (by (with_reducible repeat (first | apply sq_A | apply sq_N | apply sq_D)); exact Kd.R_mono zb.out (fun _ hk => by simp [hk])), (by (with_reducible repeat (first | apply sq_A | apply sq_N | apply sq_D)); exact Kd.R_mono zc.out (fun _ hk => by simp [hk])), (by (with_reducible repeat (first | apply sq_A | apply sq_N | apply sq_D)); exact Kd.R_mono zd.out (fun _ hk => by simp [hk])), (by (with_reducible repeat (first | apply sq_A | apply sq_N | apply sq_D)); exact Kd.R_mono ze.out (fun _ hk => by simp [hk])), (by (with_reducible repeat (first | refine blk_drewN ?_ _ | refine blk_drew ?_ | refine blk_alloc ?_ _)); exact za.out), (by with_reducible repeat (first | exact HB.out | apply sq_b | apply sq_n | apply sq_d | refine below_set ?_ zx.out))⟩)
               rintro zaf w56 ⟨hS_, h0_, h1_, h2_, h3_, h4_, h5_, h6_, h7_⟩
               have n0_ : Aside0 (Kd.R (Kd.int .u8) 5 w56 w.heap.size (fun k_ => some k_ ≠ (.slice zu zg.length zv : Value).ownBlock ∧ some k_ ≠ (.slice zm zh.length zn : Value).ownBlock ∧ some k_ ≠ (.slice zo zi.length zp : Value).ownBlock ∧ some k_ ≠ (.slice zq zj.length zr : Value).ownBlock ∧ some k_ ≠ (.slice zs zk.length zt : Value).ownBlock) zaf t201) := ⟨h0_⟩
               have n1_ : Aside0 (Kd.R (Kd.int .u8) 5 w56 w.heap.size (fun k_ => some k_ ≠ (zaf : Value).ownBlock ∧ some k_ ≠ (.slice zm zh.length zn : Value).ownBlock ∧ some k_ ≠ (.slice zo zi.length zp : Value).ownBlock ∧ some k_ ≠ (.slice zq zj.length zr : Value).ownBlock ∧ some k_ ≠ (.slice zs zk.length zt : Value).ownBlock) (.slice zu zg.length zv) zg) := ⟨h1_⟩
               have n2_ : Aside0 (Kd.R (Kd.int .u8) 5 w56 w.heap.size (fun k_ => some k_ ≠ (zaf : Value).ownBlock ∧ some k_ ≠ (.slice zu zg.length zv : Value).ownBlock ∧ some k_ ≠ (.slice zo zi.length zp : Value).ownBlock ∧ some k_ ≠ (.slice zq zj.length zr : Value).ownBlock ∧ some k_ ≠ (.slice zs zk.length zt : Value).ownBlock) (.slice zm zh.length zn) zh) := ⟨h2_⟩
               have n3_ : Aside0 (Kd.R (Kd.int .u8) 5 w56 w.heap.size (fun k_ => some k_ ≠ (zaf : Value).ownBlock ∧ some k_ ≠ (.slice zu zg.length zv : Value).ownBlock ∧ some k_ ≠ (.slice zm zh.length zn : Value).ownBlock ∧ some k_ ≠ (.slice zq zj.length zr : Value).ownBlock ∧ some k_ ≠ (.slice zs zk.length zt : Value).ownBlock) (.slice zo zi.length zp) zi) := ⟨h3_⟩
               have n4_ : Aside0 (Kd.R (Kd.int .u8) 5 w56 w.heap.size (fun k_ => some k_ ≠ (zaf : Value).ownBlock ∧ some k_ ≠ (.slice zu zg.length zv : Value).ownBlock ∧ some k_ ≠ (.slice zm zh.length zn : Value).ownBlock ∧ some k_ ≠ (.slice zo zi.length zp : Value).ownBlock ∧ some k_ ≠ (.slice zs zk.length zt : Value).ownBlock) (.slice zq zj.length zr) zj) := ⟨h4_⟩
               have n5_ : Aside0 (Kd.R (Kd.int .u8) 5 w56 w.heap.size (fun k_ => some k_ ≠ (zaf : Value).ownBlock ∧ some k_ ≠ (.slice zu zg.length zv : Value).ownBlock ∧ some k_ ≠ (.slice zm zh.length zn : Value).ownBlock ∧ some k_ ≠ (.slice zo zi.length zp : Value).ownBlock ∧ some k_ ≠ (.slice zq zj.length zr : Value).ownBlock) (.slice zs zk.length zt) zk) := ⟨h5_⟩
               have n6_ : Aside0 (w56.heap[zf]? = some (.cells #[.slice zm zh.length zn, .slice zo zi.length zp, .slice zq zj.length zr, .slice zs zk.length zt] 23 (0, 0))) := ⟨h6_⟩
               have n7_ : Aside0 (Below w.heap.size w w56) := ⟨h7_⟩
               clear zl
               clear zb
               clear zc
               clear zd
               clear ze
               clear za
               clear HB
               clear h0_ h1_ h2_ h3_ h4_ h5_ h6_ h7_
               have zab := n0_
               have zl := n1_
               have zb := n2_
               have zc := n3_
               have zd := n4_
               have ze := n5_
               have za := n6_
               have HB := n7_
               clear n0_ n1_ n2_ n3_ n4_ n5_ n6_ n7_
               have hHeld : w56.cell? ⟨zf, 0, none⟩ = some (.slice zm zh.length zn) ∧ w56.cell? ⟨zf, 1, none⟩ = some (.slice zo zi.length zp) ∧ w56.cell? ⟨zf, 2, none⟩ = some (.slice zq zj.length zr) ∧ w56.cell? ⟨zf, 3, none⟩ = some (.slice zs zk.length zt) := hS_
               refine norm_ (a' := ?_) ?_ ?_
               rotate_left
               ·simp only [putAll, Act.put, sq_a1, sq_a2, sq_a3]
                rfl
               refine pure_ (i := 8) (N := some 66) (v := ?_) (a' := ?_) mk11 rfl rfl (any_of HT_.out (by kernel_rfl)) (fun _ _ _ h => h) (Or.inl ⟨by rfl, ?_⟩) ?_ ?_; rotate_left; (intro w'; go_simp; with_reducible rfl); rotate_left; (simp only [Act.put, sq_a1, sq_a2, sq_a3, i64_w, i32_w]; rfl)
               refine done_ (done_of HT_.out (by kernel_rfl)) ?_
               try go_wp2
               go_ret
               exact ⟨by first | rfl | (simp [errW_none, errW_some] <;> rfl) | (simp only [← hji2]; first | rfl | (simp [errW_none, errW_some] <;> rfl)) | (simp [*, errW_none, errW_some] <;> rfl), by with_reducible repeat (first | exact HB.out | apply sq_b | apply sq_n | apply sq_d | refine below_set ?_ zx.out)⟩
             ·rw [if_neg c44] at H
              clear c44
              by_cases c57 : x6_2 = 2
              ·rw [if_pos c57] at H
               subst c57
               replace H := Option.bind_eq_some_iff.mp H
               obtain ⟨t198, A580, H⟩ := H
               replace H : (if (strOfNums zj).toList = (strOfNums t198).toList then (shuttlelaw11_VersionSplits.l0 k2 zg (strOfNums zg) zy (2 + 1) zh zi zj zk) else (some false)) = some r := H
               have A58 := sq_m A580
               clear A580
               by_cases c59 : (strOfNums zj).toList = (strOfNums t198).toList
               ·rw [if_pos c59] at H
                have c59b0 : ((strOfNums zj).toList == (strOfNums t198).toList) = true := beq_iff_eq.mpr c59
                have c59b1 : ((strOfNums zj).toList != (strOfNums t198).toList) = false := bne_eq_false_iff_eq.mpr c59
                clear c59
                have H' := sq_m H
                clear H
                try go_wp2
                have n0_ := sq_m (sq_D zl.out)
                have n1_ := sq_m (sq_D zb.out)
                have n2_ := sq_m (sq_D zc.out)
                have n3_ := sq_m (sq_D zd.out)
                have n4_ := sq_m (sq_D ze.out)
                have n5_ := sq_m (blk_drew za.out)
                have n6_ := sq_m (sq_d HB.out)
                clear zl
                clear zb
                clear zc
                clear zd
                clear ze
                clear za
                clear HB
                have zl := n0_
                have zb := n1_
                have zc := n2_
                have zd := n3_
                have ze := n4_
                have za := n5_
                have HB := n6_
                clear n0_ n1_ n2_ n3_ n4_ n5_ n6_
                refine start_ (n := 9) (S := fun w' => w'.cell? ⟨zf, 0, none⟩ = some (.slice zm zh.length zn) ∧ w'.cell? ⟨zf, 1, none⟩ = some (.slice zo zi.length zp) ∧ w'.cell? ⟨zf, 2, none⟩ = some (.slice zq zj.length zr) ∧ w'.cell? ⟨zf, 3, none⟩ = some (.slice zs zk.length zt)) (ds := []) mk0 (by kernel_rfl) rfl rfl ⟨(blk_cell za.out 0).trans rfl, (blk_cell za.out 1).trans rfl, (blk_cell za.out 2).trans rfl, (blk_cell za.out 3).trans rfl⟩ (fun hHeld => ?_); refine with_tabW shuttlelaw11_VersionSplits.tab13 shuttlelaw11_VersionSplits.bits13 (fun HT_ HW_ => ?_)
                generalize wr.drew = w60 at zl zb zc zd ze za HB hHeld ⊢
                refine pure_ (i := 0) (N := some 58) (v := ?_) (a' := ?_) mk1 rfl rfl (any_of HT_.out (by kernel_rfl)) (fun _ _ _ h => h) (Or.inl ⟨by rfl, ?_⟩) ?_ ?_; rotate_left; (intro w'; go_simp; with_reducible rfl); rotate_left; (simp only [Act.put, sq_a1, sq_a2, sq_a3, i64_w, i32_w]; rfl)
                refine pure_ (i := 1) (N := some 59) (v := ?_) (a' := ?_) mk2 rfl rfl (any_of HT_.out (by kernel_rfl)) (fun _ _ _ h => h) (Or.inl ⟨by rfl, ?_⟩) ?_ ?_; rotate_left; (intro w'; go_simp; with_reducible rfl); rotate_left; (simp only [Act.put, sq_a1, sq_a2, sq_a3, i64_w, i32_w]; rfl)
                refine pure_ (i := 4) (N := some 62) (v := ?_) (a' := ?_) mk3 rfl rfl (any_of HT_.out (by kernel_rfl)) (fun _ _ _ h => h) (Or.inl ⟨by rfl, ?_⟩) ?_ ?_; rotate_left; (intro w'; go_simp; with_reducible rfl); rotate_left; (simp only [Act.put, sq_a1, sq_a2, sq_a3, i64_w, i32_w]; rfl)
                refine pure_ (i := 5) (N := some 63) (v := ?_) (a' := ?_) mk4 rfl rfl (any_of HT_.out (by kernel_rfl)) (fun _ _ _ h => h) (Or.inl ⟨by rfl, ?_⟩) ?_ ?_; rotate_left; (intro w'; go_simp; with_reducible rfl); rotate_left; (simp only [Act.put, sq_a1, sq_a2, sq_a3, i64_w, i32_w]; rfl)
                refine take_ (i := 2) (N := some 60) (v := ?_) (a' := ?_) mk5 rfl rfl (take_ofW HT_.out HW_.out (by kernel_rfl)) (fun _ _ _ h => h) (Or.inl ⟨by rfl, ?_⟩) hHeld ?_ ?_
                rotate_left
                ·rintro w' ⟨s0, s1, s2, s3⟩
                 go_simp
                 with_reducible rfl
                rotate_left
                ·simp only [Act.put, sq_a1, sq_a2, sq_a3, i64_w, i32_w]
                 rfl
                refine join_ (σ := Value) 1 mk6 (fun s_ => [(61, .string (strOfNums zj)), (64, s_), (65, .string (strOfNums t198))]) (fun s_ w' => (w'.cell? ⟨zf, 0, none⟩ = some (.slice zm zh.length zn) ∧ w'.cell? ⟨zf, 1, none⟩ = some (.slice zo zi.length zp) ∧ w'.cell? ⟨zf, 2, none⟩ = some (.slice zq zj.length zr) ∧ w'.cell? ⟨zf, 3, none⟩ = some (.slice zs zk.length zt)) ∧ (Kd.R (Kd.int .u8) 5 w' w.heap.size (fun k_ => some k_ ≠ (.slice zu zg.length zv : Value).ownBlock ∧ some k_ ≠ (.slice zm zh.length zn : Value).ownBlock ∧ some k_ ≠ (.slice zo zi.length zp : Value).ownBlock ∧ some k_ ≠ (.slice zq zj.length zr : Value).ownBlock ∧ some k_ ≠ (.slice zs zk.length zt : Value).ownBlock) s_ t198) ∧ (Kd.R (Kd.int .u8) 5 w' w.heap.size (fun k_ => some k_ ≠ (s_ : Value).ownBlock ∧ some k_ ≠ (.slice zm zh.length zn : Value).ownBlock ∧ some k_ ≠ (.slice zo zi.length zp : Value).ownBlock ∧ some k_ ≠ (.slice zq zj.length zr : Value).ownBlock ∧ some k_ ≠ (.slice zs zk.length zt : Value).ownBlock) (.slice zu zg.length zv) zg) ∧ (Kd.R (Kd.int .u8) 5 w' w.heap.size (fun k_ => some k_ ≠ (s_ : Value).ownBlock ∧ some k_ ≠ (.slice zu zg.length zv : Value).ownBlock ∧ some k_ ≠ (.slice zo zi.length zp : Value).ownBlock ∧ some k_ ≠ (.slice zq zj.length zr : Value).ownBlock ∧ some k_ ≠ (.slice zs zk.length zt : Value).ownBlock) (.slice zm zh.length zn) zh) ∧ (Kd.R (Kd.int .u8) 5 w' w.heap.size (fun k_ => some k_ ≠ (s_ : Value).ownBlock ∧ some k_ ≠ (.slice zu zg.length zv : Value).ownBlock ∧ some k_ ≠ (.slice zm zh.length zn : Value).ownBlock ∧ some k_ ≠ (.slice zq zj.length zr : Value).ownBlock ∧ some k_ ≠ (.slice zs zk.length zt : Value).ownBlock) (.slice zo zi.length zp) zi) ∧ (Kd.R (Kd.int .u8) 5 w' w.heap.size (fun k_ => some k_ ≠ (s_ : Value).ownBlock ∧ some k_ ≠ (.slice zu zg.length zv : Value).ownBlock ∧ some k_ ≠ (.slice zm zh.length zn : Value).ownBlock ∧ some k_ ≠ (.slice zo zi.length zp : Value).ownBlock ∧ some k_ ≠ (.slice zs zk.length zt : Value).ownBlock) (.slice zq zj.length zr) zj) ∧ (Kd.R (Kd.int .u8) 5 w' w.heap.size (fun k_ => some k_ ≠ (s_ : Value).ownBlock ∧ some k_ ≠ (.slice zu zg.length zv : Value).ownBlock ∧ some k_ ≠ (.slice zm zh.length zn : Value).ownBlock ∧ some k_ ≠ (.slice zo zi.length zp : Value).ownBlock ∧ some k_ ≠ (.slice zq zj.length zr : Value).ownBlock) (.slice zs zk.length zt) zk) ∧ (w'.heap[zf]? = some (.cells #[.slice zm zh.length zn, .slice zo zi.length zp, .slice zq zj.length zr, .slice zs zk.length zt] 23 (0, 0))) ∧ (Below w.heap.size w w')) ?_ ?_
                rotate_left
                ·intro hCont
                 refine two_ (i := 3) (j := 6) (Ni := some 61) (Nj := some 64) mk7 mk8 rfl rfl rfl rfl (two_of HT_.out (by kernel_rfl)) (by decide) (by decide) (fun K hK => ?_) (fun K hK => ?_)
                 ·skip
                  (have hcv61 := own_string (P := Try.prog) Try.underlying22 Try.underlying5 Try.underlying9 (Kd.own_of_R zd.out); have hcv61d := fun n_ : Nat => own_string (P := Try.prog) Try.underlying22 Try.underlying5 Try.underlying9 (Kd.own_of_R (sq_N zd.out n_)))
                  refine value_ (w1 := ?_) (v := ?_) (by rfl) rfl ?_ ?_
                  rotate_left 2
                  ·go_simp
                   constructor
                   ·rfl
                   ·rfl
                  clear hcv61 hcv61d
                  refine hK.out _ _ ⟨(blk_cell za.out 0).trans rfl, (blk_cell za.out 1).trans rfl, (blk_cell za.out 2).trans rfl, (blk_cell za.out 3).trans rfl⟩ (fun hHeld => ?_)
                  clear hK K
                  refine norm_ (a' := ?_) ?_ ?_
                  rotate_left
                  ·show Act.put _ (some 61) _ = _
                   simp only [Act.put, sq_a1, sq_a2, sq_a3, i64_w, i32_w]
                   rfl
                  refine one_ (i := 6) (N := some 64) mk9 rfl rfl (one_of HT_.out (by kernel_rfl)) (by decide) (fun K hK => ?_)
                  refine goes_ Try.func11 (by kernel_rfl) rfl #[.slice zu zg.length zv, .int .i64 2] (by rfl) rfl rfl (by (try simp only [List.map_toArray, List.map_cons, List.map_nil]); first | done | rfl | (simp only [List.length_drop, List.length_take]; rfl)) ?_
                  with_reducible refine (shuttleref10_Pick.calls k2 _ _ zg 2 t198 _ ?side1 ?side2 A58.out).mono ?_
                  (case side1 => repeat (first | exact (Kd.R_reads' zl.out).2.2 | (with_reducible refine Kd.C_alloc ?_ _) | (with_reducible refine Kd.C_drewN ?_ _) | (with_reducible refine Kd.C_drew ?_)))
                  (case side2 => exact (Kd.R_reads' zl.out).2.1)
                  rintro e w62 ⟨zag, rfl, zw, hb⟩
                  refine ⟨_, rfl, ?_⟩
                  have n0_ := sq_m (Kd.R_elder' (sq_R zl.out) (Kd.R_base zw) hb)
                  have n1_ := sq_m (Kd.R_elder' (sq_R zb.out) (Kd.R_base zw) hb)
                  have n2_ := sq_m (Kd.R_elder' (sq_R zc.out) (Kd.R_base zw) hb)
                  have n3_ := sq_m (Kd.R_elder' (sq_R zd.out) (Kd.R_base zw) hb)
                  have n4_ := sq_m (Kd.R_elder' (sq_R ze.out) (Kd.R_base zw) hb)
                  have n5_ := sq_m (Kd.R_lower (Kd.R_new' (Kd.R_new' (Kd.R_new' (Kd.R_new' (Kd.R_new' zw (Kd.R_lt (sq_R zl.out))) (Kd.R_lt (sq_R zb.out))) (Kd.R_lt (sq_R zc.out))) (Kd.R_lt (sq_R zd.out))) (Kd.R_lt (sq_R ze.out))) (below_size (by with_reducible repeat (first | exact HB.out | apply sq_b | apply sq_n | apply sq_d | refine below_set ?_ zx.out))))
                  have n6_ := sq_m (blk_below (g := zf) (o := .cells #[.slice zm zh.length zn, .slice zo zi.length zp, .slice zq zj.length zr, .slice zs zk.length zt] 23 (0, 0)) (by (with_reducible repeat (first | refine blk_drewN ?_ _ | refine blk_drew ?_ | refine blk_alloc ?_ _)); exact za.out) hb)
                  have n7_ := sq_m (below_step (by with_reducible repeat (first | exact HB.out | apply sq_b | apply sq_n | apply sq_d | refine below_set ?_ zx.out)) hb)
                  clear zl
                  clear zb
                  clear zc
                  clear zd
                  clear ze
                  clear za
                  clear HB
                  have zl := n0_
                  have zb := n1_
                  have zc := n2_
                  have zd := n3_
                  have ze := n4_
                  have zac := n5_
                  have za := n6_
                  have HB := n7_
                  clear n0_ n1_ n2_ n3_ n4_ n5_ n6_ n7_
                  (try clear hb)
                  (try clear hb2)
                  (try clear hk)
                  (try clear hi)
                  (try clear zw)
                  refine hK.out _ _ ⟨(blk_cell za.out 0).trans rfl, (blk_cell za.out 1).trans rfl, (blk_cell za.out 2).trans rfl, (blk_cell za.out 3).trans rfl⟩ (fun hHeld => ?_)
                  clear hK K
                  refine norm_ (a' := ?_) ?_ ?_
                  rotate_left
                  ·show Act.put _ (some 64) _ = _
                   simp only [Act.put, sq_a1, sq_a2, sq_a3, i64_w, i32_w]
                   rfl
                  refine one_ (i := 7) (N := some 65) mk6 rfl rfl (one_of HT_.out (by kernel_rfl)) (by decide) (fun K hK => ?_)
                  (have hcv63 := own_string (P := Try.prog) Try.underlying22 Try.underlying5 Try.underlying9 (Kd.own_of_R zac.out); have hcv63d := fun n_ : Nat => own_string (P := Try.prog) Try.underlying22 Try.underlying5 Try.underlying9 (Kd.own_of_R (sq_N zac.out n_)))
                  refine value_ (w1 := ?_) (v := ?_) (by rfl) rfl ?_ ?_
                  rotate_left 2
                  ·go_simp
                   constructor
                   ·rfl
                   ·rfl
                  clear hcv63 hcv63d
                  refine hK.out _ _ ⟨(blk_cell za.out 0).trans rfl, (blk_cell za.out 1).trans rfl, (blk_cell za.out 2).trans rfl, (blk_cell za.out 3).trans rfl⟩ (fun hHeld => ?_)
                  clear hK K
                  refine norm_ (a' := ?_) ?_ ?_
                  rotate_left
                  ·show Act.put _ (some 65) _ = _
                   simp only [Act.put, sq_a1, sq_a2, sq_a3, i64_w, i32_w]
                   rfl
                  exact norm_ (by simp only [putAll, Act.put, sq_a1, sq_a2, sq_a3]) (hCont (zag) _ ⟨hHeld, (by (with_reducible repeat (first | apply sq_A | apply sq_N | apply sq_D)); exact Kd.R_mono zac.out (fun _ hk => by simp [hk])), (by (with_reducible repeat (first | apply sq_A | apply sq_N | apply sq_D)); exact Kd.R_mono zl.out (fun _ hk => by simp [hk])), (by (with_reducible repeat (first | apply sq_A | apply sq_N | apply sq_D)); exact Kd.R_mono zb.out (fun _ hk => by simp [hk])), (by (with_reducible repeat (first | apply sq_A | apply sq_N | apply sq_D)); exact Kd.R_mono zc.out (fun _ hk => by simp [hk])), (by (with_reducible repeat (first | apply sq_A | apply sq_N | apply sq_D)); exact Kd.R_mono zd.out (fun _ hk => by simp [hk])), (by (with_reducible repeat (first | apply sq_A | apply sq_N | apply sq_D)); exact Kd.R_mono ze.out (fun _ hk => by simp [hk])), (by (with_reducible repeat (first | refine blk_drewN ?_ _ | refine blk_drew ?_ | refine blk_alloc ?_ _)); exact za.out), (by with_reducible repeat (first | exact HB.out | apply sq_b | apply sq_n | apply sq_d | refine below_set ?_ zx.out))⟩)
                 ·skip
                  refine goes_ Try.func11 (by kernel_rfl) rfl #[.slice zu zg.length zv, .int .i64 2] (by rfl) rfl rfl (by (try simp only [List.map_toArray, List.map_cons, List.map_nil]); first | done | rfl | (simp only [List.length_drop, List.length_take]; rfl)) ?_
                  with_reducible refine (shuttleref10_Pick.calls k2 _ _ zg 2 t198 _ ?side1 ?side2 A58.out).mono ?_
                  (case side1 => repeat (first | exact (Kd.R_reads' zl.out).2.2 | (with_reducible refine Kd.C_alloc ?_ _) | (with_reducible refine Kd.C_drewN ?_ _) | (with_reducible refine Kd.C_drew ?_)))
                  (case side2 => exact (Kd.R_reads' zl.out).2.1)
                  rintro e w61 ⟨zag, rfl, zw, hb⟩
                  refine ⟨_, rfl, ?_⟩
                  have n0_ := sq_m (Kd.R_elder' (sq_R zl.out) (Kd.R_base zw) hb)
                  have n1_ := sq_m (Kd.R_elder' (sq_R zb.out) (Kd.R_base zw) hb)
                  have n2_ := sq_m (Kd.R_elder' (sq_R zc.out) (Kd.R_base zw) hb)
                  have n3_ := sq_m (Kd.R_elder' (sq_R zd.out) (Kd.R_base zw) hb)
                  have n4_ := sq_m (Kd.R_elder' (sq_R ze.out) (Kd.R_base zw) hb)
                  have n5_ := sq_m (Kd.R_lower (Kd.R_new' (Kd.R_new' (Kd.R_new' (Kd.R_new' (Kd.R_new' zw (Kd.R_lt (sq_R zl.out))) (Kd.R_lt (sq_R zb.out))) (Kd.R_lt (sq_R zc.out))) (Kd.R_lt (sq_R zd.out))) (Kd.R_lt (sq_R ze.out))) (below_size (by with_reducible repeat (first | exact HB.out | apply sq_b | apply sq_n | apply sq_d | refine below_set ?_ zx.out))))
                  have n6_ := sq_m (blk_below (g := zf) (o := .cells #[.slice zm zh.length zn, .slice zo zi.length zp, .slice zq zj.length zr, .slice zs zk.length zt] 23 (0, 0)) (by (with_reducible repeat (first | refine blk_drewN ?_ _ | refine blk_drew ?_ | refine blk_alloc ?_ _)); exact za.out) hb)
                  have n7_ := sq_m (below_step (by with_reducible repeat (first | exact HB.out | apply sq_b | apply sq_n | apply sq_d | refine below_set ?_ zx.out)) hb)
                  clear zl
                  clear zb
                  clear zc
                  clear zd
                  clear ze
                  clear za
                  clear HB
                  have zl := n0_
                  have zb := n1_
                  have zc := n2_
                  have zd := n3_
                  have ze := n4_
                  have zac := n5_
                  have za := n6_
                  have HB := n7_
                  clear n0_ n1_ n2_ n3_ n4_ n5_ n6_ n7_
                  (try clear hb)
                  (try clear hb2)
                  (try clear hk)
                  (try clear hi)
                  (try clear zw)
                  refine hK.out _ _ ⟨(blk_cell za.out 0).trans rfl, (blk_cell za.out 1).trans rfl, (blk_cell za.out 2).trans rfl, (blk_cell za.out 3).trans rfl⟩ (fun hHeld => ?_)
                  clear hK K
                  refine norm_ (a' := ?_) ?_ ?_
                  rotate_left
                  ·show Act.put _ (some 64) _ = _
                   simp only [Act.put, sq_a1, sq_a2, sq_a3, i64_w, i32_w]
                   rfl
                  refine two_ (i := 3) (j := 7) (Ni := some 61) (Nj := some 65) mk9 mk10 rfl rfl rfl rfl (two_of HT_.out (by kernel_rfl)) (by decide) (by decide) (fun K hK => ?_) (fun K hK => ?_)
                  ·skip
                   (have hcv62 := own_string (P := Try.prog) Try.underlying22 Try.underlying5 Try.underlying9 (Kd.own_of_R zd.out); have hcv62d := fun n_ : Nat => own_string (P := Try.prog) Try.underlying22 Try.underlying5 Try.underlying9 (Kd.own_of_R (sq_N zd.out n_)))
                   refine value_ (w1 := ?_) (v := ?_) (by rfl) rfl ?_ ?_
                   rotate_left 2
                   ·go_simp
                    constructor
                    ·rfl
                    ·rfl
                   clear hcv62 hcv62d
                   refine hK.out _ _ ⟨(blk_cell za.out 0).trans rfl, (blk_cell za.out 1).trans rfl, (blk_cell za.out 2).trans rfl, (blk_cell za.out 3).trans rfl⟩ (fun hHeld => ?_)
                   clear hK K
                   refine norm_ (a' := ?_) ?_ ?_
                   rotate_left
                   ·show Act.put _ (some 61) _ = _
                    simp only [Act.put, sq_a1, sq_a2, sq_a3, i64_w, i32_w]
                    rfl
                   refine one_ (i := 7) (N := some 65) mk6 rfl rfl (one_of HT_.out (by kernel_rfl)) (by decide) (fun K hK => ?_)
                   (have hcv63 := own_string (P := Try.prog) Try.underlying22 Try.underlying5 Try.underlying9 (Kd.own_of_R zac.out); have hcv63d := fun n_ : Nat => own_string (P := Try.prog) Try.underlying22 Try.underlying5 Try.underlying9 (Kd.own_of_R (sq_N zac.out n_)))
                   refine value_ (w1 := ?_) (v := ?_) (by rfl) rfl ?_ ?_
                   rotate_left 2
                   ·go_simp
                    constructor
                    ·rfl
                    ·rfl
                   clear hcv63 hcv63d
                   refine hK.out _ _ ⟨(blk_cell za.out 0).trans rfl, (blk_cell za.out 1).trans rfl, (blk_cell za.out 2).trans rfl, (blk_cell za.out 3).trans rfl⟩ (fun hHeld => ?_)
                   clear hK K
                   refine norm_ (a' := ?_) ?_ ?_
                   rotate_left
                   ·show Act.put _ (some 65) _ = _
                    simp only [Act.put, sq_a1, sq_a2, sq_a3, i64_w, i32_w]
                    rfl
                   exact norm_ (by simp only [putAll, Act.put, sq_a1, sq_a2, sq_a3]) (hCont (zag) _ ⟨hHeld, (by (with_reducible repeat (first | apply sq_A | apply sq_N | apply sq_D)); exact Kd.R_mono zac.out (fun _ hk => by simp [hk])), (by (with_reducible repeat (first | apply sq_A | apply sq_N | apply sq_D)); exact Kd.R_mono zl.out (fun _ hk => by simp [hk])), (by (with_reducible repeat (first | apply sq_A | apply sq_N | apply sq_D)); exact Kd.R_mono zb.out (fun _ hk => by simp [hk])), (by (with_reducible repeat (first | apply sq_A | apply sq_N | apply sq_D)); exact Kd.R_mono zc.out (fun _ hk => by simp [hk])), (by (with_reducible repeat (first | apply sq_A | apply sq_N | apply sq_D)); exact Kd.R_mono zd.out (fun _ hk => by simp [hk])), (by (with_reducible repeat (first | apply sq_A | apply sq_N | apply sq_D)); exact Kd.R_mono ze.out (fun _ hk => by simp [hk])), (by (with_reducible repeat (first | refine blk_drewN ?_ _ | refine blk_drew ?_ | refine blk_alloc ?_ _)); exact za.out), (by with_reducible repeat (first | exact HB.out | apply sq_b | apply sq_n | apply sq_d | refine below_set ?_ zx.out))⟩)
                  ·skip
                   (have hcv62 := own_string (P := Try.prog) Try.underlying22 Try.underlying5 Try.underlying9 (Kd.own_of_R zac.out); have hcv62d := fun n_ : Nat => own_string (P := Try.prog) Try.underlying22 Try.underlying5 Try.underlying9 (Kd.own_of_R (sq_N zac.out n_)))
                   refine value_ (w1 := ?_) (v := ?_) (by rfl) rfl ?_ ?_
                   rotate_left 2
                   ·go_simp
                    constructor
                    ·rfl
                    ·rfl
                   clear hcv62 hcv62d
                   refine hK.out _ _ ⟨(blk_cell za.out 0).trans rfl, (blk_cell za.out 1).trans rfl, (blk_cell za.out 2).trans rfl, (blk_cell za.out 3).trans rfl⟩ (fun hHeld => ?_)
                   clear hK K
                   refine norm_ (a' := ?_) ?_ ?_
                   rotate_left
                   ·show Act.put _ (some 65) _ = _
                    simp only [Act.put, sq_a1, sq_a2, sq_a3, i64_w, i32_w]
                    rfl
                   refine one_ (i := 3) (N := some 61) mk6 rfl rfl (one_of HT_.out (by kernel_rfl)) (by decide) (fun K hK => ?_)
                   (have hcv63 := own_string (P := Try.prog) Try.underlying22 Try.underlying5 Try.underlying9 (Kd.own_of_R zd.out); have hcv63d := fun n_ : Nat => own_string (P := Try.prog) Try.underlying22 Try.underlying5 Try.underlying9 (Kd.own_of_R (sq_N zd.out n_)))
                   refine value_ (w1 := ?_) (v := ?_) (by rfl) rfl ?_ ?_
                   rotate_left 2
                   ·go_simp
                    constructor
                    ·rfl
                    ·rfl
                   clear hcv63 hcv63d
                   refine hK.out _ _ ⟨(blk_cell za.out 0).trans rfl, (blk_cell za.out 1).trans rfl, (blk_cell za.out 2).trans rfl, (blk_cell za.out 3).trans rfl⟩ (fun hHeld => ?_)
                   clear hK K
                   refine norm_ (a' := ?_) ?_ ?_
                   rotate_left
                   ·show Act.put _ (some 61) _ = _
                    simp only [Act.put, sq_a1, sq_a2, sq_a3, i64_w, i32_w]
                    rfl
                   exact norm_ (by simp only [putAll, Act.put, sq_a1, sq_a2, sq_a3]) (hCont (zag) _ ⟨hHeld, (by (with_reducible repeat (first | apply sq_A | apply sq_N | apply sq_D)); exact Kd.R_mono zac.out (fun _ hk => by simp [hk])), (by (with_reducible repeat (first | apply sq_A | apply sq_N | apply sq_D)); exact Kd.R_mono zl.out (fun _ hk => by simp [hk])), (by (with_reducible repeat (first | apply sq_A | apply sq_N | apply sq_D)); exact Kd.R_mono zb.out (fun _ hk => by simp [hk])), (by (with_reducible repeat (first | apply sq_A | apply sq_N | apply sq_D)); exact Kd.R_mono zc.out (fun _ hk => by simp [hk])), (by (with_reducible repeat (first | apply sq_A | apply sq_N | apply sq_D)); exact Kd.R_mono zd.out (fun _ hk => by simp [hk])), (by (with_reducible repeat (first | apply sq_A | apply sq_N | apply sq_D)); exact Kd.R_mono ze.out (fun _ hk => by simp [hk])), (by (with_reducible repeat (first | refine blk_drewN ?_ _ | refine blk_drew ?_ | refine blk_alloc ?_ _)); exact za.out), (by with_reducible repeat (first | exact HB.out | apply sq_b | apply sq_n | apply sq_d | refine below_set ?_ zx.out))⟩)
                rintro zag w64 ⟨hS_, h0_, h1_, h2_, h3_, h4_, h5_, h6_, h7_⟩
                have n0_ : Aside0 (Kd.R (Kd.int .u8) 5 w64 w.heap.size (fun k_ => some k_ ≠ (.slice zu zg.length zv : Value).ownBlock ∧ some k_ ≠ (.slice zm zh.length zn : Value).ownBlock ∧ some k_ ≠ (.slice zo zi.length zp : Value).ownBlock ∧ some k_ ≠ (.slice zq zj.length zr : Value).ownBlock ∧ some k_ ≠ (.slice zs zk.length zt : Value).ownBlock) zag t198) := ⟨h0_⟩
                have n1_ : Aside0 (Kd.R (Kd.int .u8) 5 w64 w.heap.size (fun k_ => some k_ ≠ (zag : Value).ownBlock ∧ some k_ ≠ (.slice zm zh.length zn : Value).ownBlock ∧ some k_ ≠ (.slice zo zi.length zp : Value).ownBlock ∧ some k_ ≠ (.slice zq zj.length zr : Value).ownBlock ∧ some k_ ≠ (.slice zs zk.length zt : Value).ownBlock) (.slice zu zg.length zv) zg) := ⟨h1_⟩
                have n2_ : Aside0 (Kd.R (Kd.int .u8) 5 w64 w.heap.size (fun k_ => some k_ ≠ (zag : Value).ownBlock ∧ some k_ ≠ (.slice zu zg.length zv : Value).ownBlock ∧ some k_ ≠ (.slice zo zi.length zp : Value).ownBlock ∧ some k_ ≠ (.slice zq zj.length zr : Value).ownBlock ∧ some k_ ≠ (.slice zs zk.length zt : Value).ownBlock) (.slice zm zh.length zn) zh) := ⟨h2_⟩
                have n3_ : Aside0 (Kd.R (Kd.int .u8) 5 w64 w.heap.size (fun k_ => some k_ ≠ (zag : Value).ownBlock ∧ some k_ ≠ (.slice zu zg.length zv : Value).ownBlock ∧ some k_ ≠ (.slice zm zh.length zn : Value).ownBlock ∧ some k_ ≠ (.slice zq zj.length zr : Value).ownBlock ∧ some k_ ≠ (.slice zs zk.length zt : Value).ownBlock) (.slice zo zi.length zp) zi) := ⟨h3_⟩
                have n4_ : Aside0 (Kd.R (Kd.int .u8) 5 w64 w.heap.size (fun k_ => some k_ ≠ (zag : Value).ownBlock ∧ some k_ ≠ (.slice zu zg.length zv : Value).ownBlock ∧ some k_ ≠ (.slice zm zh.length zn : Value).ownBlock ∧ some k_ ≠ (.slice zo zi.length zp : Value).ownBlock ∧ some k_ ≠ (.slice zs zk.length zt : Value).ownBlock) (.slice zq zj.length zr) zj) := ⟨h4_⟩
                have n5_ : Aside0 (Kd.R (Kd.int .u8) 5 w64 w.heap.size (fun k_ => some k_ ≠ (zag : Value).ownBlock ∧ some k_ ≠ (.slice zu zg.length zv : Value).ownBlock ∧ some k_ ≠ (.slice zm zh.length zn : Value).ownBlock ∧ some k_ ≠ (.slice zo zi.length zp : Value).ownBlock ∧ some k_ ≠ (.slice zq zj.length zr : Value).ownBlock) (.slice zs zk.length zt) zk) := ⟨h5_⟩
                have n6_ : Aside0 (w64.heap[zf]? = some (.cells #[.slice zm zh.length zn, .slice zo zi.length zp, .slice zq zj.length zr, .slice zs zk.length zt] 23 (0, 0))) := ⟨h6_⟩
                have n7_ : Aside0 (Below w.heap.size w w64) := ⟨h7_⟩
                clear zl
                clear zb
                clear zc
                clear zd
                clear ze
                clear za
                clear HB
                clear h0_ h1_ h2_ h3_ h4_ h5_ h6_ h7_
                have zac := n0_
                have zl := n1_
                have zb := n2_
                have zc := n3_
                have zd := n4_
                have ze := n5_
                have za := n6_
                have HB := n7_
                clear n0_ n1_ n2_ n3_ n4_ n5_ n6_ n7_
                have hHeld : w64.cell? ⟨zf, 0, none⟩ = some (.slice zm zh.length zn) ∧ w64.cell? ⟨zf, 1, none⟩ = some (.slice zo zi.length zp) ∧ w64.cell? ⟨zf, 2, none⟩ = some (.slice zq zj.length zr) ∧ w64.cell? ⟨zf, 3, none⟩ = some (.slice zs zk.length zt) := hS_
                refine norm_ (a' := ?_) ?_ ?_
                rotate_left
                ·simp only [putAll, Act.put, sq_a1, sq_a2, sq_a3]
                 rfl
                refine pure_ (i := 8) (N := some 66) (v := ?_) (a' := ?_) mk11 rfl rfl (any_of HT_.out (by kernel_rfl)) (fun _ _ _ h => h) (Or.inl ⟨by rfl, ?_⟩) ?_ ?_; rotate_left; (intro w'; go_simp; with_reducible rfl); rotate_left; (simp only [Act.put, sq_a1, sq_a2, sq_a3, i64_w, i32_w]; rfl)
                refine done_ (done_of HT_.out (by kernel_rfl)) ?_
                try go_wp2
                go_roundg k2
                case measure => have := HJ6.out; have := HK2.out; omega
                case rel => exact ⟨(2 + 1), (by first | rfl | (simp; done) | (simp [*]; done)), H', ⟨by have := HJ6.out; have := HK2.out; omega⟩, ⟨by (with_reducible repeat (first | apply sq_A | apply sq_N | apply sq_D)); exact Kd.R_mono zl.out (fun _ hk => by simp [hk])⟩, ⟨by (with_reducible repeat (first | apply sq_A | apply sq_N | apply sq_D)); exact Kd.R_mono zb.out (fun _ hk => by simp [hk])⟩, ⟨by (with_reducible repeat (first | apply sq_A | apply sq_N | apply sq_D)); exact Kd.R_mono zc.out (fun _ hk => by simp [hk])⟩, ⟨by (with_reducible repeat (first | apply sq_A | apply sq_N | apply sq_D)); exact Kd.R_mono zd.out (fun _ hk => by simp [hk])⟩, ⟨by (with_reducible repeat (first | apply sq_A | apply sq_N | apply sq_D)); exact Kd.R_mono ze.out (fun _ hk => by simp [hk])⟩, ⟨by (with_reducible repeat (first | refine blk_drewN ?_ _ | refine blk_drew ?_ | refine blk_alloc ?_ _)); exact za.out⟩, ⟨by with_reducible repeat (first | exact HB.out | apply sq_b | apply sq_n | apply sq_d | refine below_set ?_ zx.out)⟩⟩
               ·rw [if_neg c59] at H
                have c59b0 : ((strOfNums zj).toList == (strOfNums t198).toList) = false := beq_eq_false_iff_ne.mpr c59
                have c59b1 : ((strOfNums zj).toList != (strOfNums t198).toList) = true := bne_iff_ne.mpr c59
                obtain rfl := Option.some.inj H
                try go_wp2
                have n0_ := sq_m (sq_D zl.out)
                have n1_ := sq_m (sq_D zb.out)
                have n2_ := sq_m (sq_D zc.out)
                have n3_ := sq_m (sq_D zd.out)
                have n4_ := sq_m (sq_D ze.out)
                have n5_ := sq_m (blk_drew za.out)
                have n6_ := sq_m (sq_d HB.out)
                clear zl
                clear zb
                clear zc
                clear zd
                clear ze
                clear za
                clear HB
                have zl := n0_
                have zb := n1_
                have zc := n2_
                have zd := n3_
                have ze := n4_
                have za := n5_
                have HB := n6_
                clear n0_ n1_ n2_ n3_ n4_ n5_ n6_
                refine start_ (n := 9) (S := fun w' => w'.cell? ⟨zf, 0, none⟩ = some (.slice zm zh.length zn) ∧ w'.cell? ⟨zf, 1, none⟩ = some (.slice zo zi.length zp) ∧ w'.cell? ⟨zf, 2, none⟩ = some (.slice zq zj.length zr) ∧ w'.cell? ⟨zf, 3, none⟩ = some (.slice zs zk.length zt)) (ds := []) mk0 (by kernel_rfl) rfl rfl ⟨(blk_cell za.out 0).trans rfl, (blk_cell za.out 1).trans rfl, (blk_cell za.out 2).trans rfl, (blk_cell za.out 3).trans rfl⟩ (fun hHeld => ?_); refine with_tabW shuttlelaw11_VersionSplits.tab13 shuttlelaw11_VersionSplits.bits13 (fun HT_ HW_ => ?_)
                generalize wr.drew = w65 at zl zb zc zd ze za HB hHeld ⊢
                refine pure_ (i := 0) (N := some 58) (v := ?_) (a' := ?_) mk1 rfl rfl (any_of HT_.out (by kernel_rfl)) (fun _ _ _ h => h) (Or.inl ⟨by rfl, ?_⟩) ?_ ?_; rotate_left; (intro w'; go_simp; with_reducible rfl); rotate_left; (simp only [Act.put, sq_a1, sq_a2, sq_a3, i64_w, i32_w]; rfl)
                refine pure_ (i := 1) (N := some 59) (v := ?_) (a' := ?_) mk2 rfl rfl (any_of HT_.out (by kernel_rfl)) (fun _ _ _ h => h) (Or.inl ⟨by rfl, ?_⟩) ?_ ?_; rotate_left; (intro w'; go_simp; with_reducible rfl); rotate_left; (simp only [Act.put, sq_a1, sq_a2, sq_a3, i64_w, i32_w]; rfl)
                refine pure_ (i := 4) (N := some 62) (v := ?_) (a' := ?_) mk3 rfl rfl (any_of HT_.out (by kernel_rfl)) (fun _ _ _ h => h) (Or.inl ⟨by rfl, ?_⟩) ?_ ?_; rotate_left; (intro w'; go_simp; with_reducible rfl); rotate_left; (simp only [Act.put, sq_a1, sq_a2, sq_a3, i64_w, i32_w]; rfl)
                refine pure_ (i := 5) (N := some 63) (v := ?_) (a' := ?_) mk4 rfl rfl (any_of HT_.out (by kernel_rfl)) (fun _ _ _ h => h) (Or.inl ⟨by rfl, ?_⟩) ?_ ?_; rotate_left; (intro w'; go_simp; with_reducible rfl); rotate_left; (simp only [Act.put, sq_a1, sq_a2, sq_a3, i64_w, i32_w]; rfl)
                refine take_ (i := 2) (N := some 60) (v := ?_) (a' := ?_) mk5 rfl rfl (take_ofW HT_.out HW_.out (by kernel_rfl)) (fun _ _ _ h => h) (Or.inl ⟨by rfl, ?_⟩) hHeld ?_ ?_
                rotate_left
                ·rintro w' ⟨s0, s1, s2, s3⟩
                 go_simp
                 with_reducible rfl
                rotate_left
                ·simp only [Act.put, sq_a1, sq_a2, sq_a3, i64_w, i32_w]
                 rfl
                refine join_ (σ := Value) 1 mk6 (fun s_ => [(61, .string (strOfNums zj)), (64, s_), (65, .string (strOfNums t198))]) (fun s_ w' => (w'.cell? ⟨zf, 0, none⟩ = some (.slice zm zh.length zn) ∧ w'.cell? ⟨zf, 1, none⟩ = some (.slice zo zi.length zp) ∧ w'.cell? ⟨zf, 2, none⟩ = some (.slice zq zj.length zr) ∧ w'.cell? ⟨zf, 3, none⟩ = some (.slice zs zk.length zt)) ∧ (Kd.R (Kd.int .u8) 5 w' w.heap.size (fun k_ => some k_ ≠ (.slice zu zg.length zv : Value).ownBlock ∧ some k_ ≠ (.slice zm zh.length zn : Value).ownBlock ∧ some k_ ≠ (.slice zo zi.length zp : Value).ownBlock ∧ some k_ ≠ (.slice zq zj.length zr : Value).ownBlock ∧ some k_ ≠ (.slice zs zk.length zt : Value).ownBlock) s_ t198) ∧ (Kd.R (Kd.int .u8) 5 w' w.heap.size (fun k_ => some k_ ≠ (s_ : Value).ownBlock ∧ some k_ ≠ (.slice zm zh.length zn : Value).ownBlock ∧ some k_ ≠ (.slice zo zi.length zp : Value).ownBlock ∧ some k_ ≠ (.slice zq zj.length zr : Value).ownBlock ∧ some k_ ≠ (.slice zs zk.length zt : Value).ownBlock) (.slice zu zg.length zv) zg) ∧ (Kd.R (Kd.int .u8) 5 w' w.heap.size (fun k_ => some k_ ≠ (s_ : Value).ownBlock ∧ some k_ ≠ (.slice zu zg.length zv : Value).ownBlock ∧ some k_ ≠ (.slice zo zi.length zp : Value).ownBlock ∧ some k_ ≠ (.slice zq zj.length zr : Value).ownBlock ∧ some k_ ≠ (.slice zs zk.length zt : Value).ownBlock) (.slice zm zh.length zn) zh) ∧ (Kd.R (Kd.int .u8) 5 w' w.heap.size (fun k_ => some k_ ≠ (s_ : Value).ownBlock ∧ some k_ ≠ (.slice zu zg.length zv : Value).ownBlock ∧ some k_ ≠ (.slice zm zh.length zn : Value).ownBlock ∧ some k_ ≠ (.slice zq zj.length zr : Value).ownBlock ∧ some k_ ≠ (.slice zs zk.length zt : Value).ownBlock) (.slice zo zi.length zp) zi) ∧ (Kd.R (Kd.int .u8) 5 w' w.heap.size (fun k_ => some k_ ≠ (s_ : Value).ownBlock ∧ some k_ ≠ (.slice zu zg.length zv : Value).ownBlock ∧ some k_ ≠ (.slice zm zh.length zn : Value).ownBlock ∧ some k_ ≠ (.slice zo zi.length zp : Value).ownBlock ∧ some k_ ≠ (.slice zs zk.length zt : Value).ownBlock) (.slice zq zj.length zr) zj) ∧ (Kd.R (Kd.int .u8) 5 w' w.heap.size (fun k_ => some k_ ≠ (s_ : Value).ownBlock ∧ some k_ ≠ (.slice zu zg.length zv : Value).ownBlock ∧ some k_ ≠ (.slice zm zh.length zn : Value).ownBlock ∧ some k_ ≠ (.slice zo zi.length zp : Value).ownBlock ∧ some k_ ≠ (.slice zq zj.length zr : Value).ownBlock) (.slice zs zk.length zt) zk) ∧ (w'.heap[zf]? = some (.cells #[.slice zm zh.length zn, .slice zo zi.length zp, .slice zq zj.length zr, .slice zs zk.length zt] 23 (0, 0))) ∧ (Below w.heap.size w w')) ?_ ?_
                rotate_left
                ·intro hCont
                 refine two_ (i := 3) (j := 6) (Ni := some 61) (Nj := some 64) mk7 mk8 rfl rfl rfl rfl (two_of HT_.out (by kernel_rfl)) (by decide) (by decide) (fun K hK => ?_) (fun K hK => ?_)
                 ·skip
                  (have hcv66 := own_string (P := Try.prog) Try.underlying22 Try.underlying5 Try.underlying9 (Kd.own_of_R zd.out); have hcv66d := fun n_ : Nat => own_string (P := Try.prog) Try.underlying22 Try.underlying5 Try.underlying9 (Kd.own_of_R (sq_N zd.out n_)))
                  refine value_ (w1 := ?_) (v := ?_) (by rfl) rfl ?_ ?_
                  rotate_left 2
                  ·go_simp
                   constructor
                   ·rfl
                   ·rfl
                  clear hcv66 hcv66d
                  refine hK.out _ _ ⟨(blk_cell za.out 0).trans rfl, (blk_cell za.out 1).trans rfl, (blk_cell za.out 2).trans rfl, (blk_cell za.out 3).trans rfl⟩ (fun hHeld => ?_)
                  clear hK K
                  refine norm_ (a' := ?_) ?_ ?_
                  rotate_left
                  ·show Act.put _ (some 61) _ = _
                   simp only [Act.put, sq_a1, sq_a2, sq_a3, i64_w, i32_w]
                   rfl
                  refine one_ (i := 6) (N := some 64) mk9 rfl rfl (one_of HT_.out (by kernel_rfl)) (by decide) (fun K hK => ?_)
                  refine goes_ Try.func11 (by kernel_rfl) rfl #[.slice zu zg.length zv, .int .i64 2] (by rfl) rfl rfl (by (try simp only [List.map_toArray, List.map_cons, List.map_nil]); first | done | rfl | (simp only [List.length_drop, List.length_take]; rfl)) ?_
                  with_reducible refine (shuttleref10_Pick.calls k2 _ _ zg 2 t198 _ ?side1 ?side2 A58.out).mono ?_
                  (case side1 => repeat (first | exact (Kd.R_reads' zl.out).2.2 | (with_reducible refine Kd.C_alloc ?_ _) | (with_reducible refine Kd.C_drewN ?_ _) | (with_reducible refine Kd.C_drew ?_)))
                  (case side2 => exact (Kd.R_reads' zl.out).2.1)
                  rintro e w67 ⟨zag, rfl, zw, hb⟩
                  refine ⟨_, rfl, ?_⟩
                  have n0_ := sq_m (Kd.R_elder' (sq_R zl.out) (Kd.R_base zw) hb)
                  have n1_ := sq_m (Kd.R_elder' (sq_R zb.out) (Kd.R_base zw) hb)
                  have n2_ := sq_m (Kd.R_elder' (sq_R zc.out) (Kd.R_base zw) hb)
                  have n3_ := sq_m (Kd.R_elder' (sq_R zd.out) (Kd.R_base zw) hb)
                  have n4_ := sq_m (Kd.R_elder' (sq_R ze.out) (Kd.R_base zw) hb)
                  have n5_ := sq_m (Kd.R_lower (Kd.R_new' (Kd.R_new' (Kd.R_new' (Kd.R_new' (Kd.R_new' zw (Kd.R_lt (sq_R zl.out))) (Kd.R_lt (sq_R zb.out))) (Kd.R_lt (sq_R zc.out))) (Kd.R_lt (sq_R zd.out))) (Kd.R_lt (sq_R ze.out))) (below_size (by with_reducible repeat (first | exact HB.out | apply sq_b | apply sq_n | apply sq_d | refine below_set ?_ zx.out))))
                  have n6_ := sq_m (blk_below (g := zf) (o := .cells #[.slice zm zh.length zn, .slice zo zi.length zp, .slice zq zj.length zr, .slice zs zk.length zt] 23 (0, 0)) (by (with_reducible repeat (first | refine blk_drewN ?_ _ | refine blk_drew ?_ | refine blk_alloc ?_ _)); exact za.out) hb)
                  have n7_ := sq_m (below_step (by with_reducible repeat (first | exact HB.out | apply sq_b | apply sq_n | apply sq_d | refine below_set ?_ zx.out)) hb)
                  clear zl
                  clear zb
                  clear zc
                  clear zd
                  clear ze
                  clear za
                  clear HB
                  have zl := n0_
                  have zb := n1_
                  have zc := n2_
                  have zd := n3_
                  have ze := n4_
                  have zac := n5_
                  have za := n6_
                  have HB := n7_
                  clear n0_ n1_ n2_ n3_ n4_ n5_ n6_ n7_
                  (try clear hb)
                  (try clear hb2)
                  (try clear hk)
                  (try clear hi)
                  (try clear zw)
                  refine hK.out _ _ ⟨(blk_cell za.out 0).trans rfl, (blk_cell za.out 1).trans rfl, (blk_cell za.out 2).trans rfl, (blk_cell za.out 3).trans rfl⟩ (fun hHeld => ?_)
                  clear hK K
                  refine norm_ (a' := ?_) ?_ ?_
                  rotate_left
                  ·show Act.put _ (some 64) _ = _
                   simp only [Act.put, sq_a1, sq_a2, sq_a3, i64_w, i32_w]
                   rfl
                  refine one_ (i := 7) (N := some 65) mk6 rfl rfl (one_of HT_.out (by kernel_rfl)) (by decide) (fun K hK => ?_)
                  (have hcv68 := own_string (P := Try.prog) Try.underlying22 Try.underlying5 Try.underlying9 (Kd.own_of_R zac.out); have hcv68d := fun n_ : Nat => own_string (P := Try.prog) Try.underlying22 Try.underlying5 Try.underlying9 (Kd.own_of_R (sq_N zac.out n_)))
                  refine value_ (w1 := ?_) (v := ?_) (by rfl) rfl ?_ ?_
                  rotate_left 2
                  ·go_simp
                   constructor
                   ·rfl
                   ·rfl
                  clear hcv68 hcv68d
                  refine hK.out _ _ ⟨(blk_cell za.out 0).trans rfl, (blk_cell za.out 1).trans rfl, (blk_cell za.out 2).trans rfl, (blk_cell za.out 3).trans rfl⟩ (fun hHeld => ?_)
                  clear hK K
                  refine norm_ (a' := ?_) ?_ ?_
                  rotate_left
                  ·show Act.put _ (some 65) _ = _
                   simp only [Act.put, sq_a1, sq_a2, sq_a3, i64_w, i32_w]
                   rfl
                  exact norm_ (by simp only [putAll, Act.put, sq_a1, sq_a2, sq_a3]) (hCont (zag) _ ⟨hHeld, (by (with_reducible repeat (first | apply sq_A | apply sq_N | apply sq_D)); exact Kd.R_mono zac.out (fun _ hk => by simp [hk])), (by (with_reducible repeat (first | apply sq_A | apply sq_N | apply sq_D)); exact Kd.R_mono zl.out (fun _ hk => by simp [hk])), (by (with_reducible repeat (first | apply sq_A | apply sq_N | apply sq_D)); exact Kd.R_mono zb.out (fun _ hk => by simp [hk])), (by (with_reducible repeat (first | apply sq_A | apply sq_N | apply sq_D)); exact Kd.R_mono zc.out (fun _ hk => by simp [hk])), (by (with_reducible repeat (first | apply sq_A | apply sq_N | apply sq_D)); exact Kd.R_mono zd.out (fun _ hk => by simp [hk])), (by (with_reducible repeat (first | apply sq_A | apply sq_N | apply sq_D)); exact Kd.R_mono ze.out (fun _ hk => by simp [hk])), (by (with_reducible repeat (first | refine blk_drewN ?_ _ | refine blk_drew ?_ | refine blk_alloc ?_ _)); exact za.out), (by with_reducible repeat (first | exact HB.out | apply sq_b | apply sq_n | apply sq_d | refine below_set ?_ zx.out))⟩)
                 ·skip
                  refine goes_ Try.func11 (by kernel_rfl) rfl #[.slice zu zg.length zv, .int .i64 2] (by rfl) rfl rfl (by (try simp only [List.map_toArray, List.map_cons, List.map_nil]); first | done | rfl | (simp only [List.length_drop, List.length_take]; rfl)) ?_
                  with_reducible refine (shuttleref10_Pick.calls k2 _ _ zg 2 t198 _ ?side1 ?side2 A58.out).mono ?_
                  (case side1 => repeat (first | exact (Kd.R_reads' zl.out).2.2 | (with_reducible refine Kd.C_alloc ?_ _) | (with_reducible refine Kd.C_drewN ?_ _) | (with_reducible refine Kd.C_drew ?_)))
                  (case side2 => exact (Kd.R_reads' zl.out).2.1)
                  rintro e w66 ⟨zag, rfl, zw, hb⟩
                  refine ⟨_, rfl, ?_⟩
                  have n0_ := sq_m (Kd.R_elder' (sq_R zl.out) (Kd.R_base zw) hb)
                  have n1_ := sq_m (Kd.R_elder' (sq_R zb.out) (Kd.R_base zw) hb)
                  have n2_ := sq_m (Kd.R_elder' (sq_R zc.out) (Kd.R_base zw) hb)
                  have n3_ := sq_m (Kd.R_elder' (sq_R zd.out) (Kd.R_base zw) hb)
                  have n4_ := sq_m (Kd.R_elder' (sq_R ze.out) (Kd.R_base zw) hb)
                  have n5_ := sq_m (Kd.R_lower (Kd.R_new' (Kd.R_new' (Kd.R_new' (Kd.R_new' (Kd.R_new' zw (Kd.R_lt (sq_R zl.out))) (Kd.R_lt (sq_R zb.out))) (Kd.R_lt (sq_R zc.out))) (Kd.R_lt (sq_R zd.out))) (Kd.R_lt (sq_R ze.out))) (below_size (by with_reducible repeat (first | exact HB.out | apply sq_b | apply sq_n | apply sq_d | refine below_set ?_ zx.out))))
                  have n6_ := sq_m (blk_below (g := zf) (o := .cells #[.slice zm zh.length zn, .slice zo zi.length zp, .slice zq zj.length zr, .slice zs zk.length zt] 23 (0, 0)) (by (with_reducible repeat (first | refine blk_drewN ?_ _ | refine blk_drew ?_ | refine blk_alloc ?_ _)); exact za.out) hb)
                  have n7_ := sq_m (below_step (by with_reducible repeat (first | exact HB.out | apply sq_b | apply sq_n | apply sq_d | refine below_set ?_ zx.out)) hb)
                  clear zl
                  clear zb
                  clear zc
                  clear zd
                  clear ze
                  clear za
                  clear HB
                  have zl := n0_
                  have zb := n1_
                  have zc := n2_
                  have zd := n3_
                  have ze := n4_
                  have zac := n5_
                  have za := n6_
                  have HB := n7_
                  clear n0_ n1_ n2_ n3_ n4_ n5_ n6_ n7_
                  (try clear hb)
                  (try clear hb2)
                  (try clear hk)
                  (try clear hi)
                  (try clear zw)
                  refine hK.out _ _ ⟨(blk_cell za.out 0).trans rfl, (blk_cell za.out 1).trans rfl, (blk_cell za.out 2).trans rfl, (blk_cell za.out 3).trans rfl⟩ (fun hHeld => ?_)
                  clear hK K
                  refine norm_ (a' := ?_) ?_ ?_
                  rotate_left
                  ·show Act.put _ (some 64) _ = _
                   simp only [Act.put, sq_a1, sq_a2, sq_a3, i64_w, i32_w]
                   rfl
                  refine two_ (i := 3) (j := 7) (Ni := some 61) (Nj := some 65) mk9 mk10 rfl rfl rfl rfl (two_of HT_.out (by kernel_rfl)) (by decide) (by decide) (fun K hK => ?_) (fun K hK => ?_)
                  ·skip
                   (have hcv67 := own_string (P := Try.prog) Try.underlying22 Try.underlying5 Try.underlying9 (Kd.own_of_R zd.out); have hcv67d := fun n_ : Nat => own_string (P := Try.prog) Try.underlying22 Try.underlying5 Try.underlying9 (Kd.own_of_R (sq_N zd.out n_)))
                   refine value_ (w1 := ?_) (v := ?_) (by rfl) rfl ?_ ?_
                   rotate_left 2
                   ·go_simp
                    constructor
                    ·rfl
                    ·rfl
                   clear hcv67 hcv67d
                   refine hK.out _ _ ⟨(blk_cell za.out 0).trans rfl, (blk_cell za.out 1).trans rfl, (blk_cell za.out 2).trans rfl, (blk_cell za.out 3).trans rfl⟩ (fun hHeld => ?_)
                   clear hK K
                   refine norm_ (a' := ?_) ?_ ?_
                   rotate_left
                   ·show Act.put _ (some 61) _ = _
                    simp only [Act.put, sq_a1, sq_a2, sq_a3, i64_w, i32_w]
                    rfl
                   refine one_ (i := 7) (N := some 65) mk6 rfl rfl (one_of HT_.out (by kernel_rfl)) (by decide) (fun K hK => ?_)
                   (have hcv68 := own_string (P := Try.prog) Try.underlying22 Try.underlying5 Try.underlying9 (Kd.own_of_R zac.out); have hcv68d := fun n_ : Nat => own_string (P := Try.prog) Try.underlying22 Try.underlying5 Try.underlying9 (Kd.own_of_R (sq_N zac.out n_)))
                   refine value_ (w1 := ?_) (v := ?_) (by rfl) rfl ?_ ?_
                   rotate_left 2
                   ·go_simp
                    constructor
                    ·rfl
                    ·rfl
                   clear hcv68 hcv68d
                   refine hK.out _ _ ⟨(blk_cell za.out 0).trans rfl, (blk_cell za.out 1).trans rfl, (blk_cell za.out 2).trans rfl, (blk_cell za.out 3).trans rfl⟩ (fun hHeld => ?_)
                   clear hK K
                   refine norm_ (a' := ?_) ?_ ?_
                   rotate_left
                   ·show Act.put _ (some 65) _ = _
                    simp only [Act.put, sq_a1, sq_a2, sq_a3, i64_w, i32_w]
                    rfl
                   exact norm_ (by simp only [putAll, Act.put, sq_a1, sq_a2, sq_a3]) (hCont (zag) _ ⟨hHeld, (by (with_reducible repeat (first | apply sq_A | apply sq_N | apply sq_D)); exact Kd.R_mono zac.out (fun _ hk => by simp [hk])), (by (with_reducible repeat (first | apply sq_A | apply sq_N | apply sq_D)); exact Kd.R_mono zl.out (fun _ hk => by simp [hk])), (by (with_reducible repeat (first | apply sq_A | apply sq_N | apply sq_D)); exact Kd.R_mono zb.out (fun _ hk => by simp [hk])), (by (with_reducible repeat (first | apply sq_A | apply sq_N | apply sq_D)); exact Kd.R_mono zc.out (fun _ hk => by simp [hk])), (by (with_reducible repeat (first | apply sq_A | apply sq_N | apply sq_D)); exact Kd.R_mono zd.out (fun _ hk => by simp [hk])), (by (with_reducible repeat (first | apply sq_A | apply sq_N | apply sq_D)); exact Kd.R_mono ze.out (fun _ hk => by simp [hk])), (by (with_reducible repeat (first | refine blk_drewN ?_ _ | refine blk_drew ?_ | refine blk_alloc ?_ _)); exact za.out), (by with_reducible repeat (first | exact HB.out | apply sq_b | apply sq_n | apply sq_d | refine below_set ?_ zx.out))⟩)
                  ·skip
                   (have hcv67 := own_string (P := Try.prog) Try.underlying22 Try.underlying5 Try.underlying9 (Kd.own_of_R zac.out); have hcv67d := fun n_ : Nat => own_string (P := Try.prog) Try.underlying22 Try.underlying5 Try.underlying9 (Kd.own_of_R (sq_N zac.out n_)))
                   refine value_ (w1 := ?_) (v := ?_) (by rfl) rfl ?_ ?_
                   rotate_left 2
                   ·go_simp
                    constructor
                    ·rfl
                    ·rfl
                   clear hcv67 hcv67d
                   refine hK.out _ _ ⟨(blk_cell za.out 0).trans rfl, (blk_cell za.out 1).trans rfl, (blk_cell za.out 2).trans rfl, (blk_cell za.out 3).trans rfl⟩ (fun hHeld => ?_)
                   clear hK K
                   refine norm_ (a' := ?_) ?_ ?_
                   rotate_left
                   ·show Act.put _ (some 65) _ = _
                    simp only [Act.put, sq_a1, sq_a2, sq_a3, i64_w, i32_w]
                    rfl
                   refine one_ (i := 3) (N := some 61) mk6 rfl rfl (one_of HT_.out (by kernel_rfl)) (by decide) (fun K hK => ?_)
                   (have hcv68 := own_string (P := Try.prog) Try.underlying22 Try.underlying5 Try.underlying9 (Kd.own_of_R zd.out); have hcv68d := fun n_ : Nat => own_string (P := Try.prog) Try.underlying22 Try.underlying5 Try.underlying9 (Kd.own_of_R (sq_N zd.out n_)))
                   refine value_ (w1 := ?_) (v := ?_) (by rfl) rfl ?_ ?_
                   rotate_left 2
                   ·go_simp
                    constructor
                    ·rfl
                    ·rfl
                   clear hcv68 hcv68d
                   refine hK.out _ _ ⟨(blk_cell za.out 0).trans rfl, (blk_cell za.out 1).trans rfl, (blk_cell za.out 2).trans rfl, (blk_cell za.out 3).trans rfl⟩ (fun hHeld => ?_)
                   clear hK K
                   refine norm_ (a' := ?_) ?_ ?_
                   rotate_left
                   ·show Act.put _ (some 61) _ = _
                    simp only [Act.put, sq_a1, sq_a2, sq_a3, i64_w, i32_w]
                    rfl
                   exact norm_ (by simp only [putAll, Act.put, sq_a1, sq_a2, sq_a3]) (hCont (zag) _ ⟨hHeld, (by (with_reducible repeat (first | apply sq_A | apply sq_N | apply sq_D)); exact Kd.R_mono zac.out (fun _ hk => by simp [hk])), (by (with_reducible repeat (first | apply sq_A | apply sq_N | apply sq_D)); exact Kd.R_mono zl.out (fun _ hk => by simp [hk])), (by (with_reducible repeat (first | apply sq_A | apply sq_N | apply sq_D)); exact Kd.R_mono zb.out (fun _ hk => by simp [hk])), (by (with_reducible repeat (first | apply sq_A | apply sq_N | apply sq_D)); exact Kd.R_mono zc.out (fun _ hk => by simp [hk])), (by (with_reducible repeat (first | apply sq_A | apply sq_N | apply sq_D)); exact Kd.R_mono zd.out (fun _ hk => by simp [hk])), (by (with_reducible repeat (first | apply sq_A | apply sq_N | apply sq_D)); exact Kd.R_mono ze.out (fun _ hk => by simp [hk])), (by (with_reducible repeat (first | refine blk_drewN ?_ _ | refine blk_drew ?_ | refine blk_alloc ?_ _)); exact za.out), (by with_reducible repeat (first | exact HB.out | apply sq_b | apply sq_n | apply sq_d | refine below_set ?_ zx.out))⟩)
                rintro zag w69 ⟨hS_, h0_, h1_, h2_, h3_, h4_, h5_, h6_, h7_⟩
                have n0_ : Aside0 (Kd.R (Kd.int .u8) 5 w69 w.heap.size (fun k_ => some k_ ≠ (.slice zu zg.length zv : Value).ownBlock ∧ some k_ ≠ (.slice zm zh.length zn : Value).ownBlock ∧ some k_ ≠ (.slice zo zi.length zp : Value).ownBlock ∧ some k_ ≠ (.slice zq zj.length zr : Value).ownBlock ∧ some k_ ≠ (.slice zs zk.length zt : Value).ownBlock) zag t198) := ⟨h0_⟩
                have n1_ : Aside0 (Kd.R (Kd.int .u8) 5 w69 w.heap.size (fun k_ => some k_ ≠ (zag : Value).ownBlock ∧ some k_ ≠ (.slice zm zh.length zn : Value).ownBlock ∧ some k_ ≠ (.slice zo zi.length zp : Value).ownBlock ∧ some k_ ≠ (.slice zq zj.length zr : Value).ownBlock ∧ some k_ ≠ (.slice zs zk.length zt : Value).ownBlock) (.slice zu zg.length zv) zg) := ⟨h1_⟩
                have n2_ : Aside0 (Kd.R (Kd.int .u8) 5 w69 w.heap.size (fun k_ => some k_ ≠ (zag : Value).ownBlock ∧ some k_ ≠ (.slice zu zg.length zv : Value).ownBlock ∧ some k_ ≠ (.slice zo zi.length zp : Value).ownBlock ∧ some k_ ≠ (.slice zq zj.length zr : Value).ownBlock ∧ some k_ ≠ (.slice zs zk.length zt : Value).ownBlock) (.slice zm zh.length zn) zh) := ⟨h2_⟩
                have n3_ : Aside0 (Kd.R (Kd.int .u8) 5 w69 w.heap.size (fun k_ => some k_ ≠ (zag : Value).ownBlock ∧ some k_ ≠ (.slice zu zg.length zv : Value).ownBlock ∧ some k_ ≠ (.slice zm zh.length zn : Value).ownBlock ∧ some k_ ≠ (.slice zq zj.length zr : Value).ownBlock ∧ some k_ ≠ (.slice zs zk.length zt : Value).ownBlock) (.slice zo zi.length zp) zi) := ⟨h3_⟩
                have n4_ : Aside0 (Kd.R (Kd.int .u8) 5 w69 w.heap.size (fun k_ => some k_ ≠ (zag : Value).ownBlock ∧ some k_ ≠ (.slice zu zg.length zv : Value).ownBlock ∧ some k_ ≠ (.slice zm zh.length zn : Value).ownBlock ∧ some k_ ≠ (.slice zo zi.length zp : Value).ownBlock ∧ some k_ ≠ (.slice zs zk.length zt : Value).ownBlock) (.slice zq zj.length zr) zj) := ⟨h4_⟩
                have n5_ : Aside0 (Kd.R (Kd.int .u8) 5 w69 w.heap.size (fun k_ => some k_ ≠ (zag : Value).ownBlock ∧ some k_ ≠ (.slice zu zg.length zv : Value).ownBlock ∧ some k_ ≠ (.slice zm zh.length zn : Value).ownBlock ∧ some k_ ≠ (.slice zo zi.length zp : Value).ownBlock ∧ some k_ ≠ (.slice zq zj.length zr : Value).ownBlock) (.slice zs zk.length zt) zk) := ⟨h5_⟩
                have n6_ : Aside0 (w69.heap[zf]? = some (.cells #[.slice zm zh.length zn, .slice zo zi.length zp, .slice zq zj.length zr, .slice zs zk.length zt] 23 (0, 0))) := ⟨h6_⟩
                have n7_ : Aside0 (Below w.heap.size w w69) := ⟨h7_⟩
                clear zl
                clear zb
                clear zc
                clear zd
                clear ze
                clear za
                clear HB
                clear h0_ h1_ h2_ h3_ h4_ h5_ h6_ h7_
                have zac := n0_
                have zl := n1_
                have zb := n2_
                have zc := n3_
                have zd := n4_
                have ze := n5_
                have za := n6_
                have HB := n7_
                clear n0_ n1_ n2_ n3_ n4_ n5_ n6_ n7_
                have hHeld : w69.cell? ⟨zf, 0, none⟩ = some (.slice zm zh.length zn) ∧ w69.cell? ⟨zf, 1, none⟩ = some (.slice zo zi.length zp) ∧ w69.cell? ⟨zf, 2, none⟩ = some (.slice zq zj.length zr) ∧ w69.cell? ⟨zf, 3, none⟩ = some (.slice zs zk.length zt) := hS_
                refine norm_ (a' := ?_) ?_ ?_
                rotate_left
                ·simp only [putAll, Act.put, sq_a1, sq_a2, sq_a3]
                 rfl
                refine pure_ (i := 8) (N := some 66) (v := ?_) (a' := ?_) mk11 rfl rfl (any_of HT_.out (by kernel_rfl)) (fun _ _ _ h => h) (Or.inl ⟨by rfl, ?_⟩) ?_ ?_; rotate_left; (intro w'; go_simp; with_reducible rfl); rotate_left; (simp only [Act.put, sq_a1, sq_a2, sq_a3, i64_w, i32_w]; rfl)
                refine done_ (done_of HT_.out (by kernel_rfl)) ?_
                try go_wp2
                go_ret
                exact ⟨by first | rfl | (simp [errW_none, errW_some] <;> rfl) | (simp only [← hji2]; first | rfl | (simp [errW_none, errW_some] <;> rfl)) | (simp [*, errW_none, errW_some] <;> rfl), by with_reducible repeat (first | exact HB.out | apply sq_b | apply sq_n | apply sq_d | refine below_set ?_ zx.out)⟩
              ·rw [if_neg c57] at H
               clear c57
               by_cases c70 : x6_2 = 3
               ·rw [if_pos c70] at H
                subst c70
                replace H := Option.bind_eq_some_iff.mp H
                obtain ⟨t195, A710, H⟩ := H
                replace H : (if (strOfNums zk).toList = (strOfNums t195).toList then (shuttlelaw11_VersionSplits.l0 k2 zg (strOfNums zg) zy (3 + 1) zh zi zj zk) else (some false)) = some r := H
                have A71 := sq_m A710
                clear A710
                by_cases c72 : (strOfNums zk).toList = (strOfNums t195).toList
                ·rw [if_pos c72] at H
                 have c72b0 : ((strOfNums zk).toList == (strOfNums t195).toList) = true := beq_iff_eq.mpr c72
                 have c72b1 : ((strOfNums zk).toList != (strOfNums t195).toList) = false := bne_eq_false_iff_eq.mpr c72
                 clear c72
                 have H' := sq_m H
                 clear H
                 try go_wp2
                 have n0_ := sq_m (sq_D zl.out)
                 have n1_ := sq_m (sq_D zb.out)
                 have n2_ := sq_m (sq_D zc.out)
                 have n3_ := sq_m (sq_D zd.out)
                 have n4_ := sq_m (sq_D ze.out)
                 have n5_ := sq_m (blk_drew za.out)
                 have n6_ := sq_m (sq_d HB.out)
                 clear zl
                 clear zb
                 clear zc
                 clear zd
                 clear ze
                 clear za
                 clear HB
                 have zl := n0_
                 have zb := n1_
                 have zc := n2_
                 have zd := n3_
                 have ze := n4_
                 have za := n5_
                 have HB := n6_
                 clear n0_ n1_ n2_ n3_ n4_ n5_ n6_
                 refine start_ (n := 9) (S := fun w' => w'.cell? ⟨zf, 0, none⟩ = some (.slice zm zh.length zn) ∧ w'.cell? ⟨zf, 1, none⟩ = some (.slice zo zi.length zp) ∧ w'.cell? ⟨zf, 2, none⟩ = some (.slice zq zj.length zr) ∧ w'.cell? ⟨zf, 3, none⟩ = some (.slice zs zk.length zt)) (ds := []) mk0 (by kernel_rfl) rfl rfl ⟨(blk_cell za.out 0).trans rfl, (blk_cell za.out 1).trans rfl, (blk_cell za.out 2).trans rfl, (blk_cell za.out 3).trans rfl⟩ (fun hHeld => ?_); refine with_tabW shuttlelaw11_VersionSplits.tab13 shuttlelaw11_VersionSplits.bits13 (fun HT_ HW_ => ?_)
                 generalize wr.drew = w73 at zl zb zc zd ze za HB hHeld ⊢
                 refine pure_ (i := 0) (N := some 58) (v := ?_) (a' := ?_) mk1 rfl rfl (any_of HT_.out (by kernel_rfl)) (fun _ _ _ h => h) (Or.inl ⟨by rfl, ?_⟩) ?_ ?_; rotate_left; (intro w'; go_simp; with_reducible rfl); rotate_left; (simp only [Act.put, sq_a1, sq_a2, sq_a3, i64_w, i32_w]; rfl)
                 refine pure_ (i := 1) (N := some 59) (v := ?_) (a' := ?_) mk2 rfl rfl (any_of HT_.out (by kernel_rfl)) (fun _ _ _ h => h) (Or.inl ⟨by rfl, ?_⟩) ?_ ?_; rotate_left; (intro w'; go_simp; with_reducible rfl); rotate_left; (simp only [Act.put, sq_a1, sq_a2, sq_a3, i64_w, i32_w]; rfl)
                 refine pure_ (i := 4) (N := some 62) (v := ?_) (a' := ?_) mk3 rfl rfl (any_of HT_.out (by kernel_rfl)) (fun _ _ _ h => h) (Or.inl ⟨by rfl, ?_⟩) ?_ ?_; rotate_left; (intro w'; go_simp; with_reducible rfl); rotate_left; (simp only [Act.put, sq_a1, sq_a2, sq_a3, i64_w, i32_w]; rfl)
                 refine pure_ (i := 5) (N := some 63) (v := ?_) (a' := ?_) mk4 rfl rfl (any_of HT_.out (by kernel_rfl)) (fun _ _ _ h => h) (Or.inl ⟨by rfl, ?_⟩) ?_ ?_; rotate_left; (intro w'; go_simp; with_reducible rfl); rotate_left; (simp only [Act.put, sq_a1, sq_a2, sq_a3, i64_w, i32_w]; rfl)
                 refine take_ (i := 2) (N := some 60) (v := ?_) (a' := ?_) mk5 rfl rfl (take_ofW HT_.out HW_.out (by kernel_rfl)) (fun _ _ _ h => h) (Or.inl ⟨by rfl, ?_⟩) hHeld ?_ ?_
                 rotate_left
                 ·rintro w' ⟨s0, s1, s2, s3⟩
                  go_simp
                  with_reducible rfl
                 rotate_left
                 ·simp only [Act.put, sq_a1, sq_a2, sq_a3, i64_w, i32_w]
                  rfl
                 refine join_ (σ := Value) 1 mk6 (fun s_ => [(61, .string (strOfNums zk)), (64, s_), (65, .string (strOfNums t195))]) (fun s_ w' => (w'.cell? ⟨zf, 0, none⟩ = some (.slice zm zh.length zn) ∧ w'.cell? ⟨zf, 1, none⟩ = some (.slice zo zi.length zp) ∧ w'.cell? ⟨zf, 2, none⟩ = some (.slice zq zj.length zr) ∧ w'.cell? ⟨zf, 3, none⟩ = some (.slice zs zk.length zt)) ∧ (Kd.R (Kd.int .u8) 5 w' w.heap.size (fun k_ => some k_ ≠ (.slice zu zg.length zv : Value).ownBlock ∧ some k_ ≠ (.slice zm zh.length zn : Value).ownBlock ∧ some k_ ≠ (.slice zo zi.length zp : Value).ownBlock ∧ some k_ ≠ (.slice zq zj.length zr : Value).ownBlock ∧ some k_ ≠ (.slice zs zk.length zt : Value).ownBlock) s_ t195) ∧ (Kd.R (Kd.int .u8) 5 w' w.heap.size (fun k_ => some k_ ≠ (s_ : Value).ownBlock ∧ some k_ ≠ (.slice zm zh.length zn : Value).ownBlock ∧ some k_ ≠ (.slice zo zi.length zp : Value).ownBlock ∧ some k_ ≠ (.slice zq zj.length zr : Value).ownBlock ∧ some k_ ≠ (.slice zs zk.length zt : Value).ownBlock) (.slice zu zg.length zv) zg) ∧ (Kd.R (Kd.int .u8) 5 w' w.heap.size (fun k_ => some k_ ≠ (s_ : Value).ownBlock ∧ some k_ ≠ (.slice zu zg.length zv : Value).ownBlock ∧ some k_ ≠ (.slice zo zi.length zp : Value).ownBlock ∧ some k_ ≠ (.slice zq zj.length zr : Value).ownBlock ∧ some k_ ≠ (.slice zs zk.length zt : Value).ownBlock) (.slice zm zh.length zn) zh) ∧ (Kd.R (Kd.int .u8) 5 w' w.heap.size (fun k_ => some k_ ≠ (s_ : Value).ownBlock ∧ some k_ ≠ (.slice zu zg.length zv : Value).ownBlock ∧ some k_ ≠ (.slice zm zh.length zn : Value).ownBlock ∧ some k_ ≠ (.slice zq zj.length zr : Value).ownBlock ∧ some k_ ≠ (.slice zs zk.length zt : Value).ownBlock) (.slice zo zi.length zp) zi) ∧ (Kd.R (Kd.int .u8) 5 w' w.heap.size (fun k_ => some k_ ≠ (s_ : Value).ownBlock ∧ some k_ ≠ (.slice zu zg.length zv : Value).ownBlock ∧ some k_ ≠ (.slice zm zh.length zn : Value).ownBlock ∧ some k_ ≠ (.slice zo zi.length zp : Value).ownBlock ∧ some k_ ≠ (.slice zs zk.length zt : Value).ownBlock) (.slice zq zj.length zr) zj) ∧ (Kd.R (Kd.int .u8) 5 w' w.heap.size (fun k_ => some k_ ≠ (s_ : Value).ownBlock ∧ some k_ ≠ (.slice zu zg.length zv : Value).ownBlock ∧ some k_ ≠ (.slice zm zh.length zn : Value).ownBlock ∧ some k_ ≠ (.slice zo zi.length zp : Value).ownBlock ∧ some k_ ≠ (.slice zq zj.length zr : Value).ownBlock) (.slice zs zk.length zt) zk) ∧ (w'.heap[zf]? = some (.cells #[.slice zm zh.length zn, .slice zo zi.length zp, .slice zq zj.length zr, .slice zs zk.length zt] 23 (0, 0))) ∧ (Below w.heap.size w w')) ?_ ?_
                 rotate_left
                 ·intro hCont
                  refine two_ (i := 3) (j := 6) (Ni := some 61) (Nj := some 64) mk7 mk8 rfl rfl rfl rfl (two_of HT_.out (by kernel_rfl)) (by decide) (by decide) (fun K hK => ?_) (fun K hK => ?_)
                  ·skip
                   (have hcv74 := own_string (P := Try.prog) Try.underlying22 Try.underlying5 Try.underlying9 (Kd.own_of_R ze.out); have hcv74d := fun n_ : Nat => own_string (P := Try.prog) Try.underlying22 Try.underlying5 Try.underlying9 (Kd.own_of_R (sq_N ze.out n_)))
                   refine value_ (w1 := ?_) (v := ?_) (by rfl) rfl ?_ ?_
                   rotate_left 2
                   ·go_simp
                    constructor
                    ·rfl
                    ·rfl
                   clear hcv74 hcv74d
                   refine hK.out _ _ ⟨(blk_cell za.out 0).trans rfl, (blk_cell za.out 1).trans rfl, (blk_cell za.out 2).trans rfl, (blk_cell za.out 3).trans rfl⟩ (fun hHeld => ?_)
                   clear hK K
                   refine norm_ (a' := ?_) ?_ ?_
                   rotate_left
                   ·show Act.put _ (some 61) _ = _
                    simp only [Act.put, sq_a1, sq_a2, sq_a3, i64_w, i32_w]
                    rfl
                   refine one_ (i := 6) (N := some 64) mk9 rfl rfl (one_of HT_.out (by kernel_rfl)) (by decide) (fun K hK => ?_)
                   refine goes_ Try.func11 (by kernel_rfl) rfl #[.slice zu zg.length zv, .int .i64 3] (by rfl) rfl rfl (by (try simp only [List.map_toArray, List.map_cons, List.map_nil]); first | done | rfl | (simp only [List.length_drop, List.length_take]; rfl)) ?_
                   with_reducible refine (shuttleref10_Pick.calls k2 _ _ zg 3 t195 _ ?side1 ?side2 A71.out).mono ?_
                   (case side1 => repeat (first | exact (Kd.R_reads' zl.out).2.2 | (with_reducible refine Kd.C_alloc ?_ _) | (with_reducible refine Kd.C_drewN ?_ _) | (with_reducible refine Kd.C_drew ?_)))
                   (case side2 => exact (Kd.R_reads' zl.out).2.1)
                   rintro e w75 ⟨zah, rfl, zw, hb⟩
                   refine ⟨_, rfl, ?_⟩
                   have n0_ := sq_m (Kd.R_elder' (sq_R zl.out) (Kd.R_base zw) hb)
                   have n1_ := sq_m (Kd.R_elder' (sq_R zb.out) (Kd.R_base zw) hb)
                   have n2_ := sq_m (Kd.R_elder' (sq_R zc.out) (Kd.R_base zw) hb)
                   have n3_ := sq_m (Kd.R_elder' (sq_R zd.out) (Kd.R_base zw) hb)
                   have n4_ := sq_m (Kd.R_elder' (sq_R ze.out) (Kd.R_base zw) hb)
                   have n5_ := sq_m (Kd.R_lower (Kd.R_new' (Kd.R_new' (Kd.R_new' (Kd.R_new' (Kd.R_new' zw (Kd.R_lt (sq_R zl.out))) (Kd.R_lt (sq_R zb.out))) (Kd.R_lt (sq_R zc.out))) (Kd.R_lt (sq_R zd.out))) (Kd.R_lt (sq_R ze.out))) (below_size (by with_reducible repeat (first | exact HB.out | apply sq_b | apply sq_n | apply sq_d | refine below_set ?_ zx.out))))
                   have n6_ := sq_m (blk_below (g := zf) (o := .cells #[.slice zm zh.length zn, .slice zo zi.length zp, .slice zq zj.length zr, .slice zs zk.length zt] 23 (0, 0)) (by (with_reducible repeat (first | refine blk_drewN ?_ _ | refine blk_drew ?_ | refine blk_alloc ?_ _)); exact za.out) hb)
                   have n7_ := sq_m (below_step (by with_reducible repeat (first | exact HB.out | apply sq_b | apply sq_n | apply sq_d | refine below_set ?_ zx.out)) hb)
                   clear zl
                   clear zb
                   clear zc
                   clear zd
                   clear ze
                   clear za
                   clear HB
                   have zl := n0_
                   have zb := n1_
                   have zc := n2_
                   have zd := n3_
                   have ze := n4_
                   have zad := n5_
                   have za := n6_
                   have HB := n7_
                   clear n0_ n1_ n2_ n3_ n4_ n5_ n6_ n7_
                   (try clear hb)
                   (try clear hb2)
                   (try clear hk)
                   (try clear hi)
                   (try clear zw)
                   refine hK.out _ _ ⟨(blk_cell za.out 0).trans rfl, (blk_cell za.out 1).trans rfl, (blk_cell za.out 2).trans rfl, (blk_cell za.out 3).trans rfl⟩ (fun hHeld => ?_)
                   clear hK K
                   refine norm_ (a' := ?_) ?_ ?_
                   rotate_left
                   ·show Act.put _ (some 64) _ = _
                    simp only [Act.put, sq_a1, sq_a2, sq_a3, i64_w, i32_w]
                    rfl
                   refine one_ (i := 7) (N := some 65) mk6 rfl rfl (one_of HT_.out (by kernel_rfl)) (by decide) (fun K hK => ?_)
                   (have hcv76 := own_string (P := Try.prog) Try.underlying22 Try.underlying5 Try.underlying9 (Kd.own_of_R zad.out); have hcv76d := fun n_ : Nat => own_string (P := Try.prog) Try.underlying22 Try.underlying5 Try.underlying9 (Kd.own_of_R (sq_N zad.out n_)))
                   refine value_ (w1 := ?_) (v := ?_) (by rfl) rfl ?_ ?_
                   rotate_left 2
                   ·go_simp
                    constructor
                    ·rfl
                    ·rfl
                   clear hcv76 hcv76d
                   refine hK.out _ _ ⟨(blk_cell za.out 0).trans rfl, (blk_cell za.out 1).trans rfl, (blk_cell za.out 2).trans rfl, (blk_cell za.out 3).trans rfl⟩ (fun hHeld => ?_)
                   clear hK K
                   refine norm_ (a' := ?_) ?_ ?_
                   rotate_left
                   ·show Act.put _ (some 65) _ = _
                    simp only [Act.put, sq_a1, sq_a2, sq_a3, i64_w, i32_w]
                    rfl
                   exact norm_ (by simp only [putAll, Act.put, sq_a1, sq_a2, sq_a3]) (hCont (zah) _ ⟨hHeld, (by (with_reducible repeat (first | apply sq_A | apply sq_N | apply sq_D)); exact Kd.R_mono zad.out (fun _ hk => by simp [hk])), (by (with_reducible repeat (first | apply sq_A | apply sq_N | apply sq_D)); exact Kd.R_mono zl.out (fun _ hk => by simp [hk])), (by (with_reducible repeat (first | apply sq_A | apply sq_N | apply sq_D)); exact Kd.R_mono zb.out (fun _ hk => by simp [hk])), (by (with_reducible repeat (first | apply sq_A | apply sq_N | apply sq_D)); exact Kd.R_mono zc.out (fun _ hk => by simp [hk])), (by (with_reducible repeat (first | apply sq_A | apply sq_N | apply sq_D)); exact Kd.R_mono zd.out (fun _ hk => by simp [hk])), (by (with_reducible repeat (first | apply sq_A | apply sq_N | apply sq_D)); exact Kd.R_mono ze.out (fun _ hk => by simp [hk])), (by (with_reducible repeat (first | refine blk_drewN ?_ _ | refine blk_drew ?_ | refine blk_alloc ?_ _)); exact za.out), (by with_reducible repeat (first | exact HB.out | apply sq_b | apply sq_n | apply sq_d | refine below_set ?_ zx.out))⟩)
                  ·skip
                   refine goes_ Try.func11 (by kernel_rfl) rfl #[.slice zu zg.length zv, .int .i64 3] (by rfl) rfl rfl (by (try simp only [List.map_toArray, List.map_cons, List.map_nil]); first | done | rfl | (simp only [List.length_drop, List.length_take]; rfl)) ?_
                   with_reducible refine (shuttleref10_Pick.calls k2 _ _ zg 3 t195 _ ?side1 ?side2 A71.out).mono ?_
                   (case side1 => repeat (first | exact (Kd.R_reads' zl.out).2.2 | (with_reducible refine Kd.C_alloc ?_ _) | (with_reducible refine Kd.C_drewN ?_ _) | (with_reducible refine Kd.C_drew ?_)))
                   (case side2 => exact (Kd.R_reads' zl.out).2.1)
                   rintro e w74 ⟨zah, rfl, zw, hb⟩
                   refine ⟨_, rfl, ?_⟩
                   have n0_ := sq_m (Kd.R_elder' (sq_R zl.out) (Kd.R_base zw) hb)
                   have n1_ := sq_m (Kd.R_elder' (sq_R zb.out) (Kd.R_base zw) hb)
                   have n2_ := sq_m (Kd.R_elder' (sq_R zc.out) (Kd.R_base zw) hb)
                   have n3_ := sq_m (Kd.R_elder' (sq_R zd.out) (Kd.R_base zw) hb)
                   have n4_ := sq_m (Kd.R_elder' (sq_R ze.out) (Kd.R_base zw) hb)
                   have n5_ := sq_m (Kd.R_lower (Kd.R_new' (Kd.R_new' (Kd.R_new' (Kd.R_new' (Kd.R_new' zw (Kd.R_lt (sq_R zl.out))) (Kd.R_lt (sq_R zb.out))) (Kd.R_lt (sq_R zc.out))) (Kd.R_lt (sq_R zd.out))) (Kd.R_lt (sq_R ze.out))) (below_size (by with_reducible repeat (first | exact HB.out | apply sq_b | apply sq_n | apply sq_d | refine below_set ?_ zx.out))))
                   have n6_ := sq_m (blk_below (g := zf) (o := .cells #[.slice zm zh.length zn, .slice zo zi.length zp, .slice zq zj.length zr, .slice zs zk.length zt] 23 (0, 0)) (by (with_reducible repeat (first | refine blk_drewN ?_ _ | refine blk_drew ?_ | refine blk_alloc ?_ _)); exact za.out) hb)
                   have n7_ := sq_m (below_step (by with_reducible repeat (first | exact HB.out | apply sq_b | apply sq_n | apply sq_d | refine below_set ?_ zx.out)) hb)
                   clear zl
                   clear zb
                   clear zc
                   clear zd
                   clear ze
                   clear za
                   clear HB
                   have zl := n0_
                   have zb := n1_
                   have zc := n2_
                   have zd := n3_
                   have ze := n4_
                   have zad := n5_
                   have za := n6_
                   have HB := n7_
                   clear n0_ n1_ n2_ n3_ n4_ n5_ n6_ n7_
                   (try clear hb)
                   (try clear hb2)
                   (try clear hk)
                   (try clear hi)
                   (try clear zw)
                   refine hK.out _ _ ⟨(blk_cell za.out 0).trans rfl, (blk_cell za.out 1).trans rfl, (blk_cell za.out 2).trans rfl, (blk_cell za.out 3).trans rfl⟩ (fun hHeld => ?_)
                   clear hK K
                   refine norm_ (a' := ?_) ?_ ?_
                   rotate_left
                   ·show Act.put _ (some 64) _ = _
                    simp only [Act.put, sq_a1, sq_a2, sq_a3, i64_w, i32_w]
                    rfl
                   refine two_ (i := 3) (j := 7) (Ni := some 61) (Nj := some 65) mk9 mk10 rfl rfl rfl rfl (two_of HT_.out (by kernel_rfl)) (by decide) (by decide) (fun K hK => ?_) (fun K hK => ?_)
                   ·skip
                    (have hcv75 := own_string (P := Try.prog) Try.underlying22 Try.underlying5 Try.underlying9 (Kd.own_of_R ze.out); have hcv75d := fun n_ : Nat => own_string (P := Try.prog) Try.underlying22 Try.underlying5 Try.underlying9 (Kd.own_of_R (sq_N ze.out n_)))
                    refine value_ (w1 := ?_) (v := ?_) (by rfl) rfl ?_ ?_
                    rotate_left 2
                    ·go_simp
                     constructor
                     ·rfl
                     ·rfl
                    clear hcv75 hcv75d
                    refine hK.out _ _ ⟨(blk_cell za.out 0).trans rfl, (blk_cell za.out 1).trans rfl, (blk_cell za.out 2).trans rfl, (blk_cell za.out 3).trans rfl⟩ (fun hHeld => ?_)
                    clear hK K
                    refine norm_ (a' := ?_) ?_ ?_
                    rotate_left
                    ·show Act.put _ (some 61) _ = _
                     simp only [Act.put, sq_a1, sq_a2, sq_a3, i64_w, i32_w]
                     rfl
                    refine one_ (i := 7) (N := some 65) mk6 rfl rfl (one_of HT_.out (by kernel_rfl)) (by decide) (fun K hK => ?_)
                    (have hcv76 := own_string (P := Try.prog) Try.underlying22 Try.underlying5 Try.underlying9 (Kd.own_of_R zad.out); have hcv76d := fun n_ : Nat => own_string (P := Try.prog) Try.underlying22 Try.underlying5 Try.underlying9 (Kd.own_of_R (sq_N zad.out n_)))
                    refine value_ (w1 := ?_) (v := ?_) (by rfl) rfl ?_ ?_
                    rotate_left 2
                    ·go_simp
                     constructor
                     ·rfl
                     ·rfl
                    clear hcv76 hcv76d
                    refine hK.out _ _ ⟨(blk_cell za.out 0).trans rfl, (blk_cell za.out 1).trans rfl, (blk_cell za.out 2).trans rfl, (blk_cell za.out 3).trans rfl⟩ (fun hHeld => ?_)
                    clear hK K
                    refine norm_ (a' := ?_) ?_ ?_
                    rotate_left
                    ·show Act.put _ (some 65) _ = _
                     simp only [Act.put, sq_a1, sq_a2, sq_a3, i64_w, i32_w]
                     rfl
                    exact norm_ (by simp only [putAll, Act.put, sq_a1, sq_a2, sq_a3]) (hCont (zah) _ ⟨hHeld, (by (with_reducible repeat (first | apply sq_A | apply sq_N | apply sq_D)); exact Kd.R_mono zad.out (fun _ hk => by simp [hk])), (by (with_reducible repeat (first | apply sq_A | apply sq_N | apply sq_D)); exact Kd.R_mono zl.out (fun _ hk => by simp [hk])), (by (with_reducible repeat (first | apply sq_A | apply sq_N | apply sq_D)); exact Kd.R_mono zb.out (fun _ hk => by simp [hk])), (by (with_reducible repeat (first | apply sq_A | apply sq_N | apply sq_D)); exact Kd.R_mono zc.out (fun _ hk => by simp [hk])), (by (with_reducible repeat (first | apply sq_A | apply sq_N | apply sq_D)); exact Kd.R_mono zd.out (fun _ hk => by simp [hk])), (by (with_reducible repeat (first | apply sq_A | apply sq_N | apply sq_D)); exact Kd.R_mono ze.out (fun _ hk => by simp [hk])), (by (with_reducible repeat (first | refine blk_drewN ?_ _ | refine blk_drew ?_ | refine blk_alloc ?_ _)); exact za.out), (by with_reducible repeat (first | exact HB.out | apply sq_b | apply sq_n | apply sq_d | refine below_set ?_ zx.out))⟩)
                   ·skip
                    (have hcv75 := own_string (P := Try.prog) Try.underlying22 Try.underlying5 Try.underlying9 (Kd.own_of_R zad.out); have hcv75d := fun n_ : Nat => own_string (P := Try.prog) Try.underlying22 Try.underlying5 Try.underlying9 (Kd.own_of_R (sq_N zad.out n_)))
                    refine value_ (w1 := ?_) (v := ?_) (by rfl) rfl ?_ ?_
                    rotate_left 2
                    ·go_simp
                     constructor
                     ·rfl
                     ·rfl
                    clear hcv75 hcv75d
                    refine hK.out _ _ ⟨(blk_cell za.out 0).trans rfl, (blk_cell za.out 1).trans rfl, (blk_cell za.out 2).trans rfl, (blk_cell za.out 3).trans rfl⟩ (fun hHeld => ?_)
                    clear hK K
                    refine norm_ (a' := ?_) ?_ ?_
                    rotate_left
                    ·show Act.put _ (some 65) _ = _
                     simp only [Act.put, sq_a1, sq_a2, sq_a3, i64_w, i32_w]
                     rfl
                    refine one_ (i := 3) (N := some 61) mk6 rfl rfl (one_of HT_.out (by kernel_rfl)) (by decide) (fun K hK => ?_)
                    (have hcv76 := own_string (P := Try.prog) Try.underlying22 Try.underlying5 Try.underlying9 (Kd.own_of_R ze.out); have hcv76d := fun n_ : Nat => own_string (P := Try.prog) Try.underlying22 Try.underlying5 Try.underlying9 (Kd.own_of_R (sq_N ze.out n_)))
                    refine value_ (w1 := ?_) (v := ?_) (by rfl) rfl ?_ ?_
                    rotate_left 2
                    ·go_simp
                     constructor
                     ·rfl
                     ·rfl
                    clear hcv76 hcv76d
                    refine hK.out _ _ ⟨(blk_cell za.out 0).trans rfl, (blk_cell za.out 1).trans rfl, (blk_cell za.out 2).trans rfl, (blk_cell za.out 3).trans rfl⟩ (fun hHeld => ?_)
                    clear hK K
                    refine norm_ (a' := ?_) ?_ ?_
                    rotate_left
                    ·show Act.put _ (some 61) _ = _
                     simp only [Act.put, sq_a1, sq_a2, sq_a3, i64_w, i32_w]
                     rfl
                    exact norm_ (by simp only [putAll, Act.put, sq_a1, sq_a2, sq_a3]) (hCont (zah) _ ⟨hHeld, (by (with_reducible repeat (first | apply sq_A | apply sq_N | apply sq_D)); exact Kd.R_mono zad.out (fun _ hk => by simp [hk])), (by (with_reducible repeat (first | apply sq_A | apply sq_N | apply sq_D)); exact Kd.R_mono zl.out (fun _ hk => by simp [hk])), (by (with_reducible repeat (first | apply sq_A | apply sq_N | apply sq_D)); exact Kd.R_mono zb.out (fun _ hk => by simp [hk])), (by (with_reducible repeat (first | apply sq_A | apply sq_N | apply sq_D)); exact Kd.R_mono zc.out (fun _ hk => by simp [hk])), (by (with_reducible repeat (first | apply sq_A | apply sq_N | apply sq_D)); exact Kd.R_mono zd.out (fun _ hk => by simp [hk])), (by (with_reducible repeat (first | apply sq_A | apply sq_N | apply sq_D)); exact Kd.R_mono ze.out (fun _ hk => by simp [hk])), (by (with_reducible repeat (first | refine blk_drewN ?_ _ | refine blk_drew ?_ | refine blk_alloc ?_ _)); exact za.out), (by with_reducible repeat (first | exact HB.out | apply sq_b | apply sq_n | apply sq_d | refine below_set ?_ zx.out))⟩)
                 rintro zah w77 ⟨hS_, h0_, h1_, h2_, h3_, h4_, h5_, h6_, h7_⟩
                 have n0_ : Aside0 (Kd.R (Kd.int .u8) 5 w77 w.heap.size (fun k_ => some k_ ≠ (.slice zu zg.length zv : Value).ownBlock ∧ some k_ ≠ (.slice zm zh.length zn : Value).ownBlock ∧ some k_ ≠ (.slice zo zi.length zp : Value).ownBlock ∧ some k_ ≠ (.slice zq zj.length zr : Value).ownBlock ∧ some k_ ≠ (.slice zs zk.length zt : Value).ownBlock) zah t195) := ⟨h0_⟩
                 have n1_ : Aside0 (Kd.R (Kd.int .u8) 5 w77 w.heap.size (fun k_ => some k_ ≠ (zah : Value).ownBlock ∧ some k_ ≠ (.slice zm zh.length zn : Value).ownBlock ∧ some k_ ≠ (.slice zo zi.length zp : Value).ownBlock ∧ some k_ ≠ (.slice zq zj.length zr : Value).ownBlock ∧ some k_ ≠ (.slice zs zk.length zt : Value).ownBlock) (.slice zu zg.length zv) zg) := ⟨h1_⟩
                 have n2_ : Aside0 (Kd.R (Kd.int .u8) 5 w77 w.heap.size (fun k_ => some k_ ≠ (zah : Value).ownBlock ∧ some k_ ≠ (.slice zu zg.length zv : Value).ownBlock ∧ some k_ ≠ (.slice zo zi.length zp : Value).ownBlock ∧ some k_ ≠ (.slice zq zj.length zr : Value).ownBlock ∧ some k_ ≠ (.slice zs zk.length zt : Value).ownBlock) (.slice zm zh.length zn) zh) := ⟨h2_⟩
                 have n3_ : Aside0 (Kd.R (Kd.int .u8) 5 w77 w.heap.size (fun k_ => some k_ ≠ (zah : Value).ownBlock ∧ some k_ ≠ (.slice zu zg.length zv : Value).ownBlock ∧ some k_ ≠ (.slice zm zh.length zn : Value).ownBlock ∧ some k_ ≠ (.slice zq zj.length zr : Value).ownBlock ∧ some k_ ≠ (.slice zs zk.length zt : Value).ownBlock) (.slice zo zi.length zp) zi) := ⟨h3_⟩
                 have n4_ : Aside0 (Kd.R (Kd.int .u8) 5 w77 w.heap.size (fun k_ => some k_ ≠ (zah : Value).ownBlock ∧ some k_ ≠ (.slice zu zg.length zv : Value).ownBlock ∧ some k_ ≠ (.slice zm zh.length zn : Value).ownBlock ∧ some k_ ≠ (.slice zo zi.length zp : Value).ownBlock ∧ some k_ ≠ (.slice zs zk.length zt : Value).ownBlock) (.slice zq zj.length zr) zj) := ⟨h4_⟩
                 have n5_ : Aside0 (Kd.R (Kd.int .u8) 5 w77 w.heap.size (fun k_ => some k_ ≠ (zah : Value).ownBlock ∧ some k_ ≠ (.slice zu zg.length zv : Value).ownBlock ∧ some k_ ≠ (.slice zm zh.length zn : Value).ownBlock ∧ some k_ ≠ (.slice zo zi.length zp : Value).ownBlock ∧ some k_ ≠ (.slice zq zj.length zr : Value).ownBlock) (.slice zs zk.length zt) zk) := ⟨h5_⟩
                 have n6_ : Aside0 (w77.heap[zf]? = some (.cells #[.slice zm zh.length zn, .slice zo zi.length zp, .slice zq zj.length zr, .slice zs zk.length zt] 23 (0, 0))) := ⟨h6_⟩
                 have n7_ : Aside0 (Below w.heap.size w w77) := ⟨h7_⟩
                 clear zl
                 clear zb
                 clear zc
                 clear zd
                 clear ze
                 clear za
                 clear HB
                 clear h0_ h1_ h2_ h3_ h4_ h5_ h6_ h7_
                 have zad := n0_
                 have zl := n1_
                 have zb := n2_
                 have zc := n3_
                 have zd := n4_
                 have ze := n5_
                 have za := n6_
                 have HB := n7_
                 clear n0_ n1_ n2_ n3_ n4_ n5_ n6_ n7_
                 have hHeld : w77.cell? ⟨zf, 0, none⟩ = some (.slice zm zh.length zn) ∧ w77.cell? ⟨zf, 1, none⟩ = some (.slice zo zi.length zp) ∧ w77.cell? ⟨zf, 2, none⟩ = some (.slice zq zj.length zr) ∧ w77.cell? ⟨zf, 3, none⟩ = some (.slice zs zk.length zt) := hS_
                 refine norm_ (a' := ?_) ?_ ?_
                 rotate_left
                 ·simp only [putAll, Act.put, sq_a1, sq_a2, sq_a3]
                  rfl
                 refine pure_ (i := 8) (N := some 66) (v := ?_) (a' := ?_) mk11 rfl rfl (any_of HT_.out (by kernel_rfl)) (fun _ _ _ h => h) (Or.inl ⟨by rfl, ?_⟩) ?_ ?_; rotate_left; (intro w'; go_simp; with_reducible rfl); rotate_left; (simp only [Act.put, sq_a1, sq_a2, sq_a3, i64_w, i32_w]; rfl)
                 refine done_ (done_of HT_.out (by kernel_rfl)) ?_
                 try go_wp2
                 go_roundg k2
                 case measure => have := HJ6.out; have := HK2.out; omega
                 case rel => exact ⟨(3 + 1), (by first | rfl | (simp; done) | (simp [*]; done)), H', ⟨by have := HJ6.out; have := HK2.out; omega⟩, ⟨by (with_reducible repeat (first | apply sq_A | apply sq_N | apply sq_D)); exact Kd.R_mono zl.out (fun _ hk => by simp [hk])⟩, ⟨by (with_reducible repeat (first | apply sq_A | apply sq_N | apply sq_D)); exact Kd.R_mono zb.out (fun _ hk => by simp [hk])⟩, ⟨by (with_reducible repeat (first | apply sq_A | apply sq_N | apply sq_D)); exact Kd.R_mono zc.out (fun _ hk => by simp [hk])⟩, ⟨by (with_reducible repeat (first | apply sq_A | apply sq_N | apply sq_D)); exact Kd.R_mono zd.out (fun _ hk => by simp [hk])⟩, ⟨by (with_reducible repeat (first | apply sq_A | apply sq_N | apply sq_D)); exact Kd.R_mono ze.out (fun _ hk => by simp [hk])⟩, ⟨by (with_reducible repeat (first | refine blk_drewN ?_ _ | refine blk_drew ?_ | refine blk_alloc ?_ _)); exact za.out⟩, ⟨by with_reducible repeat (first | exact HB.out | apply sq_b | apply sq_n | apply sq_d | refine below_set ?_ zx.out)⟩⟩
                ·rw [if_neg c72] at H
                 have c72b0 : ((strOfNums zk).toList == (strOfNums t195).toList) = false := beq_eq_false_iff_ne.mpr c72
                 have c72b1 : ((strOfNums zk).toList != (strOfNums t195).toList) = true := bne_iff_ne.mpr c72
                 obtain rfl := Option.some.inj H
                 try go_wp2
                 have n0_ := sq_m (sq_D zl.out)
                 have n1_ := sq_m (sq_D zb.out)
                 have n2_ := sq_m (sq_D zc.out)
                 have n3_ := sq_m (sq_D zd.out)
                 have n4_ := sq_m (sq_D ze.out)
                 have n5_ := sq_m (blk_drew za.out)
                 have n6_ := sq_m (sq_d HB.out)
                 clear zl
                 clear zb
                 clear zc
                 clear zd
                 clear ze
                 clear za
                 clear HB
                 have zl := n0_
                 have zb := n1_
                 have zc := n2_
                 have zd := n3_
                 have ze := n4_
                 have za := n5_
                 have HB := n6_
                 clear n0_ n1_ n2_ n3_ n4_ n5_ n6_
                 refine start_ (n := 9) (S := fun w' => w'.cell? ⟨zf, 0, none⟩ = some (.slice zm zh.length zn) ∧ w'.cell? ⟨zf, 1, none⟩ = some (.slice zo zi.length zp) ∧ w'.cell? ⟨zf, 2, none⟩ = some (.slice zq zj.length zr) ∧ w'.cell? ⟨zf, 3, none⟩ = some (.slice zs zk.length zt)) (ds := []) mk0 (by kernel_rfl) rfl rfl ⟨(blk_cell za.out 0).trans rfl, (blk_cell za.out 1).trans rfl, (blk_cell za.out 2).trans rfl, (blk_cell za.out 3).trans rfl⟩ (fun hHeld => ?_); refine with_tabW shuttlelaw11_VersionSplits.tab13 shuttlelaw11_VersionSplits.bits13 (fun HT_ HW_ => ?_)
                 generalize wr.drew = w78 at zl zb zc zd ze za HB hHeld ⊢
                 refine pure_ (i := 0) (N := some 58) (v := ?_) (a' := ?_) mk1 rfl rfl (any_of HT_.out (by kernel_rfl)) (fun _ _ _ h => h) (Or.inl ⟨by rfl, ?_⟩) ?_ ?_; rotate_left; (intro w'; go_simp; with_reducible rfl); rotate_left; (simp only [Act.put, sq_a1, sq_a2, sq_a3, i64_w, i32_w]; rfl)
                 refine pure_ (i := 1) (N := some 59) (v := ?_) (a' := ?_) mk2 rfl rfl (any_of HT_.out (by kernel_rfl)) (fun _ _ _ h => h) (Or.inl ⟨by rfl, ?_⟩) ?_ ?_; rotate_left; (intro w'; go_simp; with_reducible rfl); rotate_left; (simp only [Act.put, sq_a1, sq_a2, sq_a3, i64_w, i32_w]; rfl)
                 refine pure_ (i := 4) (N := some 62) (v := ?_) (a' := ?_) mk3 rfl rfl (any_of HT_.out (by kernel_rfl)) (fun _ _ _ h => h) (Or.inl ⟨by rfl, ?_⟩) ?_ ?_; rotate_left; (intro w'; go_simp; with_reducible rfl); rotate_left; (simp only [Act.put, sq_a1, sq_a2, sq_a3, i64_w, i32_w]; rfl)
                 refine pure_ (i := 5) (N := some 63) (v := ?_) (a' := ?_) mk4 rfl rfl (any_of HT_.out (by kernel_rfl)) (fun _ _ _ h => h) (Or.inl ⟨by rfl, ?_⟩) ?_ ?_; rotate_left; (intro w'; go_simp; with_reducible rfl); rotate_left; (simp only [Act.put, sq_a1, sq_a2, sq_a3, i64_w, i32_w]; rfl)
                 refine take_ (i := 2) (N := some 60) (v := ?_) (a' := ?_) mk5 rfl rfl (take_ofW HT_.out HW_.out (by kernel_rfl)) (fun _ _ _ h => h) (Or.inl ⟨by rfl, ?_⟩) hHeld ?_ ?_
                 rotate_left
                 ·rintro w' ⟨s0, s1, s2, s3⟩
                  go_simp
                  with_reducible rfl
                 rotate_left
                 ·simp only [Act.put, sq_a1, sq_a2, sq_a3, i64_w, i32_w]
                  rfl
                 refine join_ (σ := Value) 1 mk6 (fun s_ => [(61, .string (strOfNums zk)), (64, s_), (65, .string (strOfNums t195))]) (fun s_ w' => (w'.cell? ⟨zf, 0, none⟩ = some (.slice zm zh.length zn) ∧ w'.cell? ⟨zf, 1, none⟩ = some (.slice zo zi.length zp) ∧ w'.cell? ⟨zf, 2, none⟩ = some (.slice zq zj.length zr) ∧ w'.cell? ⟨zf, 3, none⟩ = some (.slice zs zk.length zt)) ∧ (Kd.R (Kd.int .u8) 5 w' w.heap.size (fun k_ => some k_ ≠ (.slice zu zg.length zv : Value).ownBlock ∧ some k_ ≠ (.slice zm zh.length zn : Value).ownBlock ∧ some k_ ≠ (.slice zo zi.length zp : Value).ownBlock ∧ some k_ ≠ (.slice zq zj.length zr : Value).ownBlock ∧ some k_ ≠ (.slice zs zk.length zt : Value).ownBlock) s_ t195) ∧ (Kd.R (Kd.int .u8) 5 w' w.heap.size (fun k_ => some k_ ≠ (s_ : Value).ownBlock ∧ some k_ ≠ (.slice zm zh.length zn : Value).ownBlock ∧ some k_ ≠ (.slice zo zi.length zp : Value).ownBlock ∧ some k_ ≠ (.slice zq zj.length zr : Value).ownBlock ∧ some k_ ≠ (.slice zs zk.length zt : Value).ownBlock) (.slice zu zg.length zv) zg) ∧ (Kd.R (Kd.int .u8) 5 w' w.heap.size (fun k_ => some k_ ≠ (s_ : Value).ownBlock ∧ some k_ ≠ (.slice zu zg.length zv : Value).ownBlock ∧ some k_ ≠ (.slice zo zi.length zp : Value).ownBlock ∧ some k_ ≠ (.slice zq zj.length zr : Value).ownBlock ∧ some k_ ≠ (.slice zs zk.length zt : Value).ownBlock) (.slice zm zh.length zn) zh) ∧ (Kd.R (Kd.int .u8) 5 w' w.heap.size (fun k_ => some k_ ≠ (s_ : Value).ownBlock ∧ some k_ ≠ (.slice zu zg.length zv : Value).ownBlock ∧ some k_ ≠ (.slice zm zh.length zn : Value).ownBlock ∧ some k_ ≠ (.slice zq zj.length zr : Value).ownBlock ∧ some k_ ≠ (.slice zs zk.length zt : Value).ownBlock) (.slice zo zi.length zp) zi) ∧ (Kd.R (Kd.int .u8) 5 w' w.heap.size (fun k_ => some k_ ≠ (s_ : Value).ownBlock ∧ some k_ ≠ (.slice zu zg.length zv : Value).ownBlock ∧ some k_ ≠ (.slice zm zh.length zn : Value).ownBlock ∧ some k_ ≠ (.slice zo zi.length zp : Value).ownBlock ∧ some k_ ≠ (.slice zs zk.length zt : Value).ownBlock) (.slice zq zj.length zr) zj) ∧ (Kd.R (Kd.int .u8) 5 w' w.heap.size (fun k_ => some k_ ≠ (s_ : Value).ownBlock ∧ some k_ ≠ (.slice zu zg.length zv : Value).ownBlock ∧ some k_ ≠ (.slice zm zh.length zn : Value).ownBlock ∧ some k_ ≠ (.slice zo zi.length zp : Value).ownBlock ∧ some k_ ≠ (.slice zq zj.length zr : Value).ownBlock) (.slice zs zk.length zt) zk) ∧ (w'.heap[zf]? = some (.cells #[.slice zm zh.length zn, .slice zo zi.length zp, .slice zq zj.length zr, .slice zs zk.length zt] 23 (0, 0))) ∧ (Below w.heap.size w w')) ?_ ?_
                 rotate_left
                 ·intro hCont
                  refine two_ (i := 3) (j := 6) (Ni := some 61) (Nj := some 64) mk7 mk8 rfl rfl rfl rfl (two_of HT_.out (by kernel_rfl)) (by decide) (by decide) (fun K hK => ?_) (fun K hK => ?_)
                  ·skip
                   (have hcv79 := own_string (P := Try.prog) Try.underlying22 Try.underlying5 Try.underlying9 (Kd.own_of_R ze.out); have hcv79d := fun n_ : Nat => own_string (P := Try.prog) Try.underlying22 Try.underlying5 Try.underlying9 (Kd.own_of_R (sq_N ze.out n_)))
                   refine value_ (w1 := ?_) (v := ?_) (by rfl) rfl ?_ ?_
                   rotate_left 2
                   ·go_simp
                    constructor
                    ·rfl
                    ·rfl
                   clear hcv79 hcv79d
                   refine hK.out _ _ ⟨(blk_cell za.out 0).trans rfl, (blk_cell za.out 1).trans rfl, (blk_cell za.out 2).trans rfl, (blk_cell za.out 3).trans rfl⟩ (fun hHeld => ?_)
                   clear hK K
                   refine norm_ (a' := ?_) ?_ ?_
                   rotate_left
                   ·show Act.put _ (some 61) _ = _
                    simp only [Act.put, sq_a1, sq_a2, sq_a3, i64_w, i32_w]
                    rfl
                   refine one_ (i := 6) (N := some 64) mk9 rfl rfl (one_of HT_.out (by kernel_rfl)) (by decide) (fun K hK => ?_)
                   refine goes_ Try.func11 (by kernel_rfl) rfl #[.slice zu zg.length zv, .int .i64 3] (by rfl) rfl rfl (by (try simp only [List.map_toArray, List.map_cons, List.map_nil]); first | done | rfl | (simp only [List.length_drop, List.length_take]; rfl)) ?_
                   with_reducible refine (shuttleref10_Pick.calls k2 _ _ zg 3 t195 _ ?side1 ?side2 A71.out).mono ?_
                   (case side1 => repeat (first | exact (Kd.R_reads' zl.out).2.2 | (with_reducible refine Kd.C_alloc ?_ _) | (with_reducible refine Kd.C_drewN ?_ _) | (with_reducible refine Kd.C_drew ?_)))
                   (case side2 => exact (Kd.R_reads' zl.out).2.1)
                   rintro e w80 ⟨zah, rfl, zw, hb⟩
                   refine ⟨_, rfl, ?_⟩
                   have n0_ := sq_m (Kd.R_elder' (sq_R zl.out) (Kd.R_base zw) hb)
                   have n1_ := sq_m (Kd.R_elder' (sq_R zb.out) (Kd.R_base zw) hb)
                   have n2_ := sq_m (Kd.R_elder' (sq_R zc.out) (Kd.R_base zw) hb)
                   have n3_ := sq_m (Kd.R_elder' (sq_R zd.out) (Kd.R_base zw) hb)
                   have n4_ := sq_m (Kd.R_elder' (sq_R ze.out) (Kd.R_base zw) hb)
                   have n5_ := sq_m (Kd.R_lower (Kd.R_new' (Kd.R_new' (Kd.R_new' (Kd.R_new' (Kd.R_new' zw (Kd.R_lt (sq_R zl.out))) (Kd.R_lt (sq_R zb.out))) (Kd.R_lt (sq_R zc.out))) (Kd.R_lt (sq_R zd.out))) (Kd.R_lt (sq_R ze.out))) (below_size (by with_reducible repeat (first | exact HB.out | apply sq_b | apply sq_n | apply sq_d | refine below_set ?_ zx.out))))
                   have n6_ := sq_m (blk_below (g := zf) (o := .cells #[.slice zm zh.length zn, .slice zo zi.length zp, .slice zq zj.length zr, .slice zs zk.length zt] 23 (0, 0)) (by (with_reducible repeat (first | refine blk_drewN ?_ _ | refine blk_drew ?_ | refine blk_alloc ?_ _)); exact za.out) hb)
                   have n7_ := sq_m (below_step (by with_reducible repeat (first | exact HB.out | apply sq_b | apply sq_n | apply sq_d | refine below_set ?_ zx.out)) hb)
                   clear zl
                   clear zb
                   clear zc
                   clear zd
                   clear ze
                   clear za
                   clear HB
                   have zl := n0_
                   have zb := n1_
                   have zc := n2_
                   have zd := n3_
                   have ze := n4_
                   have zad := n5_
                   have za := n6_
                   have HB := n7_
                   clear n0_ n1_ n2_ n3_ n4_ n5_ n6_ n7_
                   (try clear hb)
                   (try clear hb2)
                   (try clear hk)
                   (try clear hi)
                   (try clear zw)
                   refine hK.out _ _ ⟨(blk_cell za.out 0).trans rfl, (blk_cell za.out 1).trans rfl, (blk_cell za.out 2).trans rfl, (blk_cell za.out 3).trans rfl⟩ (fun hHeld => ?_)
                   clear hK K
                   refine norm_ (a' := ?_) ?_ ?_
                   rotate_left
                   ·show Act.put _ (some 64) _ = _
                    simp only [Act.put, sq_a1, sq_a2, sq_a3, i64_w, i32_w]
                    rfl
                   refine one_ (i := 7) (N := some 65) mk6 rfl rfl (one_of HT_.out (by kernel_rfl)) (by decide) (fun K hK => ?_)
                   (have hcv81 := own_string (P := Try.prog) Try.underlying22 Try.underlying5 Try.underlying9 (Kd.own_of_R zad.out); have hcv81d := fun n_ : Nat => own_string (P := Try.prog) Try.underlying22 Try.underlying5 Try.underlying9 (Kd.own_of_R (sq_N zad.out n_)))
                   refine value_ (w1 := ?_) (v := ?_) (by rfl) rfl ?_ ?_
                   rotate_left 2
                   ·go_simp
                    constructor
                    ·rfl
                    ·rfl
                   clear hcv81 hcv81d
                   refine hK.out _ _ ⟨(blk_cell za.out 0).trans rfl, (blk_cell za.out 1).trans rfl, (blk_cell za.out 2).trans rfl, (blk_cell za.out 3).trans rfl⟩ (fun hHeld => ?_)
                   clear hK K
                   refine norm_ (a' := ?_) ?_ ?_
                   rotate_left
                   ·show Act.put _ (some 65) _ = _
                    simp only [Act.put, sq_a1, sq_a2, sq_a3, i64_w, i32_w]
                    rfl
                   exact norm_ (by simp only [putAll, Act.put, sq_a1, sq_a2, sq_a3]) (hCont (zah) _ ⟨hHeld, (by (with_reducible repeat (first | apply sq_A | apply sq_N | apply sq_D)); exact Kd.R_mono zad.out (fun _ hk => by simp [hk])), (by (with_reducible repeat (first | apply sq_A | apply sq_N | apply sq_D)); exact Kd.R_mono zl.out (fun _ hk => by simp [hk])), (by (with_reducible repeat (first | apply sq_A | apply sq_N | apply sq_D)); exact Kd.R_mono zb.out (fun _ hk => by simp [hk])), (by (with_reducible repeat (first | apply sq_A | apply sq_N | apply sq_D)); exact Kd.R_mono zc.out (fun _ hk => by simp [hk])), (by (with_reducible repeat (first | apply sq_A | apply sq_N | apply sq_D)); exact Kd.R_mono zd.out (fun _ hk => by simp [hk])), (by (with_reducible repeat (first | apply sq_A | apply sq_N | apply sq_D)); exact Kd.R_mono ze.out (fun _ hk => by simp [hk])), (by (with_reducible repeat (first | refine blk_drewN ?_ _ | refine blk_drew ?_ | refine blk_alloc ?_ _)); exact za.out), (by with_reducible repeat (first | exact HB.out | apply sq_b | apply sq_n | apply sq_d | refine below_set ?_ zx.out))⟩)
                  ·skip
                   refine goes_ Try.func11 (by kernel_rfl) rfl #[.slice zu zg.length zv, .int .i64 3] (by rfl) rfl rfl (by (try simp only [List.map_toArray, List.map_cons, List.map_nil]); first | done | rfl | (simp only [List.length_drop, List.length_take]; rfl)) ?_
                   with_reducible refine (shuttleref10_Pick.calls k2 _ _ zg 3 t195 _ ?side1 ?side2 A71.out).mono ?_
                   (case side1 => repeat (first | exact (Kd.R_reads' zl.out).2.2 | (with_reducible refine Kd.C_alloc ?_ _) | (with_reducible refine Kd.C_drewN ?_ _) | (with_reducible refine Kd.C_drew ?_)))
                   (case side2 => exact (Kd.R_reads' zl.out).2.1)
                   rintro e w79 ⟨zah, rfl, zw, hb⟩
                   refine ⟨_, rfl, ?_⟩
                   have n0_ := sq_m (Kd.R_elder' (sq_R zl.out) (Kd.R_base zw) hb)
                   have n1_ := sq_m (Kd.R_elder' (sq_R zb.out) (Kd.R_base zw) hb)
                   have n2_ := sq_m (Kd.R_elder' (sq_R zc.out) (Kd.R_base zw) hb)
                   have n3_ := sq_m (Kd.R_elder' (sq_R zd.out) (Kd.R_base zw) hb)
                   have n4_ := sq_m (Kd.R_elder' (sq_R ze.out) (Kd.R_base zw) hb)
                   have n5_ := sq_m (Kd.R_lower (Kd.R_new' (Kd.R_new' (Kd.R_new' (Kd.R_new' (Kd.R_new' zw (Kd.R_lt (sq_R zl.out))) (Kd.R_lt (sq_R zb.out))) (Kd.R_lt (sq_R zc.out))) (Kd.R_lt (sq_R zd.out))) (Kd.R_lt (sq_R ze.out))) (below_size (by with_reducible repeat (first | exact HB.out | apply sq_b | apply sq_n | apply sq_d | refine below_set ?_ zx.out))))
                   have n6_ := sq_m (blk_below (g := zf) (o := .cells #[.slice zm zh.length zn, .slice zo zi.length zp, .slice zq zj.length zr, .slice zs zk.length zt] 23 (0, 0)) (by (with_reducible repeat (first | refine blk_drewN ?_ _ | refine blk_drew ?_ | refine blk_alloc ?_ _)); exact za.out) hb)
                   have n7_ := sq_m (below_step (by with_reducible repeat (first | exact HB.out | apply sq_b | apply sq_n | apply sq_d | refine below_set ?_ zx.out)) hb)
                   clear zl
                   clear zb
                   clear zc
                   clear zd
                   clear ze
                   clear za
                   clear HB
                   have zl := n0_
                   have zb := n1_
                   have zc := n2_
                   have zd := n3_
                   have ze := n4_
                   have zad := n5_
                   have za := n6_
                   have HB := n7_
                   clear n0_ n1_ n2_ n3_ n4_ n5_ n6_ n7_
                   (try clear hb)
                   (try clear hb2)
                   (try clear hk)
                   (try clear hi)
                   (try clear zw)
                   refine hK.out _ _ ⟨(blk_cell za.out 0).trans rfl, (blk_cell za.out 1).trans rfl, (blk_cell za.out 2).trans rfl, (blk_cell za.out 3).trans rfl⟩ (fun hHeld => ?_)
                   clear hK K
                   refine norm_ (a' := ?_) ?_ ?_
                   rotate_left
                   ·show Act.put _ (some 64) _ = _
                    simp only [Act.put, sq_a1, sq_a2, sq_a3, i64_w, i32_w]
                    rfl
                   refine two_ (i := 3) (j := 7) (Ni := some 61) (Nj := some 65) mk9 mk10 rfl rfl rfl rfl (two_of HT_.out (by kernel_rfl)) (by decide) (by decide) (fun K hK => ?_) (fun K hK => ?_)
                   ·skip
                    (have hcv80 := own_string (P := Try.prog) Try.underlying22 Try.underlying5 Try.underlying9 (Kd.own_of_R ze.out); have hcv80d := fun n_ : Nat => own_string (P := Try.prog) Try.underlying22 Try.underlying5 Try.underlying9 (Kd.own_of_R (sq_N ze.out n_)))
                    refine value_ (w1 := ?_) (v := ?_) (by rfl) rfl ?_ ?_
                    rotate_left 2
                    ·go_simp
                     constructor
                     ·rfl
                     ·rfl
                    clear hcv80 hcv80d
                    refine hK.out _ _ ⟨(blk_cell za.out 0).trans rfl, (blk_cell za.out 1).trans rfl, (blk_cell za.out 2).trans rfl, (blk_cell za.out 3).trans rfl⟩ (fun hHeld => ?_)
                    clear hK K
                    refine norm_ (a' := ?_) ?_ ?_
                    rotate_left
                    ·show Act.put _ (some 61) _ = _
                     simp only [Act.put, sq_a1, sq_a2, sq_a3, i64_w, i32_w]
                     rfl
                    refine one_ (i := 7) (N := some 65) mk6 rfl rfl (one_of HT_.out (by kernel_rfl)) (by decide) (fun K hK => ?_)
                    (have hcv81 := own_string (P := Try.prog) Try.underlying22 Try.underlying5 Try.underlying9 (Kd.own_of_R zad.out); have hcv81d := fun n_ : Nat => own_string (P := Try.prog) Try.underlying22 Try.underlying5 Try.underlying9 (Kd.own_of_R (sq_N zad.out n_)))
                    refine value_ (w1 := ?_) (v := ?_) (by rfl) rfl ?_ ?_
                    rotate_left 2
                    ·go_simp
                     constructor
                     ·rfl
                     ·rfl
                    clear hcv81 hcv81d
                    refine hK.out _ _ ⟨(blk_cell za.out 0).trans rfl, (blk_cell za.out 1).trans rfl, (blk_cell za.out 2).trans rfl, (blk_cell za.out 3).trans rfl⟩ (fun hHeld => ?_)
                    clear hK K
                    refine norm_ (a' := ?_) ?_ ?_
                    rotate_left
                    ·show Act.put _ (some 65) _ = _
                     simp only [Act.put, sq_a1, sq_a2, sq_a3, i64_w, i32_w]
                     rfl
                    exact norm_ (by simp only [putAll, Act.put, sq_a1, sq_a2, sq_a3]) (hCont (zah) _ ⟨hHeld, (by (with_reducible repeat (first | apply sq_A | apply sq_N | apply sq_D)); exact Kd.R_mono zad.out (fun _ hk => by simp [hk])), (by (with_reducible repeat (first | apply sq_A | apply sq_N | apply sq_D)); exact Kd.R_mono zl.out (fun _ hk => by simp [hk])), (by (with_reducible repeat (first | apply sq_A | apply sq_N | apply sq_D)); exact Kd.R_mono zb.out (fun _ hk => by simp [hk])), (by (with_reducible repeat (first | apply sq_A | apply sq_N | apply sq_D)); exact Kd.R_mono zc.out (fun _ hk => by simp [hk])), (by (with_reducible repeat (first | apply sq_A | apply sq_N | apply sq_D)); exact Kd.R_mono zd.out (fun _ hk => by simp [hk])), (by (with_reducible repeat (first | apply sq_A | apply sq_N | apply sq_D)); exact Kd.R_mono ze.out (fun _ hk => by simp [hk])), (by (with_reducible repeat (first | refine blk_drewN ?_ _ | refine blk_drew ?_ | refine blk_alloc ?_ _)); exact za.out), (by with_reducible repeat (first | exact HB.out | apply sq_b | apply sq_n | apply sq_d | refine below_set ?_ zx.out))⟩)
                   ·skip
                    (have hcv80 := own_string (P := Try.prog) Try.underlying22 Try.underlying5 Try.underlying9 (Kd.own_of_R zad.out); have hcv80d := fun n_ : Nat => own_string (P := Try.prog) Try.underlying22 Try.underlying5 Try.underlying9 (Kd.own_of_R (sq_N zad.out n_)))
                    refine value_ (w1 := ?_) (v := ?_) (by rfl) rfl ?_ ?_
                    rotate_left 2
                    ·go_simp
                     constructor
                     ·rfl
                     ·rfl
                    clear hcv80 hcv80d
                    refine hK.out _ _ ⟨(blk_cell za.out 0).trans rfl, (blk_cell za.out 1).trans rfl, (blk_cell za.out 2).trans rfl, (blk_cell za.out 3).trans rfl⟩ (fun hHeld => ?_)
                    clear hK K
                    refine norm_ (a' := ?_) ?_ ?_
                    rotate_left
                    ·show Act.put _ (some 65) _ = _
                     simp only [Act.put, sq_a1, sq_a2, sq_a3, i64_w, i32_w]
                     rfl
                    refine one_ (i := 3) (N := some 61) mk6 rfl rfl (one_of HT_.out (by kernel_rfl)) (by decide) (fun K hK => ?_)
                    (have hcv81 := own_string (P := Try.prog) Try.underlying22 Try.underlying5 Try.underlying9 (Kd.own_of_R ze.out); have hcv81d := fun n_ : Nat => own_string (P := Try.prog) Try.underlying22 Try.underlying5 Try.underlying9 (Kd.own_of_R (sq_N ze.out n_)))
                    refine value_ (w1 := ?_) (v := ?_) (by rfl) rfl ?_ ?_
                    rotate_left 2
                    ·go_simp
                     constructor
                     ·rfl
                     ·rfl
                    clear hcv81 hcv81d
                    refine hK.out _ _ ⟨(blk_cell za.out 0).trans rfl, (blk_cell za.out 1).trans rfl, (blk_cell za.out 2).trans rfl, (blk_cell za.out 3).trans rfl⟩ (fun hHeld => ?_)
                    clear hK K
                    refine norm_ (a' := ?_) ?_ ?_
                    rotate_left
                    ·show Act.put _ (some 61) _ = _
                     simp only [Act.put, sq_a1, sq_a2, sq_a3, i64_w, i32_w]
                     rfl
                    exact norm_ (by simp only [putAll, Act.put, sq_a1, sq_a2, sq_a3]) (hCont (zah) _ ⟨hHeld, (by (with_reducible repeat (first | apply sq_A | apply sq_N | apply sq_D)); exact Kd.R_mono zad.out (fun _ hk => by simp [hk])), (by (with_reducible repeat (first | apply sq_A | apply sq_N | apply sq_D)); exact Kd.R_mono zl.out (fun _ hk => by simp [hk])), (by (with_reducible repeat (first | apply sq_A | apply sq_N | apply sq_D)); exact Kd.R_mono zb.out (fun _ hk => by simp [hk])), (by (with_reducible repeat (first | apply sq_A | apply sq_N | apply sq_D)); exact Kd.R_mono zc.out (fun _ hk => by simp [hk])), (by (with_reducible repeat (first | apply sq_A | apply sq_N | apply sq_D)); exact Kd.R_mono zd.out (fun _ hk => by simp [hk])), (by (with_reducible repeat (first | apply sq_A | apply sq_N | apply sq_D)); exact Kd.R_mono ze.out (fun _ hk => by simp [hk])), (by (with_reducible repeat (first | refine blk_drewN ?_ _ | refine blk_drew ?_ | refine blk_alloc ?_ _)); exact za.out), (by with_reducible repeat (first | exact HB.out | apply sq_b | apply sq_n | apply sq_d | refine below_set ?_ zx.out))⟩)
                 rintro zah w82 ⟨hS_, h0_, h1_, h2_, h3_, h4_, h5_, h6_, h7_⟩
                 have n0_ : Aside0 (Kd.R (Kd.int .u8) 5 w82 w.heap.size (fun k_ => some k_ ≠ (.slice zu zg.length zv : Value).ownBlock ∧ some k_ ≠ (.slice zm zh.length zn : Value).ownBlock ∧ some k_ ≠ (.slice zo zi.length zp : Value).ownBlock ∧ some k_ ≠ (.slice zq zj.length zr : Value).ownBlock ∧ some k_ ≠ (.slice zs zk.length zt : Value).ownBlock) zah t195) := ⟨h0_⟩
                 have n1_ : Aside0 (Kd.R (Kd.int .u8) 5 w82 w.heap.size (fun k_ => some k_ ≠ (zah : Value).ownBlock ∧ some k_ ≠ (.slice zm zh.length zn : Value).ownBlock ∧ some k_ ≠ (.slice zo zi.length zp : Value).ownBlock ∧ some k_ ≠ (.slice zq zj.length zr : Value).ownBlock ∧ some k_ ≠ (.slice zs zk.length zt : Value).ownBlock) (.slice zu zg.length zv) zg) := ⟨h1_⟩
                 have n2_ : Aside0 (Kd.R (Kd.int .u8) 5 w82 w.heap.size (fun k_ => some k_ ≠ (zah : Value).ownBlock ∧ some k_ ≠ (.slice zu zg.length zv : Value).ownBlock ∧ some k_ ≠ (.slice zo zi.length zp : Value).ownBlock ∧ some k_ ≠ (.slice zq zj.length zr : Value).ownBlock ∧ some k_ ≠ (.slice zs zk.length zt : Value).ownBlock) (.slice zm zh.length zn) zh) := ⟨h2_⟩
                 have n3_ : Aside0 (Kd.R (Kd.int .u8) 5 w82 w.heap.size (fun k_ => some k_ ≠ (zah : Value).ownBlock ∧ some k_ ≠ (.slice zu zg.length zv : Value).ownBlock ∧ some k_ ≠ (.slice zm zh.length zn : Value).ownBlock ∧ some k_ ≠ (.slice zq zj.length zr : Value).ownBlock ∧ some k_ ≠ (.slice zs zk.length zt : Value).ownBlock) (.slice zo zi.length zp) zi) := ⟨h3_⟩
                 have n4_ : Aside0 (Kd.R (Kd.int .u8) 5 w82 w.heap.size (fun k_ => some k_ ≠ (zah : Value).ownBlock ∧ some k_ ≠ (.slice zu zg.length zv : Value).ownBlock ∧ some k_ ≠ (.slice zm zh.length zn : Value).ownBlock ∧ some k_ ≠ (.slice zo zi.length zp : Value).ownBlock ∧ some k_ ≠ (.slice zs zk.length zt : Value).ownBlock) (.slice zq zj.length zr) zj) := ⟨h4_⟩
                 have n5_ : Aside0 (Kd.R (Kd.int .u8) 5 w82 w.heap.size (fun k_ => some k_ ≠ (zah : Value).ownBlock ∧ some k_ ≠ (.slice zu zg.length zv : Value).ownBlock ∧ some k_ ≠ (.slice zm zh.length zn : Value).ownBlock ∧ some k_ ≠ (.slice zo zi.length zp : Value).ownBlock ∧ some k_ ≠ (.slice zq zj.length zr : Value).ownBlock) (.slice zs zk.length zt) zk) := ⟨h5_⟩
                 have n6_ : Aside0 (w82.heap[zf]? = some (.cells #[.slice zm zh.length zn, .slice zo zi.length zp, .slice zq zj.length zr, .slice zs zk.length zt] 23 (0, 0))) := ⟨h6_⟩
                 have n7_ : Aside0 (Below w.heap.size w w82) := ⟨h7_⟩
                 clear zl
                 clear zb
                 clear zc
                 clear zd
                 clear ze
                 clear za
                 clear HB
                 clear h0_ h1_ h2_ h3_ h4_ h5_ h6_ h7_
                 have zad := n0_
                 have zl := n1_
                 have zb := n2_
                 have zc := n3_
                 have zd := n4_
                 have ze := n5_
                 have za := n6_
                 have HB := n7_
                 clear n0_ n1_ n2_ n3_ n4_ n5_ n6_ n7_
                 have hHeld : w82.cell? ⟨zf, 0, none⟩ = some (.slice zm zh.length zn) ∧ w82.cell? ⟨zf, 1, none⟩ = some (.slice zo zi.length zp) ∧ w82.cell? ⟨zf, 2, none⟩ = some (.slice zq zj.length zr) ∧ w82.cell? ⟨zf, 3, none⟩ = some (.slice zs zk.length zt) := hS_
                 refine norm_ (a' := ?_) ?_ ?_
                 rotate_left
                 ·simp only [putAll, Act.put, sq_a1, sq_a2, sq_a3]
                  rfl
                 refine pure_ (i := 8) (N := some 66) (v := ?_) (a' := ?_) mk11 rfl rfl (any_of HT_.out (by kernel_rfl)) (fun _ _ _ h => h) (Or.inl ⟨by rfl, ?_⟩) ?_ ?_; rotate_left; (intro w'; go_simp; with_reducible rfl); rotate_left; (simp only [Act.put, sq_a1, sq_a2, sq_a3, i64_w, i32_w]; rfl)
                 refine done_ (done_of HT_.out (by kernel_rfl)) ?_
                 try go_wp2
                 go_ret
                 exact ⟨by first | rfl | (simp [errW_none, errW_some] <;> rfl) | (simp only [← hji2]; first | rfl | (simp [errW_none, errW_some] <;> rfl)) | (simp [*, errW_none, errW_some] <;> rfl), by with_reducible repeat (first | exact HB.out | apply sq_b | apply sq_n | apply sq_d | refine below_set ?_ zx.out)⟩
               ·rw [if_neg c70] at H
                clear c70
                exact absurd H (by simp)
           ·rw [if_neg c30] at H
            have c30b0 : decide (x6_2 < 4) = false := decide_eq_false c30
            clear c30
            replace H := Option.bind_eq_some_iff.mp H
            obtain ⟨⟨t207, t210⟩, A830, H⟩ := H
            replace H : (if zy = 0 then (if t210 = 0 then (some ((strOfNums t207).toList == (strOfNums zg).toList)) else (some false)) else (some false)) = some r := H
            have A83 := sq_m A830
            clear A830
            by_cases c84 : zy = 0
            ·rw [if_pos c84] at H
             have c84b0 : (zy == 0) = true := beq_iff_eq.mpr c84
             have c84b1 : (zy != 0) = false := bne_eq_false_iff_eq.mpr c84
             clear c84
             by_cases c85 : t210 = 0
             ·rw [if_pos c85] at H
              have c85b0 : (t210 == 0) = true := beq_iff_eq.mpr c85
              have c85b1 : (t210 != 0) = false := bne_eq_false_iff_eq.mpr c85
              clear c85
              obtain rfl := Option.some.inj H
              have hcz86_0 : wr.cell? ⟨zf, 0, none⟩ = some (.slice zm zh.length zn) := (blk_cell za.out 0).trans rfl
              have hcz86_1 : wr.cell? ⟨zf, 1, none⟩ = some (.slice zo zi.length zp) := (blk_cell za.out 1).trans rfl
              have hcz86_2 : wr.cell? ⟨zf, 2, none⟩ = some (.slice zq zj.length zr) := (blk_cell za.out 2).trans rfl
              have hcz86_3 : wr.cell? ⟨zf, 3, none⟩ = some (.slice zs zk.length zt) := (blk_cell za.out 3).trans rfl
              have hfz86_0 := blk_frozen za.out 0
              have hfz86_1 := blk_frozen za.out 1
              have hfz86_2 := blk_frozen za.out 2
              have hfz86_3 := blk_frozen za.out 3
              go_wp2_with (first | ((with_reducible refine gate_callee (f := 12) rfl ?_); refine goesL_ (some 69) rfl rfl Try.func12 (by kernel_rfl) rfl #[.agg #[.slice zm zh.length zn, .slice zo zi.length zp, .slice zq zj.length zr, .slice zs zk.length zt]] rfl (by (try simp only [List.map_toArray, List.map_cons, List.map_nil]); first | done | rfl | (simp only [List.length_drop, List.length_take]; rfl)) ?_; (with_reducible refine (version_Join.calls k2 _ _ zh _ _ zi _ _ zj _ _ zk t207 t210 _ ?side1 ?side2 ?side3 ?side4 ?side5 ?side6 ?side7 ?side8 A83.out).mono ?_); (case side1 => repeat (first | exact (Kd.R_reads' zb.out).2.2 | (with_reducible refine Kd.C_alloc ?_ _) | (with_reducible refine Kd.C_drewN ?_ _) | (with_reducible refine Kd.C_drew ?_))); (case side2 => exact (Kd.R_reads' zb.out).2.1); (case side3 => repeat (first | exact (Kd.R_reads' zc.out).2.2 | (with_reducible refine Kd.C_alloc ?_ _) | (with_reducible refine Kd.C_drewN ?_ _) | (with_reducible refine Kd.C_drew ?_))); (case side4 => exact (Kd.R_reads' zc.out).2.1); (case side5 => repeat (first | exact (Kd.R_reads' zd.out).2.2 | (with_reducible refine Kd.C_alloc ?_ _) | (with_reducible refine Kd.C_drewN ?_ _) | (with_reducible refine Kd.C_drew ?_))); (case side6 => exact (Kd.R_reads' zd.out).2.1); (case side7 => repeat (first | exact (Kd.R_reads' ze.out).2.2 | (with_reducible refine Kd.C_alloc ?_ _) | (with_reducible refine Kd.C_drewN ?_ _) | (with_reducible refine Kd.C_drew ?_))); (case side8 => exact (Kd.R_reads' ze.out).2.1); rintro e w87 ⟨v208, rfl, zw, hb⟩; refine ⟨_, rfl, ?_⟩; have n0_ := sq_m (Kd.R_elder' (sq_R zl.out) (Kd.R_base zw) hb); have n1_ := sq_m (Kd.R_elder' (sq_R zb.out) (Kd.R_base zw) hb); have n2_ := sq_m (Kd.R_elder' (sq_R zc.out) (Kd.R_base zw) hb); have n3_ := sq_m (Kd.R_elder' (sq_R zd.out) (Kd.R_base zw) hb); have n4_ := sq_m (Kd.R_elder' (sq_R ze.out) (Kd.R_base zw) hb); have n5_ := sq_m (Kd.R_lower (Kd.R_new' (Kd.R_new' (Kd.R_new' (Kd.R_new' (Kd.R_new' zw (Kd.R_lt (sq_R zl.out))) (Kd.R_lt (sq_R zb.out))) (Kd.R_lt (sq_R zc.out))) (Kd.R_lt (sq_R zd.out))) (Kd.R_lt (sq_R ze.out))) (below_size (by with_reducible repeat (first | exact HB.out | apply sq_b | apply sq_n | apply sq_d | refine below_set ?_ zx.out)))); have n6_ := sq_m (blk_below (g := zf) (o := .cells #[.slice zm zh.length zn, .slice zo zi.length zp, .slice zq zj.length zr, .slice zs zk.length zt] 23 (0, 0)) (by (with_reducible repeat (first | refine blk_drewN ?_ _ | refine blk_drew ?_ | refine blk_alloc ?_ _)); exact za.out) hb); have n7_ := sq_m (below_step (by with_reducible repeat (first | exact HB.out | apply sq_b | apply sq_n | apply sq_d | refine below_set ?_ zx.out)) hb); clear zl; clear zb; clear zc; clear zd; clear ze; clear za; clear HB; have zl := n0_; have zb := n1_; have zc := n2_; have zd := n3_; have ze := n4_; have HO209 := n5_; have za := n6_; have HB := n7_; clear n0_ n1_ n2_ n3_ n4_ n5_ n6_ n7_; (try clear hb); (try clear hb2); (try clear hk); (try clear hi); (try clear zw); have hcv88 := own_string (P := Try.prog) Try.underlying22 Try.underlying5 Try.underlying9 (Kd.own_of_R HO209.out)))
              go_ret
              exact ⟨by first | rfl | (simp [errW_none, errW_some] <;> rfl) | (simp only [← hji2]; first | rfl | (simp [errW_none, errW_some] <;> rfl)) | (simp [*, errW_none, errW_some] <;> rfl), by with_reducible repeat (first | exact HB.out | apply sq_b | apply sq_n | apply sq_d | refine below_set ?_ zx.out)⟩
             ·rw [if_neg c85] at H
              have c85b0 : (t210 == 0) = false := beq_eq_false_iff_ne.mpr c85
              have c85b1 : (t210 != 0) = true := bne_iff_ne.mpr c85
              obtain rfl := Option.some.inj H
              have hcz89_0 : wr.cell? ⟨zf, 0, none⟩ = some (.slice zm zh.length zn) := (blk_cell za.out 0).trans rfl
              have hcz89_1 : wr.cell? ⟨zf, 1, none⟩ = some (.slice zo zi.length zp) := (blk_cell za.out 1).trans rfl
              have hcz89_2 : wr.cell? ⟨zf, 2, none⟩ = some (.slice zq zj.length zr) := (blk_cell za.out 2).trans rfl
              have hcz89_3 : wr.cell? ⟨zf, 3, none⟩ = some (.slice zs zk.length zt) := (blk_cell za.out 3).trans rfl
              have hfz89_0 := blk_frozen za.out 0
              have hfz89_1 := blk_frozen za.out 1
              have hfz89_2 := blk_frozen za.out 2
              have hfz89_3 := blk_frozen za.out 3
              go_wp2_with (first | ((with_reducible refine gate_callee (f := 12) rfl ?_); refine goesL_ (some 69) rfl rfl Try.func12 (by kernel_rfl) rfl #[.agg #[.slice zm zh.length zn, .slice zo zi.length zp, .slice zq zj.length zr, .slice zs zk.length zt]] rfl (by (try simp only [List.map_toArray, List.map_cons, List.map_nil]); first | done | rfl | (simp only [List.length_drop, List.length_take]; rfl)) ?_; (with_reducible refine (version_Join.calls k2 _ _ zh _ _ zi _ _ zj _ _ zk t207 t210 _ ?side1 ?side2 ?side3 ?side4 ?side5 ?side6 ?side7 ?side8 A83.out).mono ?_); (case side1 => repeat (first | exact (Kd.R_reads' zb.out).2.2 | (with_reducible refine Kd.C_alloc ?_ _) | (with_reducible refine Kd.C_drewN ?_ _) | (with_reducible refine Kd.C_drew ?_))); (case side2 => exact (Kd.R_reads' zb.out).2.1); (case side3 => repeat (first | exact (Kd.R_reads' zc.out).2.2 | (with_reducible refine Kd.C_alloc ?_ _) | (with_reducible refine Kd.C_drewN ?_ _) | (with_reducible refine Kd.C_drew ?_))); (case side4 => exact (Kd.R_reads' zc.out).2.1); (case side5 => repeat (first | exact (Kd.R_reads' zd.out).2.2 | (with_reducible refine Kd.C_alloc ?_ _) | (with_reducible refine Kd.C_drewN ?_ _) | (with_reducible refine Kd.C_drew ?_))); (case side6 => exact (Kd.R_reads' zd.out).2.1); (case side7 => repeat (first | exact (Kd.R_reads' ze.out).2.2 | (with_reducible refine Kd.C_alloc ?_ _) | (with_reducible refine Kd.C_drewN ?_ _) | (with_reducible refine Kd.C_drew ?_))); (case side8 => exact (Kd.R_reads' ze.out).2.1); rintro e w90 ⟨v208, rfl, zw, hb⟩; refine ⟨_, rfl, ?_⟩; have n0_ := sq_m (Kd.R_elder' (sq_R zl.out) (Kd.R_base zw) hb); have n1_ := sq_m (Kd.R_elder' (sq_R zb.out) (Kd.R_base zw) hb); have n2_ := sq_m (Kd.R_elder' (sq_R zc.out) (Kd.R_base zw) hb); have n3_ := sq_m (Kd.R_elder' (sq_R zd.out) (Kd.R_base zw) hb); have n4_ := sq_m (Kd.R_elder' (sq_R ze.out) (Kd.R_base zw) hb); have n5_ := sq_m (Kd.R_lower (Kd.R_new' (Kd.R_new' (Kd.R_new' (Kd.R_new' (Kd.R_new' zw (Kd.R_lt (sq_R zl.out))) (Kd.R_lt (sq_R zb.out))) (Kd.R_lt (sq_R zc.out))) (Kd.R_lt (sq_R zd.out))) (Kd.R_lt (sq_R ze.out))) (below_size (by with_reducible repeat (first | exact HB.out | apply sq_b | apply sq_n | apply sq_d | refine below_set ?_ zx.out)))); have n6_ := sq_m (blk_below (g := zf) (o := .cells #[.slice zm zh.length zn, .slice zo zi.length zp, .slice zq zj.length zr, .slice zs zk.length zt] 23 (0, 0)) (by (with_reducible repeat (first | refine blk_drewN ?_ _ | refine blk_drew ?_ | refine blk_alloc ?_ _)); exact za.out) hb); have n7_ := sq_m (below_step (by with_reducible repeat (first | exact HB.out | apply sq_b | apply sq_n | apply sq_d | refine below_set ?_ zx.out)) hb); clear zl; clear zb; clear zc; clear zd; clear ze; clear za; clear HB; have zl := n0_; have zb := n1_; have zc := n2_; have zd := n3_; have ze := n4_; have HO209 := n5_; have za := n6_; have HB := n7_; clear n0_ n1_ n2_ n3_ n4_ n5_ n6_ n7_; (try clear hb); (try clear hb2); (try clear hk); (try clear hi); (try clear zw)))
              go_ret
              exact ⟨by first | rfl | (simp [errW_none, errW_some] <;> rfl) | (simp only [← hji2]; first | rfl | (simp [errW_none, errW_some] <;> rfl)) | (simp [*, errW_none, errW_some] <;> rfl), by with_reducible repeat (first | exact HB.out | apply sq_b | apply sq_n | apply sq_d | refine below_set ?_ zx.out)⟩
            ·rw [if_neg c84] at H
             have c84b0 : (zy == 0) = false := beq_eq_false_iff_ne.mpr c84
             have c84b1 : (zy != 0) = true := bne_iff_ne.mpr c84
             obtain rfl := Option.some.inj H
             have hcz91_0 : wr.cell? ⟨zf, 0, none⟩ = some (.slice zm zh.length zn) := (blk_cell za.out 0).trans rfl
             have hcz91_1 : wr.cell? ⟨zf, 1, none⟩ = some (.slice zo zi.length zp) := (blk_cell za.out 1).trans rfl
             have hcz91_2 : wr.cell? ⟨zf, 2, none⟩ = some (.slice zq zj.length zr) := (blk_cell za.out 2).trans rfl
             have hcz91_3 : wr.cell? ⟨zf, 3, none⟩ = some (.slice zs zk.length zt) := (blk_cell za.out 3).trans rfl
             have hfz91_0 := blk_frozen za.out 0
             have hfz91_1 := blk_frozen za.out 1
             have hfz91_2 := blk_frozen za.out 2
             have hfz91_3 := blk_frozen za.out 3
             go_wp2_with (first | ((with_reducible refine gate_callee (f := 12) rfl ?_); refine goesL_ (some 69) rfl rfl Try.func12 (by kernel_rfl) rfl #[.agg #[.slice zm zh.length zn, .slice zo zi.length zp, .slice zq zj.length zr, .slice zs zk.length zt]] rfl (by (try simp only [List.map_toArray, List.map_cons, List.map_nil]); first | done | rfl | (simp only [List.length_drop, List.length_take]; rfl)) ?_; (with_reducible refine (version_Join.calls k2 _ _ zh _ _ zi _ _ zj _ _ zk t207 t210 _ ?side1 ?side2 ?side3 ?side4 ?side5 ?side6 ?side7 ?side8 A83.out).mono ?_); (case side1 => repeat (first | exact (Kd.R_reads' zb.out).2.2 | (with_reducible refine Kd.C_alloc ?_ _) | (with_reducible refine Kd.C_drewN ?_ _) | (with_reducible refine Kd.C_drew ?_))); (case side2 => exact (Kd.R_reads' zb.out).2.1); (case side3 => repeat (first | exact (Kd.R_reads' zc.out).2.2 | (with_reducible refine Kd.C_alloc ?_ _) | (with_reducible refine Kd.C_drewN ?_ _) | (with_reducible refine Kd.C_drew ?_))); (case side4 => exact (Kd.R_reads' zc.out).2.1); (case side5 => repeat (first | exact (Kd.R_reads' zd.out).2.2 | (with_reducible refine Kd.C_alloc ?_ _) | (with_reducible refine Kd.C_drewN ?_ _) | (with_reducible refine Kd.C_drew ?_))); (case side6 => exact (Kd.R_reads' zd.out).2.1); (case side7 => repeat (first | exact (Kd.R_reads' ze.out).2.2 | (with_reducible refine Kd.C_alloc ?_ _) | (with_reducible refine Kd.C_drewN ?_ _) | (with_reducible refine Kd.C_drew ?_))); (case side8 => exact (Kd.R_reads' ze.out).2.1); rintro e w92 ⟨v208, rfl, zw, hb⟩; refine ⟨_, rfl, ?_⟩; have n0_ := sq_m (Kd.R_elder' (sq_R zl.out) (Kd.R_base zw) hb); have n1_ := sq_m (Kd.R_elder' (sq_R zb.out) (Kd.R_base zw) hb); have n2_ := sq_m (Kd.R_elder' (sq_R zc.out) (Kd.R_base zw) hb); have n3_ := sq_m (Kd.R_elder' (sq_R zd.out) (Kd.R_base zw) hb); have n4_ := sq_m (Kd.R_elder' (sq_R ze.out) (Kd.R_base zw) hb); have n5_ := sq_m (Kd.R_lower (Kd.R_new' (Kd.R_new' (Kd.R_new' (Kd.R_new' (Kd.R_new' zw (Kd.R_lt (sq_R zl.out))) (Kd.R_lt (sq_R zb.out))) (Kd.R_lt (sq_R zc.out))) (Kd.R_lt (sq_R zd.out))) (Kd.R_lt (sq_R ze.out))) (below_size (by with_reducible repeat (first | exact HB.out | apply sq_b | apply sq_n | apply sq_d | refine below_set ?_ zx.out)))); have n6_ := sq_m (blk_below (g := zf) (o := .cells #[.slice zm zh.length zn, .slice zo zi.length zp, .slice zq zj.length zr, .slice zs zk.length zt] 23 (0, 0)) (by (with_reducible repeat (first | refine blk_drewN ?_ _ | refine blk_drew ?_ | refine blk_alloc ?_ _)); exact za.out) hb); have n7_ := sq_m (below_step (by with_reducible repeat (first | exact HB.out | apply sq_b | apply sq_n | apply sq_d | refine below_set ?_ zx.out)) hb); clear zl; clear zb; clear zc; clear zd; clear ze; clear za; clear HB; have zl := n0_; have zb := n1_; have zc := n2_; have zd := n3_; have ze := n4_; have HO209 := n5_; have za := n6_; have HB := n7_; clear n0_ n1_ n2_ n3_ n4_ n5_ n6_ n7_; (try clear hb); (try clear hb2); (try clear hk); (try clear hi); (try clear zw)))
             go_ret
             exact ⟨by first | rfl | (simp [errW_none, errW_some] <;> rfl) | (simp only [← hji2]; first | rfl | (simp [errW_none, errW_some] <;> rfl)) | (simp [*, errW_none, errW_some] <;> rfl), by with_reducible repeat (first | exact HB.out | apply sq_b | apply sq_n | apply sq_d | refine below_set ?_ zx.out)⟩
        ·rw [if_neg c29] at H
         have c29b0 : (((zg.length : Int) % 4) == 0) = false := beq_eq_false_iff_ne.mpr c29
         have c29b1 : (((zg.length : Int) % 4) != 0) = true := bne_iff_ne.mpr c29
         by_cases c93 : zy = 1
         ·rw [if_pos c93] at H
          have c93b0 : (zy == 1) = true := beq_iff_eq.mpr c93
          have c93b1 : (zy != 1) = false := bne_eq_false_iff_eq.mpr c93
          clear c93
          obtain rfl := Option.some.inj H
          go_wp2_with (first | ((with_reducible refine gate_callee (f := 10) rfl ?_); refine goesL_ (some 32) rfl rfl Try.func10 (by kernel_rfl) rfl #[.slice zu zg.length zv] rfl (by (try simp only [List.map_toArray, List.map_cons, List.map_nil]); first | done | rfl | (simp only [List.length_drop, List.length_take]; rfl)) ?_; (with_reducible refine (shuttleref01_Right.calls kj6 _ _ zg true _ ?side1 ?side2 A27.out).mono ?_); (case side1 => repeat (first | exact (Kd.R_reads' zl.out).2.2 | (with_reducible refine Kd.C_alloc ?_ _) | (with_reducible refine Kd.C_drewN ?_ _) | (with_reducible refine Kd.C_drew ?_))); (case side2 => exact (Kd.R_reads' zl.out).2.1); rintro e w' ⟨rfl, ⟨nd, rfl⟩⟩; refine ⟨_, rfl, ?_⟩; have hcz94_0 : wc.cell? ⟨zf, 0, none⟩ = some (.slice zm zh.length zn) := (blk_cell za.out 0).trans rfl; have hcz94_1 : wc.cell? ⟨zf, 1, none⟩ = some (.slice zo zi.length zp) := (blk_cell za.out 1).trans rfl; have hcz94_2 : wc.cell? ⟨zf, 2, none⟩ = some (.slice zq zj.length zr) := (blk_cell za.out 2).trans rfl; have hcz94_3 : wc.cell? ⟨zf, 3, none⟩ = some (.slice zs zk.length zt) := (blk_cell za.out 3).trans rfl; have hfz94_0 := blk_frozen za.out 0; have hfz94_1 := blk_frozen za.out 1; have hfz94_2 := blk_frozen za.out 2; have hfz94_3 := blk_frozen za.out 3))
          go_ret
          exact ⟨by first | rfl | (simp [errW_none, errW_some] <;> rfl) | (simp only [← hji2]; first | rfl | (simp [errW_none, errW_some] <;> rfl)) | (simp [*, errW_none, errW_some] <;> rfl), by with_reducible repeat (first | exact HB.out | apply sq_b | apply sq_n | apply sq_d | refine below_set ?_ zx.out)⟩
         ·rw [if_neg c93] at H
          have c93b0 : (zy == 1) = false := beq_eq_false_iff_ne.mpr c93
          have c93b1 : (zy != 1) = true := bne_iff_ne.mpr c93
          obtain rfl := Option.some.inj H
          go_wp2_with (first | ((with_reducible refine gate_callee (f := 10) rfl ?_); refine goesL_ (some 32) rfl rfl Try.func10 (by kernel_rfl) rfl #[.slice zu zg.length zv] rfl (by (try simp only [List.map_toArray, List.map_cons, List.map_nil]); first | done | rfl | (simp only [List.length_drop, List.length_take]; rfl)) ?_; (with_reducible refine (shuttleref01_Right.calls kj6 _ _ zg true _ ?side1 ?side2 A27.out).mono ?_); (case side1 => repeat (first | exact (Kd.R_reads' zl.out).2.2 | (with_reducible refine Kd.C_alloc ?_ _) | (with_reducible refine Kd.C_drewN ?_ _) | (with_reducible refine Kd.C_drew ?_))); (case side2 => exact (Kd.R_reads' zl.out).2.1); rintro e w' ⟨rfl, ⟨nd, rfl⟩⟩; refine ⟨_, rfl, ?_⟩))
          go_ret
          exact ⟨by first | rfl | (simp [errW_none, errW_some] <;> rfl) | (simp only [← hji2]; first | rfl | (simp [errW_none, errW_some] <;> rfl)) | (simp [*, errW_none, errW_some] <;> rfl), by with_reducible repeat (first | exact HB.out | apply sq_b | apply sq_n | apply sq_d | refine below_set ?_ zx.out)⟩
       ·replace c28 := Bool.eq_false_iff.mpr c28
        subst c28
        have H1 : (if zy = 5 then (some ((zh.length : Int) == 0)) else (some false)) = some r := by rw [if_neg (show ¬ (false = true) by decide)] at H; exact H
        clear H
        have H := H1
        clear H1
        by_cases c95 : zy = 5
        ·rw [if_pos c95] at H
         have c95b0 : (zy == 5) = true := beq_iff_eq.mpr c95
         have c95b1 : (zy != 5) = false := bne_eq_false_iff_eq.mpr c95
         clear c95
         obtain rfl := Option.some.inj H
         go_wp2_with (first | ((with_reducible refine gate_callee (f := 10) rfl ?_); refine goesL_ (some 32) rfl rfl Try.func10 (by kernel_rfl) rfl #[.slice zu zg.length zv] rfl (by (try simp only [List.map_toArray, List.map_cons, List.map_nil]); first | done | rfl | (simp only [List.length_drop, List.length_take]; rfl)) ?_; (with_reducible refine (shuttleref01_Right.calls kj6 _ _ zg false _ ?side1 ?side2 A27.out).mono ?_); (case side1 => repeat (first | exact (Kd.R_reads' zl.out).2.2 | (with_reducible refine Kd.C_alloc ?_ _) | (with_reducible refine Kd.C_drewN ?_ _) | (with_reducible refine Kd.C_drew ?_))); (case side2 => exact (Kd.R_reads' zl.out).2.1); rintro e w' ⟨rfl, ⟨nd, rfl⟩⟩; refine ⟨_, rfl, ?_⟩; have hcz96_0 : wc.cell? ⟨zf, 0, none⟩ = some (.slice zm zh.length zn) := (blk_cell za.out 0).trans rfl; have hcz96_1 : wc.cell? ⟨zf, 1, none⟩ = some (.slice zo zi.length zp) := (blk_cell za.out 1).trans rfl; have hcz96_2 : wc.cell? ⟨zf, 2, none⟩ = some (.slice zq zj.length zr) := (blk_cell za.out 2).trans rfl; have hcz96_3 : wc.cell? ⟨zf, 3, none⟩ = some (.slice zs zk.length zt) := (blk_cell za.out 3).trans rfl; have hfz96_0 := blk_frozen za.out 0; have hfz96_1 := blk_frozen za.out 1; have hfz96_2 := blk_frozen za.out 2; have hfz96_3 := blk_frozen za.out 3))
         go_ret
         exact ⟨by first | rfl | (simp [errW_none, errW_some] <;> rfl) | (simp only [← hji2]; first | rfl | (simp [errW_none, errW_some] <;> rfl)) | (simp [*, errW_none, errW_some] <;> rfl), by with_reducible repeat (first | exact HB.out | apply sq_b | apply sq_n | apply sq_d | refine below_set ?_ zx.out)⟩
        ·rw [if_neg c95] at H
         have c95b0 : (zy == 5) = false := beq_eq_false_iff_ne.mpr c95
         have c95b1 : (zy != 5) = true := bne_iff_ne.mpr c95
         obtain rfl := Option.some.inj H
         go_wp2_with (first | ((with_reducible refine gate_callee (f := 10) rfl ?_); refine goesL_ (some 32) rfl rfl Try.func10 (by kernel_rfl) rfl #[.slice zu zg.length zv] rfl (by (try simp only [List.map_toArray, List.map_cons, List.map_nil]); first | done | rfl | (simp only [List.length_drop, List.length_take]; rfl)) ?_; (with_reducible refine (shuttleref01_Right.calls kj6 _ _ zg false _ ?side1 ?side2 A27.out).mono ?_); (case side1 => repeat (first | exact (Kd.R_reads' zl.out).2.2 | (with_reducible refine Kd.C_alloc ?_ _) | (with_reducible refine Kd.C_drewN ?_ _) | (with_reducible refine Kd.C_drew ?_))); (case side2 => exact (Kd.R_reads' zl.out).2.1); rintro e w' ⟨rfl, ⟨nd, rfl⟩⟩; refine ⟨_, rfl, ?_⟩))
         go_ret
         exact ⟨by first | rfl | (simp [errW_none, errW_some] <;> rfl) | (simp only [← hji2]; first | rfl | (simp [errW_none, errW_some] <;> rfl)) | (simp [*, errW_none, errW_some] <;> rfl), by with_reducible repeat (first | exact HB.out | apply sq_b | apply sq_n | apply sq_d | refine below_set ?_ zx.out)⟩
   ·rw [if_neg c5] at H
    exact absurd H (by simp)
  ·rw [if_neg c4] at H
   exact absurd H (by simp)
 ·rw [if_neg c3] at H
  exact absurd H (by simp)

/-- THE ONE PURE STATEMENT of shuttlelaw11_VersionSplits: yours. -/
def shuttlelaw11_VersionSplits.Pure : Prop := ∀ (l0 : List Int), l0.length ≤ maxLen → l0.length * 1 ≤ 140737488351232 → (∀ x ∈ l0, (Lit.int .u8 x).wf = true) → ∃ k, shuttlelaw11_VersionSplits.f k l0 = some true
theorem shuttlelaw11_VersionSplits.walk (P : shuttlelaw11_VersionSplits.Pure) (a0 : Option Addr) (len0 cap0 : Nat) (z0 : List Int) (w : World) (w0 : (a0 = none ∧ len0 = 0 ∧ cap0 = 0 ∧ z0 = []) ∨ ∃ x, a0 = some x ∧ len0 ≤ cap0 ∧ cap0 ≤ maxLen ∧ z0.length = cap0 ∧ (∀ i, i < z0.length → w.cell? (x.add i) = some (.int .u8 (z0.getD i 0))) ∧ ∀ n ∈ z0, (Lit.int .u8 n).wf = true) (y0 : len0 * 1 ≤ 140737488351232) :
    Calls Try.prog 3 #[.slice a0 len0 cap0] w fun e w' => e = .returned (.bool true) ∧ Below w.heap.size w w' := by
  obtain ⟨l0, rfl, hr0, hm0, hw0, hc0⟩ := ReadsInt.ofRowC w0
  obtain ⟨k, h⟩ := P l0 hm0 y0 hw0
  refine (shuttlelaw11_VersionSplits.calls k _ _ l0 true w (Kd.C_of_reads (d := (0 : Int)) (h1 := fun _ => rfl) hr0) hc0 h).mono ?_
  rintro e w' ⟨rfl, hd⟩
  exact ⟨rfl, hd⟩

end Go.Proofs.Ytmajbcglpcagoaa.X
