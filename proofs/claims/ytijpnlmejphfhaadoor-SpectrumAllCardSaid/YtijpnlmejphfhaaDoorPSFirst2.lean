/- spectrum.First by hand. No condition but bounds. -/
import Derived.Test.YtijpnlmejphfhaaDoorPSFirst
namespace Go.Proofs.YtijpnlmejphfhaaDoor.P
open Go Go.Proofs Go.RowKit Go.Proofs.YtijpnlmejphfhaaDoorW.PrintWords Go.Proofs.YtijpnlmejphfhaaDoorW.PrintLast Go.Proofs.YtijpnlmejphfhaaDoorW.PrintMore
set_option linter.unusedVariables false
set_option linter.unusedSimpArgs false

def nz (x : Int) : Bool := x != 0
theorem firstI_cases (p : Int → Bool) : ∀ (l : List Int) (i : Nat), firstI p l i = -1 ∨ ∃ j : Nat, j < l.length ∧ firstI p l i = ((i + j : Nat) : Int)
  | [], i => .inl rfl
  | x :: l, i => by
    unfold firstI
    by_cases h : p x = true
    · rw [if_pos h]; exact .inr ⟨0, by simp, by simp⟩
    · rw [if_neg h]
      rcases firstI_cases p l (i + 1) with e | ⟨j, hj, e⟩
      · exact .inl e
      · exact .inr ⟨j + 1, by simp; omega, by rw [e]; congr 1; omega⟩
/-- What First tells: the place, and what stands there. -/
def firstN (l : List Int) : Int := firstI (fun x => x != 0) l 0
def firstK (l : List Int) : Int := if firstN l < 0 then 0 else l.getD (firstN l).toNat 0
def first4.T : Bool × List (List Nat × List Nat) := (true, [([], []), ([], []), ([], []), ([1, 2], [1, 2]), ([3], [3]), ([0, 0], [0]), ([4, 5, 0, 1, 2, 3, 4, 5], [4])])
def first4.B : List Nat := [0, 0, 0, 6, 14, 1, 63]
theorem first4.tab : rtab .any (opsOf Tryd.f16 4) = first4.T := by kernel_rfl
theorem first4.bits : waitsOk first4.T.2 first4.B = true := by kernel_rfl
set_option maxRecDepth 100000 in
set_option maxHeartbeats 4000000 in
theorem first_calls (A : Option Addr) (c : Nat) (l : List Int) (w : World) (hr : Kd.C (Kd.int .i64) w A l.length l) (hl : l.length ≤ 100000) :
    Calls Tryd.prog 16 #[.slice A l.length c] w fun e w' => e = .returned (.tuple #[.int .i64 (firstN l), .int .i64 (firstK l)]) ∧ Below w.heap.size w w' := by
  have HR := Aside0.mk hr
  have HI := Aside0.mk (idxnz_calls A c l w hr hl)
  rcases firstI_cases (fun x => x != 0) l 0 with e | ⟨j, hj, e⟩
  · have e2 : firstN l = -1 := e
    have e3 : firstK l = 0 := by unfold firstK; rw [if_pos (by omega)]
    rw [e2, e3]
    rw [e] at HI
    clear e e2 e3 hr
    go_enter Tryd.func16, Tryd.ntmps16
    go_wp2_with (first | (go_at_call 33; refine HI.out.mono ?_; rintro e w1 ⟨rfl, hb⟩; have HB := Aside0.mk hb; clear hb) | fail)
    go_ret2
    exact ⟨by simp, HB.out⟩
  · rw [Nat.zero_add] at e
    have e2 : firstN l = (j : Int) := e
    have e3 : firstK l = l.getD j 0 := by unfold firstK; rw [e2, if_neg (by omega), Int.toNat_natCast]
    rw [e2, e3]
    rw [e] at HI
    have hlb : decide ((j : Int) < 0) = false := decide_eq_false (by omega)
    obtain ⟨x, hx⟩ : ∃ x, x = l.getD j 0 := ⟨_, rfl⟩
    have HX := Aside0.mk hx
    rw [← hx]
    have HJ := Aside0.mk hj
    obtain ⟨n, hn⟩ : ∃ n, n = l.length := ⟨_, rfl⟩
    rw [← hn] at HI ⊢
    have hjn : (j : Int) < (n : Int) := by omega
    clear e e2 e3 hr hx hj hn
    go_enter Tryd.func16, Tryd.ntmps16
    go_wp2_with (first | (go_at_call 33; refine HI.out.mono ?_; rintro e w1 ⟨rfl, hb⟩; have HB := Aside0.mk hb; clear hb) | fail)
    obtain ⟨ad, rfl, hcx⟩ := ReadsOf.at_ (Kd.reads_of_C (d := (0 : Int)) (Kd.C_below HR.out HB.out)) (j : Int) (by omega) (by have := HJ.out; omega)
    rw [Int.toNat_natCast] at hcx
    have hrd : rdOf 0 l (j : Int) = x := by rw [HX.out]; unfold rdOf; rw [Int.toNat_natCast]
    rw [hrd] at hcx
    have HS := Aside0.mk (show w1.drew.cell? (ad.add j) = some (.int .i64 x) from hcx)
    clear hcx hrd
    refine start_ (n := 7) (S := (fun w' => w'.cell? (ad.add j) = some (.int .i64 x))) (ds := []) #[false, false, false, false, false, false, false] (by kernel_rfl) rfl rfl HS.out (fun hHeld => ?_)
    refine with_tabW first4.tab first4.bits (fun HT_ HW_ => ?_)
    refine pure_ (i := 0) (N := some 10) (v := ?_) (a' := ?_) #[true, false, false, false, false, false, false] rfl rfl (any_of HT_.out (by kernel_rfl)) (fun _ _ _ h => h) (Or.inl ⟨by rfl, ?_⟩) ?_ ?_
    rotate_left
    · intro w'
      go_simp
      with_reducible rfl
    rotate_left
    · simp only [Act.put, List.setIfInBounds_toArray, List.set_cons_zero, List.set_cons_succ, i64_w, i32_w]
      rfl
    refine pure_ (i := 1) (N := some 11) (v := ?_) (a' := ?_) #[true, true, false, false, false, false, false] rfl rfl (any_of HT_.out (by kernel_rfl)) (fun _ _ _ h => h) (Or.inl ⟨by rfl, ?_⟩) ?_ ?_
    rotate_left
    · intro w'
      go_simp
      with_reducible rfl
    rotate_left
    · simp only [Act.put, List.setIfInBounds_toArray, List.set_cons_zero, List.set_cons_succ, i64_w, i32_w]
      rfl
    refine pure_ (i := 2) (N := some 12) (v := ?_) (a' := ?_) #[true, true, true, false, false, false, false] rfl rfl (any_of HT_.out (by kernel_rfl)) (fun _ _ _ h => h) (Or.inl ⟨by rfl, ?_⟩) ?_ ?_
    rotate_left
    · intro w'
      go_simp
      with_reducible rfl
    rotate_left
    · simp only [Act.put, List.setIfInBounds_toArray, List.set_cons_zero, List.set_cons_succ, i64_w, i32_w]
      rfl
    refine pure_ (i := 3) (N := some 13) (v := ?_) (a' := ?_) #[true, true, true, true, false, false, false] rfl rfl (any_of HT_.out (by kernel_rfl)) (fun _ _ _ h => h) (Or.inl ⟨by rfl, ?_⟩) ?_ ?_
    rotate_left
    · intro w'
      go_simp
      with_reducible rfl
    rotate_left
    · simp only [Act.put, List.setIfInBounds_toArray, List.set_cons_zero, List.set_cons_succ, i64_w, i32_w]
      rfl
    refine take_ (i := 4) (N := some 14) (v := ?_) (a' := ?_) #[true, true, true, true, true, false, false] rfl rfl (take_ofW HT_.out HW_.out (by kernel_rfl)) (fun _ _ _ h => h) (Or.inl ⟨by rfl, ?_⟩) hHeld ?_ ?_
    rotate_left
    · rintro w' s0
      go_simp
      with_reducible rfl
    rotate_left
    · simp only [Act.put, List.setIfInBounds_toArray, List.set_cons_zero, List.set_cons_succ, i64_w, i32_w]
      rfl
    refine pure_ (i := 5) (N := some 2) (v := ?_) (a' := ?_) #[true, true, true, true, true, true, false] rfl rfl (any_of HT_.out (by kernel_rfl)) (fun _ _ _ h => h) (Or.inl ⟨by rfl, ?_⟩) ?_ ?_
    rotate_left
    · intro w'
      go_simp
      with_reducible rfl
    rotate_left
    · simp only [Act.put, List.setIfInBounds_toArray, List.set_cons_zero, List.set_cons_succ, i64_w, i32_w]
      rfl
    refine pure_ (i := 6) (N := some 3) (v := ?_) (a' := ?_) #[true, true, true, true, true, true, true] rfl rfl (any_of HT_.out (by kernel_rfl)) (fun _ _ _ h => h) (Or.inl ⟨by rfl, ?_⟩) ?_ ?_
    rotate_left
    · intro w'
      go_simp
      with_reducible rfl
    rotate_left
    · simp only [Act.put, List.setIfInBounds_toArray, List.set_cons_zero, List.set_cons_succ, i64_w, i32_w]
      rfl
    refine done_ (done_of HT_.out (by kernel_rfl)) ?_
    go_wp2_with fail
    go_ret2
    exact ⟨by simp, HB.out.trans (⟨rfl, rfl, rfl, Nat.le_refl _, fun _ _ => rfl⟩ : Below w.heap.size w1 w1.drew)⟩
end Go.Proofs.YtijpnlmejphfhaaDoor.P
