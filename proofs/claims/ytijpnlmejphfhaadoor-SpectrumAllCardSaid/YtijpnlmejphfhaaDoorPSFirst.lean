/- spectrum.First by hand, and the row's first element of a kind. No condition but bounds. -/
import Derived.Test.YtijpnlmejphfhaaDoorPSStep
import Derived.Test.YtijpnlmejphfhaaDoorP1
namespace Go.Proofs.YtijpnlmejphfhaaDoor.P
open Go Go.Proofs Go.RowKit Go.Proofs.YtijpnlmejphfhaaDoorW.PrintWords Go.Proofs.YtijpnlmejphfhaaDoorW.PrintLast Go.Proofs.YtijpnlmejphfhaaDoorW.PrintMore
set_option linter.unusedVariables false
set_option linter.unusedSimpArgs false

/-- The first place, from i on, of which p holds; -1 if there is none. -/
def firstI (p : Int → Bool) : List Int → Nat → Int
  | [], _ => -1
  | x :: l, i => if p x = true then (i : Int) else firstI p l (i + 1)
theorem nz_calls (w : World) (x : Int) : Calls Tryd.prog 34 #[.int .i64 x] w fun e w' => e = .returned (.bool (x != 0)) ∧ w = w' := by
  go_enter Tryd.func34, Tryd.ntmps34
  go_wp2
  go_ret
  exact ⟨by simp, rfl⟩
theorem nz_below (w : World) (x : Int) : Calls Tryd.prog 34 #[.int .i64 x] w fun e w' => e = .returned (.bool (x != 0)) ∧ Below w.heap.size w w' :=
  (nz_calls w x).mono fun e w' ⟨h1, h2⟩ => ⟨h1, h2 ▸ Below.refl _ _⟩
theorem idxnz_calls (A : Option Addr) (c : Nat) (l : List Int) (w : World) (hr : Kd.C (Kd.int .i64) w A l.length l) (hl : l.length ≤ 100000) :
    Calls Tryd.prog 33 #[.slice A l.length c, .func (.func 34) #[] #[]] w fun e w' => e = .returned (.int .i64 (firstI (fun x => x != 0) l 0)) ∧ Below w.heap.size w w' := by
  have HR := Aside0.mk hr
  clear hr
  obtain ⟨n, hn⟩ : ∃ n, n = l.length := ⟨_, rfl⟩
  rw [← hn]
  have HN := Aside0.mk hn
  have hl2 : n ≤ 100000 := by omega
  clear hn hl
  go_enter Tryd.func33, Tryd.ntmps33
  go_wp2_with fail
  go_loopw [8] (fun v8 wr => ∃ i : Nat, v8 = .int .i64 (i : Int) ∧ i ≤ n ∧ Aside0 (firstI (fun x => x != 0) (l.drop i) i = firstI (fun x => x != 0) l 0) ∧ Aside0 (Below w.heap.size w wr)) (fun v8 _ => n - (intOf v8).toNat)
  case atStart => exact ⟨0, by simp, by omega, ⟨rfl⟩, ⟨Below.refl _ _⟩⟩
  case round =>
    obtain ⟨i, rfl, hi, HF, HB⟩ := hrel
    by_cases hlt : i < n
    · have hlb : decide ((i : Int) < (n : Int)) = true := decide_eq_true (by omega)
      obtain ⟨ad, rfl, hcx⟩ := ReadsOf.at_ (Kd.reads_of_C (d := (0 : Int)) (Kd.C_below HR.out HB.out)) (i : Int) (by omega) (by have := HN.out; omega)
      rw [Int.toNat_natCast] at hcx
      obtain ⟨x, hx⟩ : ∃ x, x = rdOf 0 l (i : Int) := ⟨_, rfl⟩
      rw [← hx] at hcx
      have hil : i < l.length := by have := HN.out; omega
      have hxg : l[i] = x := by rw [hx]; unfold rdOf; rw [Int.toNat_natCast, List.getD_eq_getElem?_getD, List.getElem?_eq_getElem hil]; rfl
      have hd : l.drop i = x :: l.drop (i + 1) := by rw [List.drop_eq_getElem_cons hil, hxg]
      have hf := HF.out
      rw [hd] at hf
      cases hp : (fun x => x != 0) x with
      | true =>
        have hf2 : (i : Int) = firstI (fun x => x != 0) l 0 := by rw [← hf]; unfold firstI; rw [if_pos hp]
        have HF2 := Aside0.mk hf2
        have HP := Aside0.mk (show ∀ w, Calls Tryd.prog 34 #[.int .i64 x] w fun e w' => e = .returned (.bool true) ∧ Below w.heap.size w w' from fun w => by have h : Calls Tryd.prog 34 #[.int .i64 x] w fun e w' => e = .returned (.bool ((fun x => x != 0) x)) ∧ Below w.heap.size w w' := nz_below w x; rw [hp] at h; exact h)
        clear hx hxg hd hf hf2 hp HF
        go_wp2_with (first | (go_at_call 34; refine (HP.out _).mono ?_; rintro e w2 ⟨rfl, hb⟩; have HB2 := Aside0.mk (below_step HB.out hb); clear hb) | fail)
        go_ret
        exact ⟨by rw [← HF2.out]; simp, HB2.out⟩
      | false =>
        have HF2 := Aside0.mk (show firstI (fun x => x != 0) (l.drop (i + 1)) (i + 1) = firstI (fun x => x != 0) l 0 from by rw [← hf]; show _ = if (fun x => x != 0) x = true then _ else _; rw [if_neg (by rw [hp]; decide)])
        have HP := Aside0.mk (show ∀ w, Calls Tryd.prog 34 #[.int .i64 x] w fun e w' => e = .returned (.bool false) ∧ Below w.heap.size w w' from fun w => by have h : Calls Tryd.prog 34 #[.int .i64 x] w fun e w' => e = .returned (.bool ((fun x => x != 0) x)) ∧ Below w.heap.size w w' := nz_below w x; rw [hp] at h; exact h)
        clear hx hxg hd hf hp HF
        go_wp2_with (first | (go_at_call 34; refine (HP.out _).mono ?_; rintro e w2 ⟨rfl, hb⟩; have HB2 := Aside0.mk (below_step HB.out hb); clear hb) | fail)
        go_roundw
        case rel => exact ⟨i + 1, by simp, by omega, HF2, HB2⟩
        case measure => simp [intOf]; omega
    · obtain rfl : i = n := by omega
      have hlb : decide ((i : Int) < (i : Int)) = false := decide_eq_false (by omega)
      have hf := HF.out
      rw [List.drop_eq_nil_of_le (by have := HN.out; omega)] at hf
      have HF2 := Aside0.mk (show (-1 : Int) = firstI (fun x => x != 0) l 0 from hf)
      clear hf HF
      go_wp2_with fail
      go_ret
      exact ⟨by rw [← HF2.out]; simp, HB.out⟩
/-- Whether a number is from 0 to another one. -/
def inW (n m : Int) : Bool := decide (0 ≤ n) && decide (n ≤ m)
theorem within_f (n m : Int) : spectrum_within.f n m = some (inW n m) := by
  unfold spectrum_within.f inW
  by_cases h : n ≥ 0
  · rw [if_pos h, decide_eq_true (p := (0 : Int) ≤ n) h, Bool.true_and]
  · rw [if_neg h, decide_eq_false (p := (0 : Int) ≤ n) h, Bool.false_and]
theorem within_calls (n m : Int) (w : World) : Calls Tryd.prog 24 #[.int .i64 n, .int .i64 m] w fun e w' => e = .returned (.bool (inW n m)) ∧ Drawn0 w w' :=
  spectrum_within.calls n m _ w (within_f n m)
theorem bad_below (w : World) (x : Int) : Calls Tryd.prog 26 #[.int .i64 x] w fun e w' => e = .returned (.bool (!inW x 7)) ∧ Below w.heap.size w w' := by
  have HW := Aside0.mk (fun w => within_calls x 7 w)
  obtain ⟨b, hb⟩ : ∃ b, b = inW x 7 := ⟨_, rfl⟩
  rw [← hb]
  rw [← hb] at HW
  clear hb
  go_enter Tryd.func26, Tryd.ntmps26
  go_wp2_with (first | (go_at_call 24; refine (HW.out _).mono ?_; rintro e w2 ⟨rfl, hd⟩; have HB2 := Aside0.mk hd.below; clear hd) | fail)
  go_ret
  exact ⟨by simp, HB2.out⟩
theorem idxbad_calls (A : Option Addr) (c : Nat) (l : List Int) (w : World) (hr : Kd.C (Kd.int .i64) w A l.length l) (hl : l.length ≤ 100000) :
    Calls Tryd.prog 33 #[.slice A l.length c, .func (.func 26) #[] #[]] w fun e w' => e = .returned (.int .i64 (firstI (fun x => !inW x 7) l 0)) ∧ Below w.heap.size w w' := by
  have HR := Aside0.mk hr
  clear hr
  obtain ⟨n, hn⟩ : ∃ n, n = l.length := ⟨_, rfl⟩
  rw [← hn]
  have HN := Aside0.mk hn
  have hl2 : n ≤ 100000 := by omega
  clear hn hl
  go_enter Tryd.func33, Tryd.ntmps33
  go_wp2_with fail
  go_loopw [8] (fun v8 wr => ∃ i : Nat, v8 = .int .i64 (i : Int) ∧ i ≤ n ∧ Aside0 (firstI (fun x => !inW x 7) (l.drop i) i = firstI (fun x => !inW x 7) l 0) ∧ Aside0 (Below w.heap.size w wr)) (fun v8 _ => n - (intOf v8).toNat)
  case atStart => exact ⟨0, by simp, by omega, ⟨rfl⟩, ⟨Below.refl _ _⟩⟩
  case round =>
    obtain ⟨i, rfl, hi, HF, HB⟩ := hrel
    by_cases hlt : i < n
    · have hlb : decide ((i : Int) < (n : Int)) = true := decide_eq_true (by omega)
      obtain ⟨ad, rfl, hcx⟩ := ReadsOf.at_ (Kd.reads_of_C (d := (0 : Int)) (Kd.C_below HR.out HB.out)) (i : Int) (by omega) (by have := HN.out; omega)
      rw [Int.toNat_natCast] at hcx
      obtain ⟨x, hx⟩ : ∃ x, x = rdOf 0 l (i : Int) := ⟨_, rfl⟩
      rw [← hx] at hcx
      have hil : i < l.length := by have := HN.out; omega
      have hxg : l[i] = x := by rw [hx]; unfold rdOf; rw [Int.toNat_natCast, List.getD_eq_getElem?_getD, List.getElem?_eq_getElem hil]; rfl
      have hd : l.drop i = x :: l.drop (i + 1) := by rw [List.drop_eq_getElem_cons hil, hxg]
      have hf := HF.out
      rw [hd] at hf
      cases hp : (fun x => !inW x 7) x with
      | true =>
        have hf2 : (i : Int) = firstI (fun x => !inW x 7) l 0 := by rw [← hf]; unfold firstI; rw [if_pos hp]
        have HF2 := Aside0.mk hf2
        have HP := Aside0.mk (show ∀ w, Calls Tryd.prog 26 #[.int .i64 x] w fun e w' => e = .returned (.bool true) ∧ Below w.heap.size w w' from fun w => by have h : Calls Tryd.prog 26 #[.int .i64 x] w fun e w' => e = .returned (.bool ((fun x => !inW x 7) x)) ∧ Below w.heap.size w w' := bad_below w x; rw [hp] at h; exact h)
        clear hx hxg hd hf hf2 hp HF
        go_wp2_with (first | (go_at_call 26; refine (HP.out _).mono ?_; rintro e w2 ⟨rfl, hb⟩; have HB2 := Aside0.mk (below_step HB.out hb); clear hb) | fail)
        go_ret
        exact ⟨by rw [← HF2.out]; simp, HB2.out⟩
      | false =>
        have HF2 := Aside0.mk (show firstI (fun x => !inW x 7) (l.drop (i + 1)) (i + 1) = firstI (fun x => !inW x 7) l 0 from by rw [← hf]; show _ = if (fun x => !inW x 7) x = true then _ else _; rw [if_neg (by rw [hp]; decide)])
        have HP := Aside0.mk (show ∀ w, Calls Tryd.prog 26 #[.int .i64 x] w fun e w' => e = .returned (.bool false) ∧ Below w.heap.size w w' from fun w => by have h : Calls Tryd.prog 26 #[.int .i64 x] w fun e w' => e = .returned (.bool ((fun x => !inW x 7) x)) ∧ Below w.heap.size w w' := bad_below w x; rw [hp] at h; exact h)
        clear hx hxg hd hf hp HF
        go_wp2_with (first | (go_at_call 26; refine (HP.out _).mono ?_; rintro e w2 ⟨rfl, hb⟩; have HB2 := Aside0.mk (below_step HB.out hb); clear hb) | fail)
        go_roundw
        case rel => exact ⟨i + 1, by simp, by omega, HF2, HB2⟩
        case measure => simp [intOf]; omega
    · obtain rfl : i = n := by omega
      have hlb : decide ((i : Int) < (i : Int)) = false := decide_eq_false (by omega)
      have hf := HF.out
      rw [List.drop_eq_nil_of_le (by have := HN.out; omega)] at hf
      have HF2 := Aside0.mk (show (-1 : Int) = firstI (fun x => !inW x 7) l 0 from hf)
      clear hf HF
      go_wp2_with fail
      go_ret
      exact ⟨by rw [← HF2.out]; simp, HB.out⟩
theorem contains_calls (A : Option Addr) (c : Nat) (l : List Int) (w : World) (hr : Kd.C (Kd.int .i64) w A l.length l) (hl : l.length ≤ 100000) :
    Calls Tryd.prog 25 #[.slice A l.length c, .func (.func 26) #[] #[]] w fun e w' => e = .returned (.bool (decide (0 ≤ firstI (fun x => !inW x 7) l 0))) ∧ Below w.heap.size w w' := by
  have HI := Aside0.mk (idxbad_calls A c l w hr hl)
  obtain ⟨i, hi⟩ : ∃ i, i = firstI (fun x => !inW x 7) l 0 := ⟨_, rfl⟩
  rw [← hi]
  rw [← hi] at HI
  obtain ⟨n, hn⟩ : ∃ n, n = l.length := ⟨_, rfl⟩
  rw [← hn] at HI ⊢
  clear hr hl hi hn
  go_enter Tryd.func25, Tryd.ntmps25
  go_wp2_with (first | (go_at_call 33; refine HI.out.mono ?_; rintro e w2 ⟨rfl, hb⟩; have HB2 := Aside0.mk hb; clear hb) | fail)
  go_ret
  exact ⟨by simp, HB2.out⟩
end Go.Proofs.YtijpnlmejphfhaaDoor.P
