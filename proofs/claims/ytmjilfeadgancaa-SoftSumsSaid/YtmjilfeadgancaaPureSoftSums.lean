/- SoftSums: what is added one by one stays within the bounds always, and is the plain sum as long as that one does; no condition. -/
import Derived.Test.YtmjilfeadgancaaXSoft
import Derived.Test.YtmjilfeadgancaaX17
namespace Go.Proofs.Ytmjilfeadgancaa.Pure
open Go.RowKit Go.Proofs.Ytmjilfeadgancaa.X Go.Proofs.YtmjilfeadgancaaW.PrintWords Go.Proofs.YtmjilfeadgancaaW.PrintLast Go.Proofs.YtmjilfeadgancaaW.PrintMore

theorem tmod9 (x : Int) : -8 ≤ Int.tmod x 9 ∧ Int.tmod x 9 ≤ 8 := by
  by_cases h : 0 ≤ x
  · rw [Int.tmod_eq_emod_of_nonneg h]; omega
  · have e : Int.tmod x 9 = -(Int.tmod (-x) 9) := by rw [Int.neg_tmod]; omega
    rw [e, Int.tmod_eq_emod_of_nonneg (by omega)]; omega
theorem cl_id (n : Int) (h : -31 ≤ n ∧ n ≤ 31) : cl n = n := by unfold cl; rw [if_neg (by omega), if_neg (by omega)]
theorem sums_l0 (l : List Int) (n : Nat) (hn : n = min l.length 60) (d : Nat) : ∀ (k : Nat) (s p : Int) (w : Bool) (i : Nat), i + d = n → 2 * d + 20 ≤ k →
    -31 ≤ s ∧ s ≤ 31 → -(8 * (i : Int)) ≤ p ∧ p ≤ 8 * (i : Int) → (w = true → s = p) → shuttlelaw08_SoftSums.l0 k l s p w (i : Int) = some true := by
  induction d with
  | zero =>
    intro k s p w i hi hk hs hp hw
    obtain ⟨k, rfl⟩ : ∃ m, k = m + 1 + 1 := ⟨k - 2, by omega⟩
    simp only [shuttlelaw08_SoftSums.l0]
    have hj : shuttlelaw08_SoftSums.j1 (k + 1) l s p w (i : Int) false = some true := by
      simp only [shuttlelaw08_SoftSums.j1]
      rw [if_neg (by decide), sure_f k (by omega)]; rfl
    by_cases c : (i : Int) < (l.length : Int)
    · rw [if_pos c, show decide ((i : Int) < 60) = false from decide_eq_false (by omega)]; exact hj
    · rw [if_neg c]; exact hj
  | succ d ih =>
    intro k s p w i hi hk hs hp hw
    obtain ⟨k, rfl⟩ : ∃ m, k = m + 1 + 1 := ⟨k - 2, by omega⟩
    simp only [shuttlelaw08_SoftSums.l0]
    rw [if_pos (by omega), show decide ((i : Int) < 60) = true from decide_eq_true (by omega)]
    simp only [shuttlelaw08_SoftSums.j1, if_true]
    rw [if_pos (by omega), if_pos (by omega), add_f, cl_id s hs, cl_id (Int.tmod (rd l i) 9) (by have := tmod9 (rd l i); omega)]
    simp only [Option.bind_some]
    have hm := tmod9 (rd l i)
    generalize Int.tmod (rd l i) 9 = m at hm
    have hc := cl_in (s + m)
    have hci := cl_id (s + m)
    rw [wrap_in (n := p + m) (by omega) (by omega), wrap_succ i (by omega)]
    generalize cl (s + m) = t at hc hci
    cases w with
    | true =>
      have e := hw rfl
      rw [if_pos rfl]
      by_cases c1 : p + m ≥ -31
      · rw [if_pos c1, if_neg (by omega), if_neg (by omega)]
        by_cases c2 : p + m ≤ 31
        · rw [if_pos c2, if_pos (by have := hci ⟨by omega, by omega⟩; omega)]
          exact ih k t (p + m) _ (i + 1) (by omega) (by omega) hc (by omega) (fun _ => by have := hci ⟨by omega, by omega⟩; omega)
        · rw [if_neg c2, show decide (p + m ≤ 31) = false from decide_eq_false c2]
          exact ih k t (p + m) _ (i + 1) (by omega) (by omega) hc (by omega) (fun h => by cases h)
      · rw [if_neg c1, if_neg (by omega), if_neg (by omega)]
        exact ih k t (p + m) _ (i + 1) (by omega) (by omega) hc (by omega) (fun h => by cases h)
    | false =>
      rw [if_neg (by decide), if_neg (by omega), if_neg (by omega)]
      exact ih k t (p + m) _ (i + 1) (by omega) (by omega) hc (by omega) (fun h => by cases h)
theorem SoftSums : shuttlelaw08_SoftSums.Pure := by
  intro l _ _ _
  refine ⟨200, ?_⟩
  unfold shuttlelaw08_SoftSums.f
  exact sums_l0 l _ rfl _ 200 0 0 true 0 (Nat.zero_add _) (by omega) (by omega) (by omega) (fun _ => rfl)

end Go.Proofs.Ytmjilfeadgancaa.Pure
