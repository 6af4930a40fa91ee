/- PatternPlaces: of all versions and counts of steps the places are told as the chapter says, and those of all four versions are all places, each once; no condition. -/
import Derived.Test.YtkhpgjojbdgkfaaXPlain
import Derived.Test.YtkhpgjojbdgkfaaX10
import Derived.Test.YtkhpgjojbdgkfaaX7
import Derived.Test.YtkhpgjojbdgkfaaX8
namespace Go.Proofs.Ytkhpgjojbdgkfaa.Pure
open Go.RowKit Go.Proofs.Ytkhpgjojbdgkfaa.X Go.Proofs.YtkhpgjojbdgkfaaW.PrintWords Go.Proofs.YtkhpgjojbdgkfaaW.PrintLast Go.Proofs.YtkhpgjojbdgkfaaW.PrintMore
set_option linter.unusedVariables false

def st (v t : Nat) : Nat := (v + t % 4) % 4
def pl (v t : Nat) : Nat := 4 * t + st v t
def plI (v t : Nat) : Int := (pl v t : Int)
def P (v n : Nat) : List Int := (List.range n).map (plI v)
theorem P_length (v n : Nat) : (P v n).length = n := by simp [P]
theorem P_succ (v n : Nat) : P v (n + 1) = P v n ++ [plI v n] := by simp [P, List.range_succ]
theorem P_at (v n t : Nat) (h : t < n) : rd (P v n) (t : Int) = plI v t := by
  rw [rd_get _ _ (by rw [P_length]; exact h)]; simp [P]
theorem tm4 (t : Nat) : Int.tmod (t : Int) 4 = ((t % 4 : Nat) : Int) := by
  rw [Int.tmod_eq_emod_of_nonneg (by omega)]; omega
theorem st_eq (v t : Nat) (hv : v < 4) : Int.tmod (wrap64 ((v : Int) + Int.tmod (t : Int) 4)) 4 = (st v t : Int) := by
  rw [tm4, wrap_in (by omega) (by omega), Int.tmod_eq_emod_of_nonneg (by omega)]; unfold st; omega
theorem one_ok (v t : Int) (h0 : 0 ≤ v) (h1 : v < 4) (h2 : 0 ≤ t) : pattern_one.f v t = some true := by
  unfold pattern_one.f; rw [if_pos (by omega), if_pos h1]; simp; omega
theorem one_no (v t : Int) (h : v < 0 ∨ 3 < v ∨ t < 0) : pattern_one.f v t = some false := by
  unfold pattern_one.f
  by_cases a : v ≥ 0
  · rw [if_pos a]
    by_cases b : v < 4
    · rw [if_pos b]; simp; omega
    · rw [if_neg b]
  · rw [if_neg a]
theorem stream_ok (v t : Nat) (hv : v < 4) : pattern_Stream.f (v : Int) (t : Int) = some ((st v t : Int), 0) := by
  unfold pattern_Stream.f
  rw [one_ok _ _ (by omega) (by omega) (by omega), Option.bind_some, if_pos rfl, st_eq v t hv]
theorem pl_eq (v t : Nat) (ht : t ≤ 16384) : wrap64 (wrap64 (4 * (t : Int)) + (st v t : Int)) = plI v t := by
  have : st v t < 4 := by unfold st; omega
  rw [wrap_in (n := 4 * (t : Int)) (by omega) (by omega), wrap_in (by omega) (by omega)]
  unfold plI pl; omega
theorem places_l0 (v n : Nat) (hv : v < 4) (hn : n ≤ 16384) (d : Nat) : ∀ k t : Nat, t + d = n → d < k →
    pattern_Places.l0 k (v : Int) (P v t) (n : Int) (t : Int) = some (P v n, 0) := by
  induction d with
  | zero =>
    intro k t ht hk
    obtain ⟨k, rfl⟩ := pred hk
    obtain rfl : t = n := by omega
    simp only [pattern_Places.l0]
    rw [if_neg (by omega)]
  | succ d ih =>
    intro k t ht hk
    obtain ⟨k, rfl⟩ := pred hk
    simp only [pattern_Places.l0]
    rw [if_pos (by omega), stream_ok v t hv, Option.bind_some, if_pos rfl, if_pos (by rw [P_length]; omega), pl_eq v t (by omega), wrap_succ t (by omega), ← P_succ]
    exact ih k (t + 1) (by omega) (by omega)
theorem places_ok (v n : Nat) (hv : v < 4) (hn : n ≤ 16384) (k : Nat) (hk : n + 2 ≤ k) : pattern_Places.f k (v : Int) (n : Int) = some (P v n, 0) := by
  obtain ⟨k, rfl⟩ := pred (show 0 < k by omega)
  unfold pattern_Places.f
  rw [one_ok _ _ (by omega) (by omega) (by omega), Option.bind_some, if_pos rfl]
  simp only [pattern_Places.j0]
  rw [if_neg (by simp; omega)]
  exact places_l0 v n hv hn n k 0 (by omega) (by omega)
theorem places_no (v n : Int) (h : v < 0 ∨ 3 < v ∨ n < 0 ∨ 16384 < n) (k : Nat) (hk : 1 ≤ k) : pattern_Places.f k v n = some ([], 1) := by
  obtain ⟨k, rfl⟩ := pred (show 0 < k by omega)
  unfold pattern_Places.f
  by_cases a : v < 0 ∨ 3 < v ∨ n < 0
  · rw [one_no _ _ a, Option.bind_some, if_neg (by decide)]
    simp only [pattern_Places.j0, if_true]
  · rw [one_ok _ _ (by omega) (by omega) (by omega), Option.bind_some, if_pos rfl, show decide (n > 16384) = true from decide_eq_true (by omega)]
    simp only [pattern_Places.j0, if_true]
theorem stands_ok (k : Nat) (hk : 10 ≤ k) : shuttlelaw10_stands.f k = some true :=
  at_rounds (fun k => shuttlelaw10_stands.mono k) hk (by decide +kernel : shuttlelaw10_stands.f 10 = some true)
theorem ref_stream (v t : Nat) (hv : v < 4) : shuttleref10_Stream.f (v : Int) (t : Int) = some (st v t : Int) := by
  unfold shuttleref10_Stream.f; rw [st_eq v t hv]
-- what was seen
def ver (p : Nat) : Nat := (p % 4 + 4 - p / 4 % 4) % 4
def seen (n v t : Nat) : List Int := (List.range (4 * n)).map fun p => if ver p < v ∨ ver p = v ∧ p / 4 < t then 1 else 0
theorem seen_length (n v t : Nat) : (seen n v t).length = 4 * n := by simp [seen]
theorem seen_get (n v t p : Nat) (h : p < (seen n v t).length) : (seen n v t)[p] = if ver p < v ∨ ver p = v ∧ p / 4 < t then 1 else 0 := by simp [seen]
theorem pl_ver (v t : Nat) (hv : v < 4) : ver (pl v t) = v ∧ pl v t / 4 = t := by unfold ver pl st; omega
theorem seen_step (n v t : Nat) (hv : v < 4) (ht : t < n) : (seen n v t).set (pl v t) 1 = seen n v (t + 1) := by
  apply List.ext_getElem
  · simp [seen_length]
  · intro q h1 h2
    have hq : q < 4 * n := by rw [seen_length] at h2; exact h2
    rw [List.getElem_set, seen_get n v t q (by rw [seen_length]; exact hq), seen_get]
    obtain ⟨e1, e2⟩ := pl_ver v t hv
    by_cases e : pl v t = q
    · subst e
      rw [if_pos rfl, if_pos (by omega)]
    · rw [if_neg e]
      have : ¬ (ver q = v ∧ q / 4 = t) := by
        rintro ⟨a, b⟩
        apply e
        unfold ver at a e1
        unfold pl st at e1 e2 ⊢
        omega
      by_cases c : ver q < v ∨ ver q = v ∧ q / 4 < t
      · rw [if_pos c, if_pos (by omega)]
      · rw [if_neg c, if_neg (by omega)]
theorem seen_next (n v : Nat) : seen n v n = seen n (v + 1) 0 := by
  apply List.ext_getElem
  · simp [seen_length]
  · intro q h1 h2
    rw [seen_get, seen_get]
    have hq : q < 4 * n := by rw [seen_length] at h2; exact h2
    by_cases c : ver q < v + 1
    · rw [if_pos (by omega), if_pos (by omega)]
    · rw [if_neg (by omega), if_neg (by omega)]
theorem seen_none (n : Nat) : List.replicate (4 * n) (0 : Int) = seen n 0 0 := by
  apply List.ext_getElem
  · simp [seen_length]
  · intro q h1 h2
    rw [seen_get, if_neg (by omega)]; simp
theorem seen_all (n p : Nat) (h : p < 4 * n) : rd (seen n 4 0) (p : Int) = 1 := by
  rw [rd_get _ _ (by rw [seen_length]; exact h), seen_get, if_pos (by unfold ver; omega)]
theorem l2_ok (n : Nat) (hn : n ≤ 16384) (d : Nat) : ∀ k i : Nat, i + d = 4 * n → d < k → shuttlelaw10_PatternPlaces.l2 k (seen n 4 0) (i : Int) = some true := by
  induction d with
  | zero =>
    intro k i hi hk
    obtain ⟨k, rfl⟩ := pred hk
    simp only [shuttlelaw10_PatternPlaces.l2]
    rw [if_neg (by rw [seen_length]; omega)]
  | succ d ih =>
    intro k i hi hk
    obtain ⟨k, rfl⟩ := pred hk
    simp only [shuttlelaw10_PatternPlaces.l2]
    rw [if_pos (by rw [seen_length]; omega), if_pos (by omega), if_pos (seen_all n i (by omega)), wrap_succ i (by omega)]
    exact ih k (i + 1) (by omega) (by omega)
theorem l1_ok (v0 n v R : Nat) (h0 : v0 < 4) (hn : n ≤ 16384) (hv : v < 4)
    (H : ∀ k, R ≤ k → shuttlelaw10_PatternPlaces.l0 k (v0 : Int) (n : Int) (P v0 n) (seen n (v + 1) 0) ((v + 1 : Nat) : Int) = some true) (d : Nat) :
    ∀ k t : Nat, t + d = n → d + R + 1 ≤ k → shuttlelaw10_PatternPlaces.l1 k (v0 : Int) (n : Int) (P v0 n) (seen n v t) (v : Int) (P v n) (t : Int) = some true := by
  induction d with
  | zero =>
    intro k t ht hk
    obtain ⟨k, rfl⟩ := pred (show 0 < k by omega)
    obtain rfl : t = n := by omega
    simp only [shuttlelaw10_PatternPlaces.l1]
    rw [if_neg (by omega), wrap_succ v (by omega), seen_next]
    exact H k (by omega)
  | succ d ih =>
    intro k t ht hk
    obtain ⟨k, rfl⟩ := pred (show 0 < k by omega)
    have hlt : t < n := by omega
    have hpl : pl v t < 4 * n := by unfold pl st; omega
    have hst : st v t < 4 := by unfold st; omega
    obtain ⟨e1, e2⟩ := pl_ver v t hv
    have hz : rd (seen n v t) (plI v t) = 0 := by
      unfold plI
      rw [rd_get _ _ (by rw [seen_length]; exact hpl), seen_get, if_neg (by omega)]
    have hset : (seen n v t).set (plI v t).toNat (wrap64 (0 + 1)) = seen n v (t + 1) := by
      rw [show wrap64 (0 + 1) = 1 from by unfold wrap64; omega, show (plI v t).toNat = pl v t from by unfold plI; omega]
      exact seen_step n v t hv hlt
    simp only [shuttlelaw10_PatternPlaces.l1]
    rw [if_pos (by omega), if_pos (by omega), if_pos (by rw [P_length]; omega), ref_stream v t hv]
    simp only [Option.bind_some]
    have hP := P_at v n t hlt
    have hr := ih k (t + 1) (by omega) (by omega)
    have a0 : 0 ≤ plI v t := by unfold plI; omega
    have a1 : plI v t < ((seen n v t).length : Int) := by rw [seen_length]; unfold plI; omega
    rw [if_pos (by rw [hP, pl_eq v t (by omega)])]
    by_cases e : (v : Int) = (v0 : Int)
    · obtain rfl : v = v0 := by omega
      rw [if_pos rfl, if_pos (by rw [P_length]; omega), if_pos rfl, hP, if_pos a0, if_pos a1, hz, hset, wrap_succ t (by omega)]
      exact hr
    · rw [if_neg e, hP, if_pos a0, if_pos a1, hz, hset, wrap_succ t (by omega)]
      exact hr
theorem l0_step (v0 n v R : Nat) (h0 : v0 < 4) (hn : n ≤ 16384) (hv : v < 4)
    (H : ∀ k, R ≤ k → shuttlelaw10_PatternPlaces.l0 k (v0 : Int) (n : Int) (P v0 n) (seen n (v + 1) 0) ((v + 1 : Nat) : Int) = some true) :
    ∀ k, 2 * n + R + 10 ≤ k → shuttlelaw10_PatternPlaces.l0 k (v0 : Int) (n : Int) (P v0 n) (seen n v 0) (v : Int) = some true := by
  intro k hk
  obtain ⟨k, rfl⟩ := pred (show 0 < k by omega)
  simp only [shuttlelaw10_PatternPlaces.l0]
  rw [if_pos (by omega), places_ok v n hv hn k (by omega), Option.bind_some, if_pos rfl]
  obtain ⟨k, rfl⟩ := pred (show 0 < k by omega)
  simp only [shuttlelaw10_PatternPlaces.j3]
  rw [if_neg (by simp [P_length])]
  exact l1_ok v0 n v R h0 hn hv H n k 0 (by omega) (by omega)
theorem l0_end (v0 n : Nat) (hn : n ≤ 16384) : ∀ k, 4 * n + 10 ≤ k → shuttlelaw10_PatternPlaces.l0 k (v0 : Int) (n : Int) (P v0 n) (seen n 4 0) ((3 + 1 : Nat) : Int) = some true := by
  intro k hk
  obtain ⟨k, rfl⟩ := pred (show 0 < k by omega)
  simp only [shuttlelaw10_PatternPlaces.l0]
  rw [if_neg (by omega)]
  exact l2_ok n hn (4 * n) k 0 (by omega) (by omega)
theorem PatternPlaces : shuttlelaw10_PatternPlaces.Pure := by
  intro a0 a1 w0 w1
  have b0 := Go.bounds_i64 w0
  have b1 := Go.bounds_i64 w1
  refine ⟨400000, ?_⟩
  unfold shuttlelaw10_PatternPlaces.f
  by_cases h : a0 < 0 ∨ 3 < a0 ∨ a1 < 0 ∨ 16384 < a1
  · rw [places_no a0 a1 h 400000 (by omega), Option.bind_some, stands_ok 400000 (by omega), Option.bind_some, if_pos rfl]
    have hj : shuttlelaw10_PatternPlaces.j0 400000 a0 a1 [] 1 true = some true := by
      simp only [shuttlelaw10_PatternPlaces.j0, if_true]; rfl
    by_cases c1 : a0 < 0
    · rw [if_pos c1]; exact hj
    · rw [if_neg c1]
      by_cases c2 : a0 > 3
      · rw [if_pos c2]; exact hj
      · rw [if_neg c2]
        by_cases c3 : a1 < 0
        · rw [if_pos c3]; exact hj
        · rw [if_neg c3, show decide (a1 > 16384) = true from decide_eq_true (by omega)]; exact hj
  · obtain ⟨v, rfl⟩ := Int.eq_ofNat_of_zero_le (show 0 ≤ a0 by omega)
    obtain ⟨n, rfl⟩ := Int.eq_ofNat_of_zero_le (show 0 ≤ a1 by omega)
    have hv : v < 4 := by omega
    have hn : n ≤ 16384 := by omega
    rw [places_ok v n hv hn 400000 (by omega), Option.bind_some, stands_ok 400000 (by omega), Option.bind_some, if_pos rfl, if_neg (by omega), if_neg (by omega), if_neg (by omega), show decide ((n : Int) > 16384) = false from decide_eq_false (by omega)]
    rw [show (400000 : Nat) = 399999 + 1 from rfl]
    simp only [shuttlelaw10_PatternPlaces.j0]
    rw [if_neg (by decide), if_pos trivial, show ((((P v n).length : Int) != (n : Int)) : Bool) = false from by simp [P_length]]
    rw [show (399999 : Nat) = 399998 + 1 from rfl]
    simp only [shuttlelaw10_PatternPlaces.j1]
    have e4 : wrap64 (4 * (n : Int)) = ((4 * n : Nat) : Int) := by rw [wrap_in (by omega) (by omega)]; omega
    rw [if_neg (by decide), e4, if_pos (by omega), if_pos (by omega), show ((4 * n : Nat) : Int).toNat = 4 * n from by omega, seen_none]
    have h3 := l0_step v n 3 _ hv hn (by omega) (l0_end v n hn)
    have h2 := l0_step v n 2 _ hv hn (by omega) h3
    have h1 := l0_step v n 1 _ hv hn (by omega) h2
    exact l0_step v n 0 _ hv hn (by omega) h1 399998 (by omega)

end Go.Proofs.Ytkhpgjojbdgkfaa.Pure
