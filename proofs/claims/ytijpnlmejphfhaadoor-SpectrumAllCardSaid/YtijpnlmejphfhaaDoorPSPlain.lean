/- What spectrum's rows hold, in natural numbers. No condition but bounds. -/
import Derived.Test.YtijpnlmejphfhaaDoorPSCount
namespace Go.Proofs.YtijpnlmejphfhaaDoor.P
open Go Go.Proofs Go.RowKit Go.Proofs.YtijpnlmejphfhaaDoorW.PrintWords Go.Proofs.YtijpnlmejphfhaaDoorW.PrintLast Go.Proofs.YtijpnlmejphfhaaDoorW.PrintMore
set_option linter.unusedVariables false
set_option linter.unusedSimpArgs false

/-- An edge's weight. -/
def en (W : Nat → Int) (s i t : Nat) : Nat := (ew W s i t).toNat
def sA (u : Nat) : Nat := 2 * (u % 32)
def sB (u : Nat) : Nat := 2 * (u % 32) + 1
/-- The ways that come to state u at a step, of weight x. -/
def inn (W : Nat → Int) (t : Nat) (P : Nat → Nat → Nat) (u x : Nat) : Nat :=
  (if en W (sA u) (u / 32) t ≤ x then P (sA u) (x - en W (sA u) (u / 32) t) else 0) + (if en W (sB u) (u / 32) t ≤ x then P (sB u) (x - en W (sB u) (u / 32) t) else 0)
def cntP (W : Nat → Int) (p : Nat) : Nat → Nat → Nat → Nat
  | 0, u, x => if u = 32 ∧ x = en W 0 1 p then 1 else 0
  | k + 1, u, x => if u = 0 then 0 else inn W (p + (k + 1)) (cntP W p k) u x
def fndP (W : Nat → Int) (p : Nat) : Nat → Nat → Nat
  | 0, _ => 0
  | k + 1, x => fndP W p k x + inn W (p + (k + 1)) (cntP W p k) 0 x
theorem acc_in (W : Nat → Int) (N t : Nat) (rows : Nat → List Int) (u : Nat) (hu : u < 64) : ∀ m, m ≤ 128 → acc W N t rows m u =
    if m ≤ 2 * sA u + u / 32 then zeros N else if m ≤ 2 * sB u + u / 32 then addI (zeros N) (rows (sA u)) (en W (sA u) (u / 32) t) N
    else addI (addI (zeros N) (rows (sA u)) (en W (sA u) (u / 32) t) N) (rows (sB u)) (en W (sB u) (u / 32) t) N
  | 0, _ => by rw [if_pos (by omega)]; rfl
  | m + 1, hm => by
    rw [acc_succ, acc_in W N t rows u hu m (by omega)]
    unfold dst
    by_cases hA : m = 2 * sA u + u / 32
    · have e1 : m / 2 = sA u := by omega
      have e2 : m % 2 = u / 32 := by omega
      have e3 : 32 * (u / 32) + sA u / 2 = u := by unfold sA; omega
      rw [e1, e2, if_pos e3.symm, if_pos (by omega), if_neg (by omega), if_pos (by unfold sA at hA; unfold sB; omega)]; rfl
    · by_cases hB : m = 2 * sB u + u / 32
      · have e1 : m / 2 = sB u := by omega
        have e2 : m % 2 = u / 32 := by omega
        have e3 : 32 * (u / 32) + sB u / 2 = u := by unfold sB; omega
        rw [e1, e2, if_pos e3.symm, if_neg (by unfold sB at hB; unfold sA; omega), if_pos (by omega), if_neg (by unfold sB at hB; unfold sA; omega), if_neg (by omega)]; rfl
      · have hne : ¬ u = 32 * (m % 2) + m / 2 / 2 := by
          intro e
          have q1 : u / 32 = m % 2 := by omega
          have q2 : u % 32 = m / 2 / 2 := by omega
          unfold sA at hA
          unfold sB at hB
          rw [q1, q2] at hA hB
          omega
        rw [if_neg hne]
        have hAB : 2 * sA u + u / 32 < 2 * sB u + u / 32 := by unfold sA sB; omega
        generalize 2 * sA u + u / 32 = α at *
        generalize 2 * sB u + u / 32 = β at *
        by_cases c1 : m ≤ α
        · rw [if_pos c1, if_pos (c := m + 1 ≤ α) (by omega)]
        · rw [if_neg c1, if_neg (c := m + 1 ≤ α) (by omega)]
          by_cases c2 : m ≤ β
          · rw [if_pos c2, if_pos (c := m + 1 ≤ β) (by omega)]
          · rw [if_neg c2, if_neg (c := m + 1 ≤ β) (by omega)]
theorem acc_all (W : Nat → Int) (N t : Nat) (rows : Nat → List Int) (u : Nat) (hu : u < 64) : acc W N t rows 128 u =
    addI (addI (zeros N) (rows (sA u)) (en W (sA u) (u / 32) t) N) (rows (sB u)) (en W (sB u) (u / 32) t) N := by
  rw [acc_in W N t rows u hu 128 (by omega), if_neg (by unfold sA; omega), if_neg (by unfold sB; omega)]
theorem zeros_get (N x : Nat) : (zeros N).getD x 0 = 0 := by
  unfold zeros
  rw [List.getD_eq_getElem?_getD, List.getElem?_replicate]
  split <;> rfl
theorem wrap_small {n : Int} (h : 0 ≤ n) (h2 : n ≤ 4611686018427387904) : wrap64 n = n := by unfold wrap64; omega
/-- What comes to a state. -/
theorem acc_get (W : Nat → Int) (N t : Nat) (rows : Nat → List Int) (P : Nat → Nat → Nat) (B : Nat) (hB : B ≤ 1152921504606846976) (hl : ∀ s, s < 64 → (rows s).length = N)
    (h : ∀ s x, s < 64 → x < N → (rows s).getD x 0 = (P s x : Int)) (hP : ∀ s x, P s x ≤ B) (u : Nat) (hu : u < 64) (x : Nat) (hx : x < N) :
    (acc W N t rows 128 u).getD x 0 = ((inn W t P u x : Nat) : Int) := by
  have hA : sA u < 64 := by unfold sA; omega
  have hBs : sB u < 64 := by unfold sB; omega
  rw [acc_all W N t rows u hu, addI_get _ _ _ _ _ (by rw [addI_length]; unfold zeros; rw [List.length_replicate]; exact hx), addI_get _ _ _ _ _ (by unfold zeros; rw [List.length_replicate]; exact hx), zeros_get]
  unfold inn
  have e1 : (if en W (sA u) (u / 32) t ≤ x ∧ x < en W (sA u) (u / 32) t + N then wrap64 (0 + (rows (sA u)).getD (x - en W (sA u) (u / 32) t) 0) else (0 : Int)) = ((if en W (sA u) (u / 32) t ≤ x then P (sA u) (x - en W (sA u) (u / 32) t) else 0 : Nat) : Int) := by
    by_cases c : en W (sA u) (u / 32) t ≤ x
    · rw [if_pos ⟨c, by omega⟩, if_pos c, h _ _ hA (by omega), Int.zero_add]
      have := hP (sA u) (x - en W (sA u) (u / 32) t)
      exact wrap_small (by omega) (by omega)
    · rw [if_neg (by omega), if_neg c]; rfl
  rw [e1]
  by_cases c : en W (sB u) (u / 32) t ≤ x
  · rw [if_pos ⟨c, by omega⟩, if_pos c, h _ _ hBs (by omega)]
    have := hP (sB u) (x - en W (sB u) (u / 32) t)
    have := hP (sA u) (x - en W (sA u) (u / 32) t)
    rw [Int.natCast_add]
    apply wrap_small
    · split <;> omega
    · split <;> omega
  · rw [if_neg (by omega), if_neg c]; simp
theorem inn_le {W : Nat → Int} {t : Nat} {P : Nat → Nat → Nat} {B : Nat} (hP : ∀ s x, P s x ≤ B) (u x : Nat) : inn W t P u x ≤ 2 * B := by
  unfold inn
  have h1 := hP (sA u) (x - en W (sA u) (u / 32) t)
  have h2 := hP (sB u) (x - en W (sB u) (u / 32) t)
  split <;> split <;> omega
theorem cntP_le (W : Nat → Int) (p : Nat) : ∀ k u x, cntP W p k u x ≤ 2 ^ k
  | 0, u, x => by unfold cntP; split <;> simp
  | k + 1, u, x => by
    unfold cntP
    split
    · exact Nat.zero_le _
    · rw [Nat.pow_succ, Nat.mul_comm]; exact inn_le (cntP_le W p k) u x
theorem fndP_le (W : Nat → Int) (p : Nat) : ∀ k x, fndP W p k x ≤ 2 ^ (k + 1)
  | 0, x => by unfold fndP; simp
  | k + 1, x => by
    unfold fndP
    have h1 := fndP_le W p k x
    have h2 := inn_le (W := W) (t := p + (k + 1)) (cntP_le W p k) 0 x
    have e : 2 ^ (k + 1 + 1) = 2 * 2 ^ (k + 1) := by rw [Nat.pow_succ, Nat.mul_comm]
    have e2 : 2 ^ (k + 1) = 2 * 2 ^ k := by rw [Nat.pow_succ, Nat.mul_comm]
    omega
theorem two_le {k : Nat} (h : k ≤ 30) : 2 ^ k ≤ 1073741824 := Nat.pow_le_pow_right (by decide) h
theorem itR_get (W : Nat → Int) (N p : Nat) : ∀ k, k ≤ 29 → (∀ u, u < 64 → ((itR W N p k).1 u).length = N ∧ ∀ x, x < N → ((itR W N p k).1 u).getD x 0 = (cntP W p k u x : Int)) ∧ (itR W N p k).2.length = N ∧ ∀ x, x < N → (itR W N p k).2.getD x 0 = (fndP W p k x : Int)
  | 0, _ => by
    refine ⟨fun u hu => ⟨?_, fun x hx => ?_⟩, List.length_replicate, fun x hx => zeros_get N x⟩
    · show (beginRows W N p u).length = N
      unfold beginRows
      split
      · rw [addI_length]; exact List.length_replicate
      · exact List.length_replicate
    · show (beginRows W N p u).getD x 0 = ((cntP W p 0 u x : Nat) : Int)
      unfold beginRows cntP
      by_cases c : u = 32
      · rw [if_pos c, addI_get _ _ _ _ _ (by unfold zeros; rw [List.length_replicate]; exact hx), zeros_get]
        have hone : ∀ j, (one N).getD j 0 = if j = 0 ∧ 0 < N then 1 else 0 := by
          intro j
          unfold one zeros
          rw [List.getD_eq_getElem?_getD, List.getElem?_set]
          by_cases cj : 0 = j
          · subst cj
            rw [if_pos rfl, List.length_replicate]
            by_cases cn : 0 < N
            · rw [if_pos cn, if_pos ⟨rfl, cn⟩]; rfl
            · rw [if_neg cn, if_neg (by omega)]; rfl
          · rw [if_neg cj, if_neg (by omega), List.getElem?_replicate]
            split <;> rfl
        rw [hone]
        show (if en W 0 1 p ≤ x ∧ x < en W 0 1 p + N then wrap64 (0 + if x - en W 0 1 p = 0 ∧ 0 < N then (1 : Int) else 0) else 0) = _
        by_cases cx : x = en W 0 1 p
        · rw [if_pos ⟨by omega, by omega⟩, if_pos ⟨by omega, by omega⟩, if_pos ⟨c, cx⟩]
          exact wrap_small (by decide) (by decide)
        · rw [if_neg (c := u = 32 ∧ x = en W 0 1 p) (fun h => cx h.2)]
          by_cases cy : en W 0 1 p ≤ x ∧ x < en W 0 1 p + N
          · rw [if_pos cy, if_neg (by omega)]
            exact wrap_small (by decide) (by decide)
          · rw [if_neg cy]; rfl
      · rw [if_neg c, if_neg (fun h => c h.1), zeros_get]; rfl
  | k + 1, hk => by
    obtain ⟨hr, hfl, hf⟩ := itR_get W N p k (by omega)
    have hpow := two_le (k := k) (by omega)
    have hacc := acc_get W N (p + (k + 1)) (itR W N p k).1 (cntP W p k) (2 ^ k) (by omega) (fun s hs => (hr s hs).1) (fun s x hs hx => (hr s hs).2 x hx) (cntP_le W p k)
    refine ⟨fun u hu => ⟨?_, fun x hx => ?_⟩, ?_, fun x hx => ?_⟩
    · show (stepRows W N (p + (k + 1)) (itR W N p k).1 u).length = N
      unfold stepRows
      split
      · exact List.length_replicate
      · exact acc_length ..
    · show (stepRows W N (p + (k + 1)) (itR W N p k).1 u).getD x 0 = ((cntP W p (k + 1) u x : Nat) : Int)
      unfold stepRows cntP
      by_cases c : u = 0
      · rw [if_pos c, if_pos c, zeros_get]; rfl
      · rw [if_neg c, if_neg c]; exact hacc u hu x hx
    · show (stepFound W N (p + (k + 1)) (itR W N p k).1 (itR W N p k).2).length = N
      unfold stepFound
      rw [addI_length, hfl]
    · show (stepFound W N (p + (k + 1)) (itR W N p k).1 (itR W N p k).2).getD x 0 = ((fndP W p (k + 1) x : Nat) : Int)
      unfold stepFound fndP
      rw [addI_get _ _ _ _ _ (by rw [hfl]; exact hx), if_pos ⟨Nat.zero_le _, by omega⟩, Nat.sub_zero, hf x hx, hacc 0 (by decide) x hx, Int.natCast_add]
      have h1 := fndP_le W p k x
      have h2 := inn_le (W := W) (t := p + (k + 1)) (cntP_le W p k) 0 x
      have e2 : 2 ^ (k + 1) = 2 * 2 ^ k := by rw [Nat.pow_succ, Nat.mul_comm]
      exact wrap_small (by omega) (by omega)
/-- The counts, place by place. -/
theorem countL_get (a b c d : Int) (p s m x : Nat) (hs : s ≤ 30) (hx : x ≤ m) : (countL a b c d p s m).getD x 0 = (fndP (wOf a b c d) p (s - 1) x : Int) :=
  (itR_get (wOf a b c d) (m + 1) p (s - 1) (by omega)).2.2 x (by omega)
theorem countL_length (a b c d : Int) (p s m : Nat) (hs : s ≤ 30) : (countL a b c d p s m).length = m + 1 :=
  (itR_get (wOf a b c d) (m + 1) p (s - 1) (by omega)).2.1
theorem countL_eq (a b c d : Int) (p s m : Nat) (hs : s ≤ 30) : countL a b c d p s m = (List.range (m + 1)).map fun x => (fndP (wOf a b c d) p (s - 1) x : Int) := by
  apply List.ext_getElem
  · rw [countL_length _ _ _ _ _ _ _ hs, List.length_map, List.length_range]
  · intro x h1 h2
    have hx : x ≤ m := by rw [countL_length _ _ _ _ _ _ _ hs] at h1; omega
    have h := countL_get a b c d p s m x hs hx
    rw [List.getD_eq_getElem?_getD, List.getElem?_eq_getElem h1] at h
    rw [List.getElem_map, List.getElem_range]
    exact h
/-- The chapter's own count: one detour of seven steps, that weighs twenty. -/
theorem counts_are : firstN (countL 1 1 1 1 0 7 30) = 20 ∧ firstK (countL 1 1 1 1 0 7 30) = 1 := by
  rw [countL_eq 1 1 1 1 0 7 30 (by decide)]
  decide +kernel
end Go.Proofs.YtijpnlmejphfhaaDoor.P
