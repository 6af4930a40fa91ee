/- PatternTells: of all versions, streams, steps and sets it is told what stands where and how many bits a set tells, or that there is no such one; no condition. -/
import Derived.Test.YtkhpgjojbdgkfaaXPlain
import Derived.Test.YtkhpgjojbdgkfaaX17
import Derived.Test.YtkhpgjojbdgkfaaX8
namespace Go.Proofs.Ytkhpgjojbdgkfaa.Pure
open Go.RowKit Go.Proofs.Ytkhpgjojbdgkfaa.X Go.Proofs.YtkhpgjojbdgkfaaW.PrintWords Go.Proofs.YtkhpgjojbdgkfaaW.PrintLast Go.Proofs.YtkhpgjojbdgkfaaW.PrintMore

theorem stands_ok (k : Nat) (hk : 10 ≤ k) : shuttlelaw10_stands.f k = some true :=
  at_rounds (fun k => shuttlelaw10_stands.mono k) hk (by decide +kernel : shuttlelaw10_stands.f 10 = some true)
theorem one_ok (v t : Int) (h0 : 0 ≤ v) (h1 : v < 4) (h2 : 0 ≤ t) : pattern_one.f v t = some true := by
  unfold pattern_one.f; rw [if_pos (by omega), if_pos h1]; simp; omega
theorem one_no (v t : Int) (h : v < 0 ∨ 3 < v ∨ t < 0) : pattern_one.f v t = some false := by
  unfold pattern_one.f
  by_cases a : v ≥ 0
  · rw [if_pos a]
    by_cases b : v < 4
    · rw [if_pos b]; simp; omega
    · rw [if_neg b]
  · rw [if_neg a]
theorem two_ok (v t r : Int) (hv : 0 ≤ v ∧ v < 4) (ht : 0 ≤ t) (hr : Int.tmod t 4 = r) :
    pattern_Stream.f v t = some (Int.tmod (wrap64 (v + r)) 4, 0) ∧ pattern_Version.f v t = some (Int.tmod (wrap64 ((wrap64 (v + 4)) - r)) 4, 0) ∧ shuttleref10_Stream.f v t = some (Int.tmod (wrap64 (v + r)) 4) := by
  unfold pattern_Stream.f pattern_Version.f shuttleref10_Stream.f
  rw [one_ok v t hv.1 hv.2 ht, hr]
  exact ⟨rfl, rfl, rfl⟩
theorem two_no (v t : Int) (h : v < 0 ∨ 3 < v ∨ t < 0) : pattern_Stream.f v t = some (0, 1) ∧ pattern_Version.f v t = some (0, 1) := by
  unfold pattern_Stream.f pattern_Version.f
  rw [one_no v t h]
  exact ⟨rfl, rfl⟩
theorem ver_step (k : Nat) (n t r j : Int) (hr : Int.tmod t 4 = r) (hj : j < 4) : shuttleref10_Version.l0 (k + 1) n t j = if Int.tmod (wrap64 (j + r)) 4 = n then some j else shuttleref10_Version.l0 k n t (wrap64 (j + 1)) := by
  simp only [shuttleref10_Version.l0]
  rw [if_pos hj]
  unfold shuttleref10_Stream.f
  rw [hr]
  simp only [Option.bind_some]
theorem tw (a : Int) (h : 0 ≤ a ∧ a ≤ 100) : Int.tmod (wrap64 a) 4 = a % 4 := by
  rw [wrap_in (by omega) (by omega), Int.tmod_eq_emod_of_nonneg h.1]
theorem ver_eq (k : Nat) (hk : 8 ≤ k) (n t r : Int) (hn : n = 0 ∨ n = 1 ∨ n = 2 ∨ n = 3) (hr : Int.tmod t 4 = r) (h4 : r = 0 ∨ r = 1 ∨ r = 2 ∨ r = 3) :
    shuttleref10_Version.f k n t = some (Int.tmod (wrap64 ((wrap64 (n + 4)) - r)) 4) := by
  obtain ⟨m, rfl⟩ : ∃ m, k = m + 1 + 1 + 1 + 1 := ⟨k - 4, by omega⟩
  unfold shuttleref10_Version.f
  have w1 : wrap64 ((0 : Int) + 1) = 1 := by unfold wrap64; omega
  have w2 : wrap64 ((1 : Int) + 1) = 2 := by unfold wrap64; omega
  have w3 : wrap64 ((2 : Int) + 1) = 3 := by unfold wrap64; omega
  rw [ver_step _ n t r 0 hr (by omega), w1, ver_step _ n t r 1 hr (by omega), w2, ver_step _ n t r 2 hr (by omega), w3, ver_step _ n t r 3 hr (by omega)]
  rw [tw (0 + r) (by omega), tw (1 + r) (by omega), tw (2 + r) (by omega), tw (3 + r) (by omega), wrap_in (n := n + 4) (by omega) (by omega), tw (n + 4 - r) (by omega)]
  rcases hn with rfl | rfl | rfl | rfl <;> rcases h4 with rfl | rfl | rfl | rfl <;> rfl
theorem rate_no (s : Int) (h : s < 0 ∨ 15 < s) : pattern_Rate.f s = some (0, 1) := by
  unfold pattern_Rate.f
  by_cases a : s < 0
  · rw [if_pos a]
  · rw [if_neg a, if_pos (by omega)]
def bitsum (s : Int) : Int := wrap64 (wrap64 (wrap64 (wrap64 (0 + Go.bits .and .i64 (shr .i64 s 0) 1) + Go.bits .and .i64 (shr .i64 s 1) 1) + Go.bits .and .i64 (shr .i64 s 2) 1) + Go.bits .and .i64 (shr .i64 s 3) 1)
theorem rate_ok (s : Int) (h0 : 0 ≤ s) (h1 : s ≤ 15) : pattern_Rate.f s = some (bitsum s, 0) := by
  obtain ⟨m, rfl⟩ := Int.eq_ofNat_of_zero_le h0
  have hm : m < 16 := by omega
  have all : ∀ m : Fin 16, pattern_Rate.f ((m.val : Nat) : Int) = some (bitsum ((m.val : Nat) : Int), 0) := by decide +kernel
  exact all ⟨m, hm⟩
theorem l0_step (k : Nat) (x0 x1 x2 x7 x8 x9 x10 x11 x12 x13 j : Int) (h0 : 0 ≤ j) (h4 : j < 4) :
    shuttlelaw10_PatternTells.l0 (k + 1) x0 x1 x2 x7 x8 x9 x10 x11 x12 x13 j = shuttlelaw10_PatternTells.l0 k x0 x1 x2 x7 x8 x9 x10 x11 x12 (wrap64 (x13 + Go.bits .and .i64 (shr .i64 x2 j) 1)) (wrap64 (j + 1)) := by
  simp only [shuttlelaw10_PatternTells.l0]
  rw [if_pos h4, if_pos h0]
theorem l0_four (k : Nat) (x0 x1 x2 x7 x8 x9 x10 x11 x12 : Int) :
    shuttlelaw10_PatternTells.l0 (k + 1 + 1 + 1 + 1) x0 x1 x2 x7 x8 x9 x10 x11 x12 0 0 = shuttlelaw10_PatternTells.l0 k x0 x1 x2 x7 x8 x9 x10 x11 x12 (bitsum x2) 4 := by
  have w1 : wrap64 ((0 : Int) + 1) = 1 := by unfold wrap64; omega
  have w2 : wrap64 ((1 : Int) + 1) = 2 := by unfold wrap64; omega
  have w3 : wrap64 ((2 : Int) + 1) = 3 := by unfold wrap64; omega
  have w4 : wrap64 ((3 : Int) + 1) = 4 := by unfold wrap64; omega
  rw [l0_step _ _ _ _ _ _ _ _ _ _ _ 0 (by omega) (by omega), w1, l0_step _ _ _ _ _ _ _ _ _ _ _ 1 (by omega) (by omega), w2, l0_step _ _ _ _ _ _ _ _ _ _ _ 2 (by omega) (by omega), w3, l0_step _ _ _ _ _ _ _ _ _ _ _ 3 (by omega) (by omega), w4]
  rfl
/-- Behind the count: what is left to be asked. -/
theorem j1_ok (k : Nat) (hk : 12 ≤ k) (a0 a1 s e v f : Int) (b0 : -9223372036854775808 ≤ a0 ∧ a0 ≤ 9223372036854775807) (b1 : -9223372036854775808 ≤ a1 ∧ a1 ≤ 9223372036854775807)
    (hs : pattern_Stream.f a0 a1 = some (s, e)) (hv : pattern_Version.f a0 a1 = some (v, f)) : shuttlelaw10_PatternTells.j1 k a0 a1 s e v f false = some true := by
  obtain ⟨k, rfl⟩ : ∃ m, k = m + 1 + 1 := ⟨k - 2, by omega⟩
  simp only [shuttlelaw10_PatternTells.j1]
  rw [if_neg (by decide)]
  by_cases h : a0 < 0 ∨ 3 < a0 ∨ a1 < 0
  · obtain ⟨e1, e2⟩ := two_no a0 a1 h
    rw [e1] at hs
    rw [e2] at hv
    simp only [Option.some.injEq, Prod.mk.injEq] at hs hv
    obtain ⟨rfl, rfl⟩ := hs
    obtain ⟨rfl, rfl⟩ := hv
    have hj : shuttlelaw10_PatternTells.j2 (k + 1) a0 a1 0 1 0 1 true = some true := by
      simp only [shuttlelaw10_PatternTells.j2, if_true]; rfl
    by_cases c1 : a0 < 0
    · rw [if_pos c1]; exact hj
    · rw [if_neg c1]
      by_cases c2 : a0 > 3
      · rw [if_pos c2]; exact hj
      · rw [if_neg c2, show decide (a1 < 0) = true from decide_eq_true (by omega)]; exact hj
  · have ht : 0 ≤ a1 := by omega
    have hm : Int.tmod a1 4 = a1 % 4 := Int.tmod_eq_emod_of_nonneg ht
    obtain ⟨e1, e2, e3⟩ := two_ok a0 a1 (a1 % 4) (by omega) ht hm
    rw [e1] at hs
    rw [e2] at hv
    simp only [Option.some.injEq, Prod.mk.injEq] at hs hv
    obtain ⟨rfl, rfl⟩ := hs
    obtain ⟨rfl, rfl⟩ := hv
    rw [if_neg (by omega), if_neg (by omega), show decide (a1 < 0) = false from decide_eq_false (by omega)]
    simp only [shuttlelaw10_PatternTells.j2, if_true]
    rw [if_neg (by decide), e3]
    simp only [Option.bind_some, if_true]
    rw [ver_eq k (by omega) a0 a1 (a1 % 4) (by omega) hm (by omega)]
    simp
theorem PatternTells : shuttlelaw10_PatternTells.Pure := by
  intro a0 a1 a2 w0 w1 w2
  have b0 := Go.bounds_i64 w0
  have b1 := Go.bounds_i64 w1
  refine ⟨25 + 1 + 1 + 1 + 1, ?_⟩
  unfold shuttlelaw10_PatternTells.f
  obtain ⟨s, e, hs⟩ : ∃ s e, pattern_Stream.f a0 a1 = some (s, e) := by
    by_cases h : a0 < 0 ∨ 3 < a0 ∨ a1 < 0
    · exact ⟨_, _, (two_no a0 a1 h).1⟩
    · exact ⟨_, _, (two_ok a0 a1 _ (by omega) (by omega) rfl).1⟩
  obtain ⟨v, f, hv⟩ : ∃ s e, pattern_Version.f a0 a1 = some (s, e) := by
    by_cases h : a0 < 0 ∨ 3 < a0 ∨ a1 < 0
    · exact ⟨_, _, (two_no a0 a1 h).2⟩
    · exact ⟨_, _, (two_ok a0 a1 _ (by omega) (by omega) rfl).2.1⟩
  have hj : shuttlelaw10_PatternTells.j1 24 a0 a1 s e v f false = some true := j1_ok 24 (by omega) a0 a1 s e v f b0 b1 hs hv
  rw [hs, hv]
  simp only [Option.bind_some]
  by_cases h : a2 < 0 ∨ 15 < a2
  · rw [rate_no a2 h, stands_ok _ (by omega)]
    simp only [Option.bind_some, if_true]
    rw [l0_four]
    simp only [shuttlelaw10_PatternTells.l0]
    rw [if_neg (by omega)]
    by_cases c : a2 < 0
    · rw [if_pos c, if_neg (by decide), if_neg (by decide)]; exact hj
    · rw [if_neg c, if_neg (by rw [show decide (a2 > 15) = true from decide_eq_true (by omega)]; decide), if_neg (by decide)]; exact hj
  · rw [rate_ok a2 (by omega) (by omega), stands_ok _ (by omega)]
    simp only [Option.bind_some, if_true]
    rw [l0_four]
    simp only [shuttlelaw10_PatternTells.l0]
    rw [if_neg (by omega), if_neg (by omega), if_neg (by rw [show decide (a2 > 15) = false from decide_eq_false (by omega)]; decide), if_pos trivial, show ((bitsum a2 != bitsum a2) : Bool) = false from by simp]
    exact hj

end Go.Proofs.Ytkhpgjojbdgkfaa.Pure
