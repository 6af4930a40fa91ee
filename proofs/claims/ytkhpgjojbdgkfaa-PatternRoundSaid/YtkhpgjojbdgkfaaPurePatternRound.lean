/- PatternRound: versions come round behind four steps, and each stream stands in each version once in four steps; no condition. -/
import Derived.Test.YtkhpgjojbdgkfaaZPlain
import Derived.Test.YtkhpgjojbdgkfaaZ2
import Derived.Test.YtkhpgjojbdgkfaaZ4
import Derived.Test.YtkhpgjojbdgkfaaZ5
import Derived.Test.YtkhpgjojbdgkfaaZ6
namespace Go.Proofs.Ytkhpgjojbdgkfaa.Pure
open Go.RowKit Go.Proofs.Ytkhpgjojbdgkfaa.Z Go.Proofs.YtkhpgjojbdgkfaaW.PrintWords Go.Proofs.YtkhpgjojbdgkfaaW.PrintLast Go.Proofs.YtkhpgjojbdgkfaaW.PrintMore
set_option linter.unusedVariables false

theorem r_one_ok (v t : Int) (h0 : 0 ≤ v) (h1 : v < 4) (h2 : 0 ≤ t) : pattern_one.f v t = some true := by
  unfold pattern_one.f; rw [if_pos (by omega), if_pos h1]; simp; omega
theorem r_tm4 (t : Int) (h : 0 ≤ t) : Int.tmod t 4 = t % 4 := Int.tmod_eq_emod_of_nonneg h
theorem r_stream (v t x : Int) (h0 : 0 ≤ v) (h1 : v < 4) (h2 : 0 ≤ t) (hx : (v + t % 4) % 4 = x) : pattern_Stream.f v t = some (x, 0) := by
  unfold pattern_Stream.f
  rw [r_one_ok v t h0 h1 h2, Option.bind_some, if_pos rfl, r_tm4 t h2, show wrap64 (v + t % 4) = v + t % 4 from by unfold wrap64; omega, r_tm4 _ (by omega), hx]
theorem r_version (s t x : Int) (h0 : 0 ≤ s) (h1 : s < 4) (h2 : 0 ≤ t) (hx : (s + 4 - t % 4) % 4 = x) : pattern_Version.f s t = some (x, 0) := by
  unfold pattern_Version.f
  rw [r_one_ok s t h0 h1 h2, Option.bind_some, if_pos rfl, r_tm4 t h2, show wrap64 (s + 4) = s + 4 from by unfold wrap64; omega,
    show wrap64 (s + 4 - t % 4) = s + 4 - t % 4 from by unfold wrap64; omega, r_tm4 _ (by omega), hx]
theorem r_stands (k : Nat) (hk : 10 ≤ k) : shuttlelaw10_stands.f k = some true :=
  at_rounds (fun k => shuttlelaw10_stands.mono k) hk (by decide +kernel : shuttlelaw10_stands.f 10 = some true)
theorem u64_pos (a : Int) : 0 ≤ IntKind.u64.wrap a := by
  show (0 : Int) ≤ a % (2 : Int) ^ 64
  omega
section
variable (k : Nat) (s t a b i : Int) (x0 x1 x2 x3 : Bool) (h0 : 0 ≤ s) (h1 : s < 4) (h2 : 0 ≤ t) (h3 : t < 1099511627776) (i0 : 0 ≤ i) (i1 : i < 4)
include h0 h1 h2 h3 i0 i1
theorem round0 (hv : (s + 4 - (t + i) % 4) % 4 = 0) : shuttlelaw10_PatternRound.l0 (k + 2) s t a 0 b 0 i false x1 x2 x3 = shuttlelaw10_PatternRound.l0 k s t a 0 b 0 (i + 1) true x1 x2 x3 := by
  have e : wrap64 (t + i) = t + i := by unfold wrap64; omega
  have e' : wrap64 (i + 1) = i + 1 := by unfold wrap64; omega
  rw [shuttlelaw10_PatternRound.l0.eq_2, if_pos i1, e, r_version s (t + i) 0 h0 h1 (by omega) hv, Option.bind_some, if_pos rfl, if_neg (by decide), if_neg (by decide), if_pos rfl,
    shuttlelaw10_PatternRound.j1.eq_2, if_neg (by decide), if_pos rfl, e, r_stream 0 (t + i) s (by omega) (by omega) (by omega) (by omega), Option.bind_some, if_pos rfl, if_pos rfl, e']
theorem round1 (hv : (s + 4 - (t + i) % 4) % 4 = 1) : shuttlelaw10_PatternRound.l0 (k + 2) s t a 0 b 0 i x0 false x2 x3 = shuttlelaw10_PatternRound.l0 k s t a 0 b 0 (i + 1) x0 true x2 x3 := by
  have e : wrap64 (t + i) = t + i := by unfold wrap64; omega
  have e' : wrap64 (i + 1) = i + 1 := by unfold wrap64; omega
  rw [shuttlelaw10_PatternRound.l0.eq_2, if_pos i1, e, r_version s (t + i) 1 h0 h1 (by omega) hv, Option.bind_some, if_pos rfl, if_neg (by decide), if_neg (by decide), if_neg (by decide), if_pos rfl,
    shuttlelaw10_PatternRound.j1.eq_2, if_neg (by decide), if_neg (by decide), if_pos rfl, e, r_stream 1 (t + i) s (by omega) (by omega) (by omega) (by omega), Option.bind_some, if_pos rfl, if_pos rfl, e']
theorem round2 (hv : (s + 4 - (t + i) % 4) % 4 = 2) : shuttlelaw10_PatternRound.l0 (k + 2) s t a 0 b 0 i x0 x1 false x3 = shuttlelaw10_PatternRound.l0 k s t a 0 b 0 (i + 1) x0 x1 true x3 := by
  have e : wrap64 (t + i) = t + i := by unfold wrap64; omega
  have e' : wrap64 (i + 1) = i + 1 := by unfold wrap64; omega
  rw [shuttlelaw10_PatternRound.l0.eq_2, if_pos i1, e, r_version s (t + i) 2 h0 h1 (by omega) hv, Option.bind_some, if_pos rfl, if_neg (by decide), if_neg (by decide), if_neg (by decide), if_neg (by decide), if_pos rfl,
    shuttlelaw10_PatternRound.j1.eq_2, if_neg (by decide), if_neg (by decide), if_neg (by decide), if_pos rfl, e, r_stream 2 (t + i) s (by omega) (by omega) (by omega) (by omega), Option.bind_some, if_pos rfl, if_pos rfl, e']
theorem round3 (hv : (s + 4 - (t + i) % 4) % 4 = 3) : shuttlelaw10_PatternRound.l0 (k + 2) s t a 0 b 0 i x0 x1 x2 false = shuttlelaw10_PatternRound.l0 k s t a 0 b 0 (i + 1) x0 x1 x2 true := by
  have e : wrap64 (t + i) = t + i := by unfold wrap64; omega
  have e' : wrap64 (i + 1) = i + 1 := by unfold wrap64; omega
  rw [shuttlelaw10_PatternRound.l0.eq_2, if_pos i1, e, r_version s (t + i) 3 h0 h1 (by omega) hv, Option.bind_some, if_pos rfl, if_neg (by decide), if_neg (by decide), if_neg (by decide), if_neg (by decide), if_neg (by decide), if_pos rfl,
    shuttlelaw10_PatternRound.j1.eq_2, if_neg (by decide), if_neg (by decide), if_neg (by decide), if_neg (by decide), if_pos rfl, e, r_stream 3 (t + i) s (by omega) (by omega) (by omega) (by omega), Option.bind_some, if_pos rfl, if_pos rfl, e']
end
theorem round_end (s t a : Int) : shuttlelaw10_PatternRound.l0 20 s t a 0 a 0 (0 + 1 + 1 + 1 + 1) true true true true = some true := by
  rw [shuttlelaw10_PatternRound.l0.eq_2, if_neg (by omega), r_stands 19 (by omega), Option.bind_some, if_pos rfl, if_pos rfl, if_pos rfl]; simp
theorem rounds (s t a : Int) (h0 : 0 ≤ s) (h1 : s < 4) (h2 : 0 ≤ t) (h3 : t < 1099511627776) :
    shuttlelaw10_PatternRound.l0 28 s t a 0 a 0 0 false false false false = some true := by
  have hc : (s + 4 - t % 4) % 4 = 0 ∨ (s + 4 - t % 4) % 4 = 1 ∨ (s + 4 - t % 4) % 4 = 2 ∨ (s + 4 - t % 4) % 4 = 3 := by omega
  rcases hc with hc | hc | hc | hc
  · rw [round0 26 s t a a 0 _ _ _ h0 h1 h2 h3 (by omega) (by omega) (by omega), round3 24 s t a a _ _ _ _ h0 h1 h2 h3 (by omega) (by omega) (by omega),
      round2 22 s t a a _ _ _ _ h0 h1 h2 h3 (by omega) (by omega) (by omega), round1 20 s t a a _ _ _ _ h0 h1 h2 h3 (by omega) (by omega) (by omega)]
    exact round_end s t a
  · rw [round1 26 s t a a 0 _ _ _ h0 h1 h2 h3 (by omega) (by omega) (by omega), round0 24 s t a a _ _ _ _ h0 h1 h2 h3 (by omega) (by omega) (by omega),
      round3 22 s t a a _ _ _ _ h0 h1 h2 h3 (by omega) (by omega) (by omega), round2 20 s t a a _ _ _ _ h0 h1 h2 h3 (by omega) (by omega) (by omega)]
    exact round_end s t a
  · rw [round2 26 s t a a 0 _ _ _ h0 h1 h2 h3 (by omega) (by omega) (by omega), round1 24 s t a a _ _ _ _ h0 h1 h2 h3 (by omega) (by omega) (by omega),
      round0 22 s t a a _ _ _ _ h0 h1 h2 h3 (by omega) (by omega) (by omega), round3 20 s t a a _ _ _ _ h0 h1 h2 h3 (by omega) (by omega) (by omega)]
    exact round_end s t a
  · rw [round3 26 s t a a 0 _ _ _ h0 h1 h2 h3 (by omega) (by omega) (by omega), round2 24 s t a a _ _ _ _ h0 h1 h2 h3 (by omega) (by omega) (by omega),
      round1 22 s t a a _ _ _ _ h0 h1 h2 h3 (by omega) (by omega) (by omega), round0 20 s t a a _ _ _ _ h0 h1 h2 h3 (by omega) (by omega) (by omega)]
    exact round_end s t a
theorem PatternRound : shuttlelaw10_PatternRound.Pure := by
  intro a0 a1 w0 w1
  refine ⟨28, ?_⟩
  unfold shuttlelaw10_PatternRound.f
  have p0 := u64_pos a0
  have p1 := u64_pos a1
  have b0 : Int.tmod (IntKind.u64.wrap a0) 4 = IntKind.u64.wrap a0 % 4 := Int.tmod_eq_emod_of_nonneg p0
  have b1 : Int.tmod (IntKind.u64.wrap a1) 1099511627776 = IntKind.u64.wrap a1 % 1099511627776 := Int.tmod_eq_emod_of_nonneg p1
  rw [b0, b1]
  generalize IntKind.u64.wrap a0 = u at *
  generalize IntKind.u64.wrap a1 = v at *
  rw [show wrap64 (u % 4) = u % 4 from by unfold wrap64; omega, show wrap64 (v % 1099511627776) = v % 1099511627776 from by unfold wrap64; omega]
  have hs0 : 0 ≤ u % 4 := by omega
  have hs1 : u % 4 < 4 := by omega
  have ht0 : 0 ≤ v % 1099511627776 := by omega
  have ht1 : v % 1099511627776 < 1099511627776 := by omega
  generalize u % 4 = s at *
  generalize v % 1099511627776 = t at *
  rw [show wrap64 (t + 4) = t + 4 from by unfold wrap64; omega, r_version s t _ hs0 hs1 ht0 rfl, r_version s (t + 4) ((s + 4 - t % 4) % 4) hs0 hs1 (by omega) (by omega), Option.bind_some, Option.bind_some]
  exact rounds s t _ hs0 hs1 ht0 ht1
end Go.Proofs.Ytkhpgjojbdgkfaa.Pure
