/- The functions of layer 1 in plain words. No condition. -/
import Derived.Test.YtmjilfeadgancaaXRef01
import Derived.Test.YtmjilfeadgancaaXStr
import Derived.Test.YtmjilfeadgancaaXBitsRight
import Derived.Test.YtmjilfeadgancaaX23
import Derived.Test.YtmjilfeadgancaaX24
namespace Go.Proofs.Ytmjilfeadgancaa.X
open Go.RowKit Go.Proofs.YtmjilfeadgancaaW.PrintWords Go.Proofs.YtmjilfeadgancaaW.PrintLast Go.Proofs.YtmjilfeadgancaaW.PrintMore
set_option linter.unusedVariables false

theorem tells_ok (k : Nat) (hk : 40 ≤ k) : shuttlelaw01_tells.f k = some true :=
  at_rounds (fun k => shuttlelaw01_tells.mono k) hk (by decide +kernel : shuttlelaw01_tells.f 40 = some true)
theorem bapart_l0 (a b : List Int) (hl : a.length = b.length) (h : a.length ≤ 1000) (d : Nat) : ∀ k i : Nat, i + d = a.length → d < k →
    bits_Apart.l0 k a b (ap a b i) (a.length : Int) (i : Int) = some (ap a b a.length, true) := by
  induction d with
  | zero =>
    intro k i hi hk
    obtain ⟨k, rfl⟩ := pred hk
    obtain rfl : i = a.length := by omega
    simp only [bits_Apart.l0]
    rw [if_neg (by omega)]
  | succ d ih =>
    intro k i hi hk
    obtain ⟨k, rfl⟩ := pred hk
    have hin := ap_in a b i
    have hn := ih k (i + 1) (by omega) (by omega)
    simp only [bits_Apart.l0]
    rw [if_pos (by omega), if_pos (by omega), if_pos (by omega), if_pos (by omega), rd_getD, rd_getD, wrap_succ i (by omega)]
    simp only [ap] at hn
    by_cases e : a.getD i 0 = b.getD i 0
    · rw [if_pos e] at hn ⊢; rw [Int.add_zero] at hn; exact hn
    · rw [if_neg e] at hn ⊢; rw [wrap_in (by omega) (by omega)]; exact hn
theorem bapart_eq (a b : List Int) (hl : a.length = b.length) (h : a.length ≤ 1000) (k : Nat) (hk : a.length < k) : bits_Apart.f k a b = some (ap a b a.length, true) := by
  unfold bits_Apart.f
  rw [if_pos (by omega)]
  exact bapart_l0 a b hl h a.length k 0 (by omega) hk
theorem bapart_ne (a b : List Int) (hl : a.length ≠ b.length) (k : Nat) : bits_Apart.f k a b = some (0, false) := by
  unfold bits_Apart.f
  rw [if_neg (by omega)]
theorem ap_tri (a b c : List Int) (i : Nat) : ap a c i ≤ ap a b i + ap b c i := by
  induction i with
  | zero => simp [ap]
  | succ i ih =>
    unfold ap
    by_cases h1 : a.getD i 0 = b.getD i 0
    · by_cases h2 : b.getD i 0 = c.getD i 0
      · rw [if_pos h1, if_pos h2, if_pos (h1.trans h2)]; omega
      · rw [if_pos h1, if_neg h2, if_neg (by rw [h1]; exact h2)]; omega
    · rw [if_neg h1]; split <;> split <;> omega

end Go.Proofs.Ytmjilfeadgancaa.X
