/- The reference's Few in plain words: the first ones, each modulo two. No condition. -/
import Derived.Test.YtmjilfeadgancaaDoorXPlain
import Derived.Test.YtmjilfeadgancaaDoorX24
namespace Go.Proofs.YtmjilfeadgancaaDoor.X
open Go.RowKit Go.Proofs.YtmjilfeadgancaaDoorW.PrintWords Go.Proofs.YtmjilfeadgancaaDoorW.PrintLast Go.Proofs.YtmjilfeadgancaaDoorW.PrintMore
set_option linter.unusedVariables false

def bit (x : Int) : Prop := x = 0 ∨ x = 1
def few (l : List Int) (m : Nat) : List Int := (l.take m).map fun x => x % 2
theorem few_bit {l : List Int} {m : Nat} : ∀ x ∈ few l m, bit x := by
  intro x hx
  simp only [few, List.mem_map] at hx
  obtain ⟨y, _, rfl⟩ := hx
  unfold bit; omega
theorem few_length (l : List Int) (m : Nat) : (few l m).length ≤ m := by simp [few]; omega
theorem few_l0 (l : List Int) (hw : ∀ x ∈ l, 0 ≤ x ∧ x ≤ 255) (m : Nat) (hm : m ≤ 1000) (d : Nat) : ∀ k i : Nat, i + d = min l.length m → d < k →
    shuttleref01_Few.l0 k l (m : Int) (few l i) (i : Int) = some (few l m) := by
  induction d with
  | zero =>
    intro k i hi hk
    obtain ⟨k, rfl⟩ := pred hk
    have e : few l i = few l m := by
      unfold few
      rw [show l.take m = l.take i from by
        by_cases h : m ≤ l.length
        · rw [show i = m by omega]
        · rw [List.take_of_length_le (by omega), List.take_of_length_le (by omega)]]
    simp only [shuttleref01_Few.l0]
    rw [e]
    by_cases c : (i : Int) < (l.length : Int)
    · rw [if_pos c, if_neg (by omega)]
    · rw [if_neg c]
  | succ d ih =>
    intro k i hi hk
    obtain ⟨k, rfl⟩ := pred hk
    have hlt : i < l.length := by omega
    have hx := hw l[i] (List.getElem_mem hlt)
    have hn := ih k (i + 1) (by omega) (by omega)
    have e : few l (i + 1) = few l i ++ [Int.tmod (rd l (i : Int)) 2] := by
      unfold few
      rw [take_snoc l i hlt, List.map_append, rd_get l i hlt, Int.tmod_eq_emod_of_nonneg hx.1]; rfl
    simp only [shuttleref01_Few.l0]
    rw [if_pos (by omega), if_pos (by omega), if_pos (by omega), if_pos (by have := few_length l i; omega), ← e, wrap_succ i (by omega)]
    exact hn
theorem few_f (l : List Int) (hw : ∀ x ∈ l, 0 ≤ x ∧ x ≤ 255) (m : Nat) (hm : m ≤ 1000) (k : Nat) (hk : m < k) : shuttleref01_Few.f k l (m : Int) = some (few l m) :=
  few_l0 l hw m hm (min l.length m) k 0 (by omega) (by omega)

end Go.Proofs.YtmjilfeadgancaaDoor.X
