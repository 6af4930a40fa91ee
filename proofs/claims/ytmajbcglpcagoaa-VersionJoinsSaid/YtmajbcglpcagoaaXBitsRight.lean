/- bits.Right and its reference: are all at most 1? No condition. -/
import Derived.Test.YtmajbcglpcagoaaXPlain
import Derived.Test.YtmajbcglpcagoaaX1
import Derived.Test.YtmajbcglpcagoaaX11
import Derived.Test.YtmajbcglpcagoaaX2
import Derived.Test.YtmajbcglpcagoaaX3
import Derived.Test.YtmajbcglpcagoaaX4
namespace Go.Proofs.Ytmajbcglpcagoaa.X
open Go.RowKit Go.Proofs.YtmajbcglpcagoaaW.PrintWords Go.Proofs.YtmajbcglpcagoaaW.PrintLast Go.Proofs.YtmajbcglpcagoaaW.PrintMore
set_option linter.unusedVariables false

def big (x : Int) : Bool := decide (x > 1)
theorem index_l0 (l : List Int) (hl : l.length ≤ 140737488355328) (d : Nat) : ∀ k i : Nat, i + d = l.length → d < k →
    ∃ r, slices_IndexFunc_byte_byte.l0 k l (l.length : Int) (i : Int) = some r ∧ decide (r ≥ 0) = (l.drop i).any big := by
  induction d with
  | zero =>
    intro k i hi hk
    obtain ⟨k, rfl⟩ := pred hk
    refine ⟨-1, ?_, ?_⟩
    · simp only [slices_IndexFunc_byte_byte.l0]; rw [if_neg (by omega)]
    · rw [List.drop_eq_nil_of_le (by omega)]; rfl
  | succ d ih =>
    intro k i hi hk
    obtain ⟨k, rfl⟩ := pred hk
    have hlt : i < l.length := by omega
    simp only [slices_IndexFunc_byte_byte.l0]
    rw [if_pos (by omega), if_pos (by omega), if_pos (by omega), rd_get l i hlt, drop_cons l i hlt, List.any_cons]
    unfold bits_Right_1.f
    simp only [Option.bind_some]
    cases hb : big l[i] with
    | true =>
      unfold big at hb
      rw [if_pos hb]
      exact ⟨_, rfl, by rw [Bool.true_or]; exact decide_eq_true (by omega)⟩
    | false =>
      unfold big at hb
      rw [if_neg (by rw [hb]; decide), wrap_succ i (by omega), Bool.false_or]
      exact ih k (i + 1) (by omega) (by omega)
theorem right_f (l : List Int) (hl : l.length ≤ 140737488355328) (k : Nat) (hk : l.length < k) : bits_Right.f k l = some (!l.any big) := by
  obtain ⟨r, h1, h2⟩ := index_l0 l hl l.length k 0 (by omega) hk
  unfold bits_Right.f slices_ContainsFunc_byte_byte.f slices_IndexFunc_byte_byte.f
  rw [show slices_IndexFunc_byte_byte.l0 k l (l.length : Int) 0 = some r from h1]
  simp only [Option.bind_some]
  rw [h2]; rfl
theorem rright_l0 (l : List Int) (hl : l.length ≤ 140737488355328) (d : Nat) : ∀ k i : Nat, i + d = l.length → d < k → shuttleref01_Right.l0 k l (i : Int) = some (!(l.drop i).any big) := by
  induction d with
  | zero =>
    intro k i hi hk
    obtain ⟨k, rfl⟩ := pred hk
    simp only [shuttleref01_Right.l0]
    rw [if_neg (by omega), List.drop_eq_nil_of_le (by omega)]; rfl
  | succ d ih =>
    intro k i hi hk
    obtain ⟨k, rfl⟩ := pred hk
    have hlt : i < l.length := by omega
    simp only [shuttleref01_Right.l0]
    rw [if_pos (by omega), if_pos (by omega), rd_get l i hlt, drop_cons l i hlt, List.any_cons]
    cases hb : big l[i] with
    | true =>
      rw [if_pos (of_decide_eq_true hb)]; rfl
    | false =>
      rw [if_neg (of_decide_eq_false hb), wrap_succ i (by omega), Bool.false_or]
      exact ih k (i + 1) (by omega) (by omega)
theorem rright_f (l : List Int) (hl : l.length ≤ 140737488355328) (k : Nat) (hk : l.length < k) : shuttleref01_Right.f k l = some (!l.any big) := by
  have := rright_l0 l hl l.length k 0 (by omega) hk
  exact this

end Go.Proofs.Ytmajbcglpcagoaa.X
