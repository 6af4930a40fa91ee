/- Bits in plain words, for the seat of bitio: what a bit is; how many are 1. No condition. -/
import Derived.Test.YtmajbcglpcagoaaBBRight
import Derived.Test.YtmajbcglpcagoaaB18
namespace Go.Proofs.Ytmajbcglpcagoaa.B
open Go.RowKit Go.Proofs.YtmajbcglpcagoaaW.PrintWords Go.Proofs.YtmajbcglpcagoaaW.PrintLast Go.Proofs.YtmajbcglpcagoaaW.PrintMore
set_option linter.unusedVariables false

def bit (x : Int) : Prop := x = 0 ∨ x = 1
theorem getD_bit {l : List Int} (h : ∀ x ∈ l, bit x) (i : Nat) : bit (l.getD i 0) := by
  by_cases hi : i < l.length
  · rw [List.getD_eq_getElem?_getD, List.getElem?_eq_getElem hi]; exact h _ (List.getElem_mem hi)
  · rw [List.getD_eq_getElem?_getD, List.getElem?_eq_none (by omega)]; exact .inl rfl
def wt (l : List Int) : Nat → Int
  | 0 => 0
  | i + 1 => wt l i + if l.getD i 0 = 0 then 0 else 1
theorem wt_in (l : List Int) (i : Nat) : 0 ≤ wt l i ∧ wt l i ≤ i := by
  induction i with
  | zero => simp [wt]
  | succ i ih => unfold wt; split <;> omega
theorem weight_l0 (l : List Int) (h : l.length ≤ 1000) (d : Nat) : ∀ k i : Nat, i + d = l.length → d < k →
    bits_Weight.l0 k (wt l i) l (l.length : Int) (i : Int) = some (wt l l.length) := by
  induction d with
  | zero =>
    intro k i hi hk
    obtain ⟨k, rfl⟩ := pred hk
    obtain rfl : i = l.length := by omega
    simp only [bits_Weight.l0]
    rw [if_neg (by omega)]
  | succ d ih =>
    intro k i hi hk
    obtain ⟨k, rfl⟩ := pred hk
    have hin := wt_in l i
    have hn := ih k (i + 1) (by omega) (by omega)
    simp only [bits_Weight.l0]
    rw [if_pos (by omega), if_pos (by omega), if_pos (by omega), rd_getD, wrap_succ i (by omega)]
    simp only [wt] at hn
    by_cases e : l.getD i 0 = 0
    · rw [if_pos e] at hn ⊢; rw [Int.add_zero] at hn; exact hn
    · rw [if_neg e] at hn ⊢; rw [wrap_in (by omega) (by omega)]; exact hn
theorem weight_f (l : List Int) (h : l.length ≤ 1000) (k : Nat) (hk : l.length < k) : bits_Weight.f k l = some (wt l l.length) :=
  weight_l0 l h l.length k 0 (by omega) hk
end Go.Proofs.Ytmajbcglpcagoaa.B
