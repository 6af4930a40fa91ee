/- Numbers that are bits, and small lists of them. No condition. -/
import Derived.Test.YtmajbcglpcagoaaXPlain
namespace Go.Proofs.Ytmajbcglpcagoaa.X
open Go.RowKit Go.Proofs.YtmajbcglpcagoaaW.PrintWords Go.Proofs.YtmajbcglpcagoaaW.PrintLast Go.Proofs.YtmajbcglpcagoaaW.PrintMore
set_option linter.unusedVariables false
def isb (x : Int) : Prop := x = 0 ∨ x = 1
theorem isb01 {x : Int} (h : isb x) : 0 ≤ x ∧ x ≤ 1 := by unfold isb at h; omega
theorem isb_of {x : Int} (h0 : 0 ≤ x) (h1 : x ≤ 1) : isb x := by unfold isb; omega
theorem getD_isb {l : List Int} (h : ∀ x ∈ l, isb x) (i : Nat) : isb (l.getD i 0) := by
  by_cases hi : i < l.length
  · rw [List.getD_eq_getElem?_getD, List.getElem?_eq_getElem hi]; exact h _ (List.getElem_mem hi)
  · rw [List.getD_eq_getElem?_getD, List.getElem?_eq_none (by omega)]; exact .inl rfl
theorem xor_isb {x y : Int} (hx : isb x) (hy : isb y) : isb (Go.bits .xor .u8 x y) := by
  rcases hx with rfl | rfl <;> rcases hy with rfl | rfl <;> (unfold isb; decide +kernel)
theorem and_isb {x y : Int} (hx : isb x) (hy : isb y) : isb (Go.bits .and .u8 x y) := by
  rcases hx with rfl | rfl <;> rcases hy with rfl | rfl <;> (unfold isb; decide +kernel)
theorem xor_zero {x : Int} (hx : isb x) : Go.bits .xor .u8 x 0 = x := by
  rcases hx with rfl | rfl <;> decide +kernel
theorem and_zero {x : Int} (hx : isb x) : Go.bits .and .u8 x 0 = 0 := by
  rcases hx with rfl | rfl <;> decide +kernel
theorem step_lin {p q t x y : Int} (hp : isb p) (hq : isb q) (ht : isb t) (hx : isb x) (hy : isb y) :
    Go.bits .xor .u8 (Go.bits .xor .u8 p q) (Go.bits .and .u8 t (Go.bits .xor .u8 x y)) = Go.bits .xor .u8 (Go.bits .xor .u8 p (Go.bits .and .u8 t x)) (Go.bits .xor .u8 q (Go.bits .and .u8 t y)) := by
  rcases hp with rfl | rfl <;> rcases hq with rfl | rfl <;> rcases ht with rfl | rfl <;> rcases hx with rfl | rfl <;> rcases hy with rfl | rfl <;> decide +kernel
end Go.Proofs.Ytmajbcglpcagoaa.X
