/- Plain words on lists and numbers, used by the pure proofs of this seat. No condition. -/
import Derived.Test.YtmajbcglpcagoaaX0
import Derived.Laws.BitsAllLaws
import Derived.OpenShut
namespace Go.Proofs.Ytmajbcglpcagoaa.X
open Go.RowKit Go.Proofs.YtmajbcglpcagoaaW.PrintWords Go.Proofs.YtmajbcglpcagoaaW.PrintLast Go.Proofs.YtmajbcglpcagoaaW.PrintMore
set_option linter.unusedVariables false

theorem rd_get (l : List Int) (i : Nat) (h : i < l.length) : rd l (i : Int) = l[i] := by
  unfold rd
  simp [List.getD_eq_getElem?_getD, h]
theorem rd_getD (l : List Int) (i : Nat) : rd l (i : Int) = l.getD i 0 := by
  unfold rd; simp
theorem wrap_in {n : Int} (h0 : -9223372036854775808 ≤ n) (h1 : n ≤ 9223372036854775807) : wrap64 n = n := by
  unfold wrap64; omega
theorem wrap_succ (i : Nat) (h : (i : Int) < 9223372036854775807) : wrap64 ((i : Int) + 1) = ((i + 1 : Nat) : Int) := by
  rw [wrap_in (by omega) (by omega)]; omega
theorem u8_of_wf {l : List Int} (h : ∀ x ∈ l, (Lit.int .u8 x).wf = true) : ∀ x ∈ l, 0 ≤ x ∧ x ≤ 255 := fun x hx => Go.bounds_u8 (h x hx)
theorem i64_of_wf {l : List Int} (h : ∀ x ∈ l, (Lit.int .i64 x).wf = true) : ∀ x ∈ l, -9223372036854775808 ≤ x ∧ x ≤ 9223372036854775807 := fun x hx => Go.bounds_i64 (h x hx)
theorem pred {k d : Nat} (h : d < k) : ∃ m, k = m + 1 := ⟨k - 1, by omega⟩
theorem drop_cons {α : Type} (l : List α) (i : Nat) (h : i < l.length) : l.drop i = l[i] :: l.drop (i + 1) := List.drop_eq_getElem_cons h
theorem take_snoc {α : Type} (l : List α) (i : Nat) (h : i < l.length) : l.take (i + 1) = l.take i ++ [l[i]] := by
  rw [List.take_succ_eq_append_getElem h]
/-- f, so many times. -/
def it {α : Type} (f : α → α) : Nat → α → α
  | 0, x => x
  | n + 1, x => it f n (f x)
theorem it_succ {α : Type} (f : α → α) (n : Nat) (x : α) : it f (n + 1) x = it f n (f x) := rfl
theorem it_add {α : Type} (f : α → α) (m n : Nat) : ∀ x : α, it f (m + n) x = it f n (it f m x) := by
  induction m with
  | zero => intro x; simp [it]
  | succ m ih => intro x; rw [show m + 1 + n = (m + n) + 1 from by omega, it_succ, ih, it_succ]
theorem it_last {α : Type} (f : α → α) (n : Nat) (x : α) : it f (n + 1) x = f (it f n x) := by
  rw [it_add f n 1]; rfl

end Go.Proofs.Ytmajbcglpcagoaa.X
