/- Texts of this seat, one behind the other (merge.py): the walks of the functions that the law TrellisEdges uses, and plain words on what they come to. No condition. -/
import Derived.Laws.BitsAllLaws
import Derived.OpenShut
import Derived.Test.YtmajbcglpcagoaaDoorXMTrellisEdges2
-- YtmajbcglpcagoaaDoorXPlain
namespace Go.Proofs.YtmajbcglpcagoaaDoor.X
open Go.RowKit Go.Proofs.YtmajbcglpcagoaaDoorW.PrintWords Go.Proofs.YtmajbcglpcagoaaDoorW.PrintLast Go.Proofs.YtmajbcglpcagoaaDoorW.PrintMore
set_option linter.unusedVariables false

theorem rd_get (l : List Int) (i : Nat) (h : i < l.length) : rd l (i : Int) = l[i] := by
  unfold rd
  simp [List.getD_eq_getElem?_getD, h]
theorem rd_getD (l : List Int) (i : Nat) : rd l (i : Int) = l.getD i 0 := by
  unfold rd; simp
theorem wrap_in {n : Int} (h0 : -9223372036854775808 ≤ n) (h1 : n ≤ 9223372036854775807) : wrap64 n = n := by
  unfold wrap64; omega
theorem wrap_succ (i : Nat) (h : (i : Int) < 9223372036854775807) : wrap64 ((i : Int) + 1) = ((i + 1 : Nat) : Int) := by
  rw [wrap_in (by omega) (by omega)]; omega
theorem u8_of_wf {l : List Int} (h : ∀ x ∈ l, (Lit.int .u8 x).wf = true) : ∀ x ∈ l, 0 ≤ x ∧ x ≤ 255 := fun x hx => Go.bounds_u8 (h x hx)
theorem i64_of_wf {l : List Int} (h : ∀ x ∈ l, (Lit.int .i64 x).wf = true) : ∀ x ∈ l, -9223372036854775808 ≤ x ∧ x ≤ 9223372036854775807 := fun x hx => Go.bounds_i64 (h x hx)
theorem pred {k d : Nat} (h : d < k) : ∃ m, k = m + 1 := ⟨k - 1, by omega⟩
theorem drop_cons {α : Type} (l : List α) (i : Nat) (h : i < l.length) : l.drop i = l[i] :: l.drop (i + 1) := List.drop_eq_getElem_cons h
theorem take_snoc {α : Type} (l : List α) (i : Nat) (h : i < l.length) : l.take (i + 1) = l.take i ++ [l[i]] := by
  rw [List.take_succ_eq_append_getElem h]
/-- f, so many times. -/
def it {α : Type} (f : α → α) : Nat → α → α
  | 0, x => x
  | n + 1, x => it f n (f x)
theorem it_succ {α : Type} (f : α → α) (n : Nat) (x : α) : it f (n + 1) x = it f n (f x) := rfl
theorem it_add {α : Type} (f : α → α) (m n : Nat) : ∀ x : α, it f (m + n) x = it f n (it f m x) := by
  induction m with
  | zero => intro x; simp [it]
  | succ m ih => intro x; rw [show m + 1 + n = (m + n) + 1 from by omega, it_succ, ih, it_succ]
theorem it_last {α : Type} (f : α → α) (n : Nat) (x : α) : it f (n + 1) x = f (it f n x) := by
  rw [it_add f n 1]; rfl

end Go.Proofs.YtmajbcglpcagoaaDoor.X

-- YtmajbcglpcagoaaDoorPureTrellisEdges
namespace Go.Proofs.YtmajbcglpcagoaaDoor.Pure
open Go.RowKit Go.Proofs.YtmajbcglpcagoaaDoor.X Go.Proofs.YtmajbcglpcagoaaDoorW.PrintWords Go.Proofs.YtmajbcglpcagoaaDoorW.PrintLast Go.Proofs.YtmajbcglpcagoaaDoorW.PrintMore
set_option linter.unusedVariables false

theorem edges_all : ∀ s : Fin 64, shuttlelaw07_TrellisEdges.f 60 ((s.val : Nat) : Int) = some true := by decide +kernel
theorem leads_ok : shuttlelaw07_leads.f = some true := by decide +kernel
theorem right_no {a0 a1 : Int} (h : ¬ (0 ≤ a0 ∧ a0 ≤ 63)) : conv_right.f a0 a1 = some false := by
  unfold conv_right.f
  by_cases c : a0 ≥ 0
  · rw [if_pos c, if_neg (by omega)]
  · rw [if_neg c]
theorem from_no {a0 : Int} (h : ¬ (0 ≤ a0 ∧ a0 ≤ 63)) : trellis_From.f a0 = some (0, 0, 0, 0, 0, 0, 0, 0, 0, 0, 0, 0, 0, 0, 1) := by
  have e : trellis_edge.f a0 0 = some (0, 0, 0, 0, 0, 0, 0, 1) := by
    unfold trellis_edge.f conv_Out.f
    rw [right_no h, Option.bind_some, if_neg (by decide), Option.bind_some, if_neg (by decide)]
  have e2 : trellis_two.f a0 a0 0 1 = some (0, 0, 0, 0, 0, 0, 0, 0, 0, 0, 0, 0, 0, 0, 1) := by
    unfold trellis_two.f
    rw [e, Option.bind_some, if_neg (by decide)]
  unfold trellis_From.f
  rw [e2, Option.bind_some]
theorem into_no {a0 : Int} (h : ¬ (0 ≤ a0 ∧ a0 ≤ 63)) : trellis_Into.f a0 = some (0, 0, 0, 0, 0, 0, 0, 0, 0, 0, 0, 0, 0, 0, 1) := by
  unfold trellis_Into.f
  by_cases c : a0 < 0
  · rw [if_pos c]
  · rw [if_neg c, if_pos (by omega)]
theorem TrellisEdges : shuttlelaw07_TrellisEdges.Pure := by
  intro a0 w0
  refine ⟨60, ?_⟩
  by_cases h : 0 ≤ a0 ∧ a0 ≤ 63
  · have := edges_all ⟨a0.toNat, by omega⟩
    rwa [show (((⟨a0.toNat, by omega⟩ : Fin 64).val : Nat) : Int) = a0 from by show ((a0.toNat : Nat) : Int) = a0; omega] at this
  · unfold shuttlelaw07_TrellisEdges.f
    rw [from_no h, Option.bind_some, into_no h, Option.bind_some, leads_ok, Option.bind_some, if_pos rfl]
    have e : shuttlelaw07_TrellisEdges.j1 60 a0 1 1 true 0 0 0 0 0 0 0 0 0 0 0 0 0 0 0 0 0 0 0 0 0 0 0 0 0 0 0 0 = some true := by
      show shuttlelaw07_TrellisEdges.j1 (59 + 1) a0 1 1 true 0 0 0 0 0 0 0 0 0 0 0 0 0 0 0 0 0 0 0 0 0 0 0 0 0 0 0 0 = some true
      rw [shuttlelaw07_TrellisEdges.j1.eq_2, if_pos rfl, if_pos rfl, if_pos rfl, if_pos (by decide)]
      rfl
    by_cases c : a0 < 0
    · rw [if_pos c]; exact e
    · rw [if_neg c, decide_eq_true (show a0 > 63 by omega)]; exact e

end Go.Proofs.YtmajbcglpcagoaaDoor.Pure
