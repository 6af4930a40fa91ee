/- ConvCodes' pure statement: of all lists the code is told, or that they are none. No condition. -/
import Derived.Test.YtmjilfeadgancaaDoorXConv2
import Derived.Test.YtmjilfeadgancaaDoorXStr
import Derived.Test.YtmjilfeadgancaaDoorX23
namespace Go.Proofs.YtmjilfeadgancaaDoor.Pure
open Go.RowKit Go.Proofs.YtmjilfeadgancaaDoor.X Go.Proofs.YtmjilfeadgancaaDoorW.PrintWords Go.Proofs.YtmjilfeadgancaaDoorW.PrintLast Go.Proofs.YtmjilfeadgancaaDoorW.PrintMore
set_option linter.unusedVariables false

theorem mn_nat200 (a : Nat) : mn (a : Int) 200 = ((min a 200 : Nat) : Int) := by unfold mn; split <;> omega
theorem ConvCodes : shuttlelaw06_ConvCodes.Pure := by
  intro l0 m0 _ w0
  refine ⟨2000 + 1, ?_⟩
  unfold shuttlelaw06_ConvCodes.f
  rw [mn_nat200, Option.bind_some, if_pos (by omega), if_pos (by omega), Int.toNat_natCast, List.length_nil, Nat.zero_add, List.nil_append]
  have hl : (l0.take (min l0.length 200)).length ≤ 200 := by rw [List.length_take]; omega
  have hw : ∀ x ∈ l0.take (min l0.length 200), 0 ≤ x ∧ x ≤ 255 := fun x hx => u8_of_wf w0 x (List.mem_of_mem_take hx)
  generalize l0.take (min l0.length 200) = l at *
  rw [if_pos (by omega), Option.bind_some]
  cases hb : l.any big with
  | true =>
    rw [Code_no l hb (by omega) (2000 + 1) (by omega), Option.bind_some, codes_ok, Option.bind_some, if_pos rfl, shuttlelaw06_ConvCodes.j0.eq_2, if_neg (by simp), rright_f l (by omega) 2000 (by omega), hb, Option.bind_some, if_neg (by decide), if_pos rfl]
    rfl
  | false =>
    have h := (big_isb (fun x hx => (hw x hx).1)).1 hb
    rw [Code_f l h (by omega) (2000 + 1) (by omega), Option.bind_some, codes_ok, Option.bind_some, if_pos rfl, shuttlelaw06_ConvCodes.j0.eq_2, if_neg (by simp), rright_f l (by omega) 2000 (by omega), hb, Option.bind_some, if_pos (show (!false) = true from rfl), if_pos rfl,
      rcode_f l h (by omega) 2000 (by omega), Option.bind_some, if_pos rfl]
    unfold conv_Steps.f
    rw [if_neg (by omega), Option.bind_some, wrap_in (n := (l.length : Int) + 6) (by omega) (by omega), wrap_in (by omega) (by omega)]
    show some (((code l).length : Int) == 4 * ((l.length : Int) + 6)) = some true
    rw [code_length, beq_iff_eq.2 (show ((4 * (l.length + 6) : Nat) : Int) = 4 * ((l.length : Int) + 6) by omega)]

end Go.Proofs.YtmjilfeadgancaaDoor.Pure
