/- ConvSteps' pure statement: of all states and bits it is told what is told and which state comes, or that there is none: at each of the 64 states and both bits by reckoning. No condition. -/
import Derived.Test.YtmjilfeadgancaaDoorXConv2
import Derived.Test.YtmjilfeadgancaaDoorX15
namespace Go.Proofs.YtmjilfeadgancaaDoor.Pure
open Go.RowKit Go.Proofs.YtmjilfeadgancaaDoor.X Go.Proofs.YtmjilfeadgancaaDoorW.PrintWords Go.Proofs.YtmjilfeadgancaaDoorW.PrintLast Go.Proofs.YtmjilfeadgancaaDoorW.PrintMore
set_option linter.unusedVariables false

/-- Behind the counts of steps. -/
def rest (a0 a1 : Int) : Option Bool := (conv_Out.f a0 a1).bind fun bt => (conv_Next.f a0 a1).bind fun bn => shuttlelaw06_ConvSteps.j0 100 a0 a1 bt.2.2.2.2 bn.1 bn.2 false bt.1 bt.2.1 bt.2.2.1 bt.2.2.2.1
theorem rest_all : ∀ s : Fin 64, ∀ b : Fin 2, rest ((s.val : Nat) : Int) ((b.val : Nat) : Int) = some true := by decide +kernel
theorem right_no {a0 a1 : Int} (h : ¬ (0 ≤ a0 ∧ a0 ≤ 63 ∧ a1 ≤ 1)) : conv_right.f a0 a1 = some false := by
  unfold conv_right.f
  by_cases c : a0 ≥ 0
  · rw [if_pos c]
    by_cases c2 : a0 < 64
    · rw [if_pos c2, decide_eq_false (by omega)]
    · rw [if_neg c2]
  · rw [if_neg c]
theorem rest_no {a0 a1 : Int} (h : ¬ (0 ≤ a0 ∧ a0 ≤ 63 ∧ a1 ≤ 1)) : rest a0 a1 = some true := by
  unfold rest conv_Out.f conv_Next.f
  rw [right_no h, Option.bind_some, if_neg (by decide), Option.bind_some, Option.bind_some, if_neg (by decide), Option.bind_some]
  show shuttlelaw06_ConvSteps.j0 (99 + 1) a0 a1 1 0 1 false 0 0 0 0 = some true
  have e : shuttlelaw06_ConvSteps.j1 99 a0 a1 1 0 1 true 0 0 0 0 = some true := by
    show shuttlelaw06_ConvSteps.j1 (98 + 1) a0 a1 1 0 1 true 0 0 0 0 = some true
    rw [shuttlelaw06_ConvSteps.j1.eq_2, if_pos rfl, if_pos rfl, if_pos rfl]
    rfl
  rw [shuttlelaw06_ConvSteps.j0.eq_2, if_neg (by decide)]
  by_cases c : a0 < 0
  · rw [if_pos c]; exact e
  · rw [if_neg c]
    by_cases c2 : a0 > 63
    · rw [if_pos c2]; exact e
    · rw [if_neg c2, decide_eq_true (show a1 > 1 by omega)]; exact e
theorem rest_ok {a0 a1 : Int} (h1 : 0 ≤ a1) : rest a0 a1 = some true := by
  by_cases h : 0 ≤ a0 ∧ a0 ≤ 63 ∧ a1 ≤ 1
  · have := rest_all ⟨a0.toNat, by omega⟩ ⟨a1.toNat, by omega⟩
    rwa [show (((⟨a0.toNat, by omega⟩ : Fin 64).val : Nat) : Int) = a0 from by show ((a0.toNat : Nat) : Int) = a0; omega, show (((⟨a1.toNat, by omega⟩ : Fin 2).val : Nat) : Int) = a1 from by show ((a1.toNat : Nat) : Int) = a1; omega] at this
  · exact rest_no h
theorem ConvSteps : shuttlelaw06_ConvSteps.Pure := by
  intro a0 a1 a2 w0 w1 w2
  refine ⟨100, ?_⟩
  have h1 := (Go.bounds_u8 w1).1
  have hr := rest_ok (a0 := a0) h1
  unfold rest at hr
  unfold shuttlelaw06_ConvSteps.f
  have hm : -1099511627776 < Int.tmod a2 1099511627776 ∧ Int.tmod a2 1099511627776 < 1099511627776 := by
    have := Int.tmod_lt_of_pos a2 (show (0 : Int) < 1099511627776 by decide)
    have := Int.lt_tmod_of_pos a2 (show (0 : Int) < 1099511627776 by decide)
    omega
  generalize Int.tmod a2 1099511627776 = m at *
  obtain ⟨bt, e1, hr⟩ := Option.bind_eq_some_iff.mp hr
  obtain ⟨bn, e2, hr⟩ := Option.bind_eq_some_iff.mp hr
  rw [e1, Option.bind_some, e2, Option.bind_some, codes_ok, Option.bind_some, if_pos rfl]
  unfold conv_Steps.f
  by_cases c : m ≥ 0
  · rw [if_pos c, if_neg (show ¬ m < 0 by omega), Option.bind_some, if_pos rfl, if_neg (show ¬ m < 0 by omega)]
    exact hr
  · rw [if_neg c, if_pos (show m < 0 by omega), if_pos (show m < 0 by omega), Option.bind_some]
    exact hr

end Go.Proofs.YtmjilfeadgancaaDoor.Pure
