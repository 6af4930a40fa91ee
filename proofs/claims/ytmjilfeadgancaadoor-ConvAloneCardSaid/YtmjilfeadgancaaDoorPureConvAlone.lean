/- ConvAlone's pure statement: one stream at each step, whichever, tells which bits they were. No condition. -/
import Derived.Test.YtmjilfeadgancaaDoorXConv2
import Derived.Test.YtmjilfeadgancaaDoorXFew
import Derived.Test.YtmjilfeadgancaaDoorXStr
import Derived.Test.YtmjilfeadgancaaDoorX26
namespace Go.Proofs.YtmjilfeadgancaaDoor.Pure
open Go.RowKit Go.Proofs.YtmjilfeadgancaaDoor.X Go.Proofs.YtmjilfeadgancaaDoorW.PrintWords Go.Proofs.YtmjilfeadgancaaDoorW.PrintLast Go.Proofs.YtmjilfeadgancaaDoorW.PrintMore
set_option linter.unusedVariables false

theorem mn_nat (a b : Nat) : mn (a : Int) (b : Int) = ((min a b : Nat) : Int) := by unfold mn; split <;> omega
/-- Which stream is looked at. -/
def sel (w : List Int) (t : Nat) : Nat := if t < w.length then (w.getD t 0).toNat % 4 else 0
theorem sel_lt (w : List Int) (t : Nat) : sel w t < 4 := by unfold sel; split <;> omega
def alike (x y w : List Int) (i : Nat) : Bool := (List.range i).all fun t => x.getD (4 * t + sel w t) 0 == y.getD (4 * t + sel w t) 0
theorem alike_succ (x y w : List Int) (i : Nat) : alike x y w (i + 1) = (alike x y w i && (x.getD (4 * i + sel w i) 0 == y.getD (4 * i + sel w i) 0)) := by
  unfold alike; rw [List.range_succ, List.all_append]; simp
theorem same_final (a b w : List Int) (ha : ∀ x ∈ a, isb x) (hb : ∀ x ∈ b, isb x) (hl : a.length = b.length) : alike (code a) (code b) w (a.length + 6) = decide (a = b) := by
  by_cases h : a = b
  · subst h
    rw [decide_eq_true rfl]
    unfold alike
    rw [List.all_eq_true]
    intro t _
    exact beq_self_eq_true _
  · rw [decide_eq_false h]
    cases e : alike (code a) (code b) w (a.length + 6) with
    | false => rfl
    | true =>
      exfalso
      refine h (same_of ha hb hl (sel w) (sel_lt w) fun t ht => ?_)
      have := List.all_eq_true.1 e t (List.mem_range.2 (by omega))
      have e2 := eq_of_beq this
      unfold code at e2
      rwa [codeN_getD a t (sel w t) (sel_lt w t) _ (by omega), codeN_getD b t (sel w t) (sel_lt w t) _ (by omega)] at e2
theorem l0_ok (a b w : List Int) (ha : ∀ x ∈ a, isb x) (hb : ∀ x ∈ b, isb x) (hw : ∀ x ∈ w, 0 ≤ x ∧ x ≤ 255) (n : Nat) (hn : n ≤ 100) (h1 : n ≤ a.length) (h2 : n ≤ b.length) (l1 : a.length ≤ 100) (l2 : b.length ≤ 100) (d : Nat) : ∀ k i : Nat, i + d = n + 6 → d < k →
    shuttlelaw06_ConvAlone.l0 k a b w (n : Int) (code (a.take n)) (code (b.take n)) (alike (code (a.take n)) (code (b.take n)) w i) (i : Int) = some true := by
  have t1 : (a.take n).length = n := by rw [List.length_take]; omega
  have t2 : (b.take n).length = n := by rw [List.length_take]; omega
  have c1 := code_length (a.take n)
  have c2 := code_length (b.take n)
  rw [t1] at c1
  rw [t2] at c2
  induction d with
  | zero =>
    intro k i hi hk
    obtain ⟨k, rfl⟩ := pred hk
    obtain rfl : i = n + 6 := by omega
    have hf := same_final (a.take n) (b.take n) w (take_isb ha n) (take_isb hb n) (by rw [t1, t2])
    rw [t1] at hf
    rw [shuttlelaw06_ConvAlone.l0.eq_2, wrap_in (by omega) (by omega), if_neg (by omega), if_pos (by omega), if_pos (by omega), if_pos (by omega), Int.toNat_natCast, hf,
      str_beq (fun x hx => by have := isb01 (take_isb ha n x hx); omega) (fun x hx => by have := isb01 (take_isb hb n x hx); omega)]
    simp
  | succ d ih =>
    intro k i hi hk
    obtain ⟨k, rfl⟩ := pred hk
    have hn' := ih k (i + 1) (by omega) (by omega)
    rw [alike_succ] at hn'
    rw [shuttlelaw06_ConvAlone.l0.eq_2, wrap_in (n := (n : Int) + 6) (by omega) (by omega), if_pos (by omega), wrap_succ i (by omega)]
    have e4 : wrap64 (4 * (i : Int)) = ((4 * i : Nat) : Int) := by rw [wrap_in (by omega) (by omega)]; omega
    by_cases c : i < w.length
    · have hx := hw w[i] (List.getElem_mem c)
      have es : wrap64 (wrap64 (4 * (i : Int)) + wrap64 (Int.tmod (rd w (i : Int)) 4)) = ((4 * i + sel w i : Nat) : Int) := by
        have e5 : Int.tmod (rd w (i : Int)) 4 = ((sel w i : Nat) : Int) := by
          unfold sel
          rw [if_pos c, rd_get w i c, List.getD_eq_getElem?_getD, List.getElem?_eq_getElem c, Int.tmod_eq_emod_of_nonneg hx.1]
          show w[i] % 4 = ((w[i].toNat % 4 : Nat) : Int)
          omega
        have := sel_lt w i
        rw [e4, e5, wrap_in (n := ((sel w i : Nat) : Int)) (by omega) (by omega), wrap_in (by omega) (by omega)]
        omega
      have := sel_lt w i
      rw [if_pos (by omega), if_pos (by omega)]
      cases ea : alike (code (a.take n)) (code (b.take n)) w i with
      | true =>
        rw [ea, Bool.true_and] at hn'
        rw [if_pos rfl, es, if_pos (by omega), if_pos (by omega), if_pos (by omega), rd_getD, rd_getD]
        exact hn'
      | false =>
        rw [ea, Bool.false_and] at hn'
        rw [if_neg (by decide)]
        exact hn'
    · have es : wrap64 (wrap64 (4 * (i : Int)) + 0) = ((4 * i + sel w i : Nat) : Int) := by
        have : sel w i = 0 := by unfold sel; rw [if_neg c]
        rw [this, e4, wrap_in (by omega) (by omega)]
        omega
      have h0 : sel w i = 0 := by unfold sel; rw [if_neg c]
      rw [if_neg (by omega)]
      cases ea : alike (code (a.take n)) (code (b.take n)) w i with
      | true =>
        rw [ea, Bool.true_and] at hn'
        rw [if_pos rfl, es, if_pos (by omega), if_pos (by omega), if_pos (by omega), rd_getD, rd_getD]
        exact hn'
      | false =>
        rw [ea, Bool.false_and] at hn'
        rw [if_neg (by decide)]
        exact hn'
theorem ConvAlone : shuttlelaw06_ConvAlone.Pure := by
  intro l0 l1 l2 m0 _ w0 m1 _ w1 m2 _ w2
  refine ⟨1000 + 1, ?_⟩
  unfold shuttlelaw06_ConvAlone.f
  rw [show shuttleref01_Few.f (1000 + 1) l0 100 = some (few l0 100) from few_f l0 (u8_of_wf w0) 100 (by omega) (1000 + 1) (by omega), Option.bind_some,
    show shuttleref01_Few.f (1000 + 1) l1 100 = some (few l1 100) from few_f l1 (u8_of_wf w1) 100 (by omega) (1000 + 1) (by omega), Option.bind_some, mn_nat]
  have la := few_length l0 100
  have lb' := few_length l1 100
  have ha : ∀ x ∈ few l0 100, isb x := fun x hx => few_bit x hx
  have hb : ∀ x ∈ few l1 100, isb x := fun x hx => few_bit x hx
  generalize few l0 100 = a at *
  generalize few l1 100 = b at *
  obtain ⟨n, hn⟩ : ∃ n, min a.length b.length = n := ⟨_, rfl⟩
  rw [hn]
  have t1 : (a.take n).length = n := by rw [List.length_take]; omega
  have t2 : (b.take n).length = n := by rw [List.length_take]; omega
  have c1 := code_length (a.take n)
  have c2 := code_length (b.take n)
  rw [t1] at c1
  rw [t2] at c2
  rw [if_pos (by omega), if_pos (by omega), Int.toNat_natCast, Code_f (a.take n) (take_isb ha n) (by omega) (1000 + 1) (by omega), Option.bind_some, if_pos (by omega),
    Code_f (b.take n) (take_isb hb n) (by omega) (1000 + 1) (by omega), Option.bind_some, codes_ok, Option.bind_some, if_pos rfl, if_pos rfl, if_pos rfl]
  show (if ((code (a.take n)).length : Int) = _ then shuttlelaw06_ConvAlone.j0 (1000 + 1) a b l2 (n : Int) (code (a.take n)) (code (b.take n)) (((code (b.take n)).length : Int) != ((code (a.take n)).length : Int)) else _) = _
  rw [c1, c2, wrap_in (n := (n : Int) + 6) (by omega) (by omega), wrap_in (by omega) (by omega), if_pos (by omega), shuttlelaw06_ConvAlone.j0.eq_2, if_neg (by simp)]
  exact l0_ok a b l2 ha hb (u8_of_wf w2) n (by omega) (by omega) (by omega) la lb' (n + 6) 1000 0 (by omega) (by omega)

end Go.Proofs.YtmjilfeadgancaaDoor.Pure
