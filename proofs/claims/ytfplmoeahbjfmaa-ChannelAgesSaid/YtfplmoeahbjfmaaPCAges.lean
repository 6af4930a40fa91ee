/- ChannelAges by hand: what isn't taken is gone behind as many steps as it lives. No condition. -/
import Derived.Test.YtfplmoeahbjfmaaPCLaw0
namespace Go.Proofs.Ytfplmoeahbjfmaa.P
open Go Go.Proofs Go.RowKit Go.Shelf Go.Proofs.YtfplmoeahbjfmaaW.PrintWords Go.Proofs.YtfplmoeahbjfmaaW.PrintLast Go.Proofs.YtfplmoeahbjfmaaW.PrintMore
set_option linter.unusedVariables false
set_option linter.unusedSimpArgs false

/-- How many are put at a step. -/
def pf (l : List Int) (s : Nat) : Nat := if s < l.length ∧ s < 20 then (IntKind.i64.wrap (Int.tmod (IntKind.u64.wrap (l.getD s 0)) 4)).toNat else 0
theorem pf_lt (l : List Int) (s : Nat) : pf l s < 4 := by
  unfold pf
  split
  · obtain ⟨q, h1, h2⟩ := modN 4 (by decide) (by decide) (l.getD s 0)
    rw [h1]; omega
  · omega
/-- One that is put at a step. -/
def fl1 (s : Nat) : Fl := ([(s : Int)], [(s : Int)], (s : Int))
def grp (l : List Int) (s : Nat) : List Fl := List.replicate (pf l s) (fl1 s)
/-- Those that were put ahead of hi and live at now. -/
def LL (l : List Int) (n hi now : Nat) : List Fl := (List.range hi).flatMap fun s => if now < s + n then grp l s else []
theorem LL_succ (l : List Int) (n t : Nat) (hn : 0 < n) : LL l n (t + 1) t = LL l n t t ++ grp l t := by
  unfold LL
  rw [List.range_succ, List.flatMap_append]
  simp [show t < t + n by omega]
theorem keep_grp (l : List Int) (n s now : Nat) : keepL (n : Int) ((now : Int)) (grp l s) = if now < s + n then grp l s else [] := by
  unfold keepL grp
  rw [List.filter_replicate]
  by_cases h : now < s + n
  · have : oldB (n : Int) (now : Int) (fl1 s).2.2 = false := by unfold oldB fl1; exact decide_eq_false (by simp only; omega)
    rw [if_pos h, this]; simp
  · have : oldB (n : Int) (now : Int) (fl1 s).2.2 = true := by unfold oldB fl1; exact decide_eq_true (by simp only; omega)
    rw [if_neg h, this]; simp
theorem keepL_append (a now : Int) (x y : List Fl) : keepL a now (x ++ y) = keepL a now x ++ keepL a now y := by unfold keepL; rw [List.filter_append]
theorem LL_keep (l : List Int) (n : Nat) : ∀ hi now, keepL (n : Int) ((now + 1 : Nat) : Int) (LL l n hi now) = LL l n hi (now + 1) := by
  intro hi now
  unfold LL
  induction hi with
  | zero => rfl
  | succ hi ih =>
    rw [List.range_succ, List.flatMap_append, List.flatMap_append, keepL_append, ih]
    congr 1
    simp only [List.flatMap_cons, List.flatMap_nil, List.append_nil]
    by_cases h : now < hi + n
    · rw [if_pos h, keep_grp]
    · rw [if_neg h, if_neg (by omega)]; rfl
theorem LL_len (l : List Int) (n : Nat) : ∀ hi now, (LL l n hi now).length = (LL l n hi (now + 1)).length + (if n ≤ now + 1 ∧ now + 1 - n < hi then pf l (now + 1 - n) else 0) := by
  intro hi now
  unfold LL
  induction hi with
  | zero => simp
  | succ hi ih =>
    simp only [List.range_succ, List.flatMap_append, List.length_append, List.flatMap_cons, List.flatMap_nil, List.append_nil, List.length_nil] at ih ⊢
    rw [ih]
    by_cases h1 : now < hi + n
    · by_cases h2 : now + 1 < hi + n
      · rw [if_pos h1, if_pos h2]
        by_cases h3 : n ≤ now + 1 ∧ now + 1 - n < hi
        · rw [if_pos h3, if_pos ⟨h3.1, by omega⟩]; omega
        · rw [if_neg h3, if_neg (by omega)]; omega
      · have e : now + 1 - n = hi := by omega
        rw [if_pos h1, if_neg h2, if_neg (by omega), if_pos ⟨by omega, by omega⟩, e]
        simp [grp]
    · rw [if_neg h1, if_neg (show ¬ (now + 1 < hi + n) by omega), if_neg (show ¬ (n ≤ now + 1 ∧ now + 1 - n < hi) by omega), if_neg (show ¬ (n ≤ now + 1 ∧ now + 1 - n < hi + 1) by omega)]; simp
theorem LL_mem (l : List Int) (n hi now : Nat) (f : Fl) (hf : f ∈ LL l n hi now) : ∃ s, s < hi ∧ f = fl1 s := by
  unfold LL at hf
  obtain ⟨s, hs, hf⟩ := List.mem_flatMap.1 hf
  split at hf
  · exact ⟨s, List.mem_range.1 hs, List.eq_of_mem_replicate hf⟩
  · cases hf
theorem LL_short (l : List Int) (n : Nat) : ∀ hi now, (LL l n hi now).length ≤ 4 * hi := by
  intro hi now
  unfold LL
  induction hi with
  | zero => simp
  | succ hi ih =>
    rw [List.range_succ, List.flatMap_append, List.length_append]
    simp only [List.flatMap_cons, List.flatMap_nil, List.append_nil]
    split
    · have h1 := pf_lt l hi; have h2 : (grp l hi).length = pf l hi := List.length_replicate; omega
    · simp only [List.length_nil]; omega
theorem LL_end (l : List Int) (n : Nat) (hn : n ≤ 20) : LL l n 40 40 = [] := by
  unfold LL
  rw [List.flatMap_eq_nil_iff]
  intro s hs
  split
  · have : pf l s = 0 := by unfold pf; rw [if_neg (by omega)]
    unfold grp; rw [this]; rfl
  · rfl
end Go.Proofs.Ytfplmoeahbjfmaa.P
