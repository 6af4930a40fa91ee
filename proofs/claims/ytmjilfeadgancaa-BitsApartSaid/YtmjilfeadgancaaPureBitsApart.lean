/- BitsApart: it is told how far apart lists lie, and it is never more by way of a third one. -/
import Derived.Test.YtmjilfeadgancaaXBits
import Derived.Test.YtmjilfeadgancaaX25
namespace Go.Proofs.Ytmjilfeadgancaa.Pure
open Go.RowKit Go.Proofs.Ytmjilfeadgancaa.X Go.Proofs.YtmjilfeadgancaaW.PrintWords Go.Proofs.YtmjilfeadgancaaW.PrintLast Go.Proofs.YtmjilfeadgancaaW.PrintMore
set_option linter.unusedVariables false

theorem ieq (m n : Nat) : ((m : Int) == (n : Int)) = decide (m = n) := by
  by_cases h : m = n
  · subst h; simp
  · rw [decide_eq_false h, beq_eq_false_iff_ne]; omega
theorem BitsApart : shuttlelaw01_BitsApart.Pure := by
  intro l0 l1 l2 m0 _ w0 m1 _ w1 m2 _ w2
  refine ⟨1000, ?_⟩
  unfold shuttlelaw01_BitsApart.f
  rw [show shuttleref01_Few.f 1000 l0 100 = some (few l0 100) from few_f l0 (u8_of_wf w0) 100 (by omega) 1000 (by omega), Option.bind_some,
    show shuttleref01_Few.f 1000 l1 100 = some (few l1 100) from few_f l1 (u8_of_wf w1) 100 (by omega) 1000 (by omega), Option.bind_some,
    show shuttleref01_Few.f 1000 l2 100 = some (few l2 100) from few_f l2 (u8_of_wf w2) 100 (by omega) 1000 (by omega), Option.bind_some]
  have ha := few_length l0 100
  have hb := few_length l1 100
  have hc := few_length l2 100
  generalize few l0 100 = a at *
  generalize few l1 100 = b at *
  generalize few l2 100 = c at *
  have ht := tells_ok 1000 (by omega)
  by_cases h1 : a.length = b.length
  · rw [bapart_eq a b h1 (by omega) 1000 (by omega), Option.bind_some]
    by_cases h2 : b.length = c.length
    · rw [bapart_eq b c h2 (by omega) 1000 (by omega), Option.bind_some, bapart_eq a c (h1.trans h2) (by omega) 1000 (by omega), Option.bind_some, ht, Option.bind_some, if_pos rfl,
        ieq, ieq, ieq, decide_eq_true h1, decide_eq_true h2, decide_eq_true (h1.trans h2)]
      have hr := rapart_f a b h1 (by omega) 1000 (by omega)
      rw [if_neg (by simp), if_neg (by simp), if_neg (by simp), if_pos rfl, if_pos rfl, hr, Option.bind_some, if_pos rfl]
      have h3 := ap_tri a b c a.length
      have i1 := ap_in a b a.length
      have i2 := ap_in b c b.length
      rw [wrap_in (by omega) (by omega)]
      rw [← h1] at i2 ⊢
      rw [decide_eq_true h3]
    · rw [bapart_ne b c h2 1000, Option.bind_some, bapart_ne a c (by omega) 1000, Option.bind_some, ht, Option.bind_some, if_pos rfl,
        ieq, ieq, ieq, decide_eq_true h1, decide_eq_false h2, decide_eq_false (show ¬ a.length = c.length by omega)]
      rw [if_neg (by simp), if_neg (by simp), if_neg (by simp), if_pos rfl, if_neg (by simp)]
  · rw [bapart_ne a b h1 1000, Option.bind_some]
    by_cases h2 : b.length = c.length
    · rw [bapart_eq b c h2 (by omega) 1000 (by omega), Option.bind_some, bapart_ne a c (by omega) 1000, Option.bind_some, ht, Option.bind_some, if_pos rfl,
        ieq, ieq, ieq, decide_eq_false h1, decide_eq_true h2, decide_eq_false (show ¬ a.length = c.length by omega)]
      rw [if_neg (by simp), if_neg (by simp), if_neg (by simp), if_neg (by simp), if_pos rfl]
    · rw [bapart_ne b c h2 1000, Option.bind_some]
      by_cases h3 : a.length = c.length
      · rw [bapart_eq a c h3 (by omega) 1000 (by omega), Option.bind_some, ht, Option.bind_some, if_pos rfl,
          ieq, ieq, ieq, decide_eq_false h1, decide_eq_false h2, decide_eq_true h3]
        rw [if_neg (by simp), if_neg (by simp), if_neg (by simp), if_neg (by simp), if_pos rfl]
      · rw [bapart_ne a c h3 1000, Option.bind_some, ht, Option.bind_some, if_pos rfl,
          ieq, ieq, ieq, decide_eq_false h1, decide_eq_false h2, decide_eq_false h3]
        rw [if_neg (by simp), if_neg (by simp), if_neg (by simp), if_neg (by simp), if_pos rfl]
end Go.Proofs.Ytmjilfeadgancaa.Pure
