/- SoftScores: of all numbers and bits (cut to 100 each) the score is told, or why there is none, and which bits the numbers are rather; no condition. -/
import Derived.Test.YtmjilfeadgancaaXSoftScore
import Derived.Test.YtmjilfeadgancaaX39
namespace Go.Proofs.Ytmjilfeadgancaa.Pure
open Go.RowKit Go.Proofs.Ytmjilfeadgancaa.X Go.Proofs.YtmjilfeadgancaaW.PrintWords Go.Proofs.YtmjilfeadgancaaW.PrintLast Go.Proofs.YtmjilfeadgancaaW.PrintMore
set_option linter.unusedVariables false

theorem scores_l0 (l c : List Int) (hl : l.length ≤ 100) (hc : c.length ≤ 100) (n e : Int)
    (hne : (n, e) = (if l.length = c.length then (if c.any big = true then (0, 5) else if l.any off = true then (0, 5) else (sc l c l.length, 0)) else (0, 1))) (d : Nat) : ∀ k i : Nat, i + d = l.length → d + 1010 ≤ k →
    shuttlelaw08_SoftScores.l0 k l c l n e (l.map hd) (i : Int) = some true := by
  induction d with
  | zero =>
    intro k i hi hk
    obtain ⟨k, rfl⟩ := pred (show 0 < k by omega)
    simp only [shuttlelaw08_SoftScores.l0]
    rw [if_neg (by omega)]
    by_cases q : l.length = c.length
    · rw [if_pos (by omega), rright_f c (by omega) k (by omega)]
      rw [if_pos q] at hne
      simp only [Option.bind_some]
      cases hb : c.any big with
      | true =>
        rw [hb, if_pos rfl] at hne
        simp only [Prod.mk.injEq] at hne
        obtain ⟨rfl, rfl⟩ := hne
        rfl
      | false =>
        rw [hb, if_neg (by decide)] at hne
        rw [if_pos (by decide), rsright_f l (by omega) k (by omega)]
        simp only [Option.bind_some]
        cases ho : l.any off with
        | true =>
          rw [ho, if_pos rfl] at hne
          simp only [Prod.mk.injEq] at hne
          obtain ⟨rfl, rfl⟩ := hne
          rfl
        | false =>
          rw [ho, if_neg (by decide)] at hne
          simp only [Prod.mk.injEq] at hne
          obtain ⟨rfl, rfl⟩ := hne
          rw [if_pos (by decide), if_pos rfl]
          unfold shuttleref08_Score.f
          have hs := rscore_l0 l c q ho (by omega) l.length k 0 (by omega) (by omega)
          rw [show shuttleref08_Score.l0 k l c 0 0 = some (sc l c l.length) from hs]
          simp
    · rw [if_neg (by omega)]
      rw [if_neg q] at hne
      simp only [Prod.mk.injEq] at hne
      obtain ⟨rfl, rfl⟩ := hne
      rfl
  | succ d ih =>
    intro k i hi hk
    obtain ⟨k, rfl⟩ := pred (show 0 < k by omega)
    have hlt : i < l.length := by omega
    simp only [shuttlelaw08_SoftScores.l0, if_true]
    rw [if_pos (by omega), if_pos (by omega), if_pos (by omega), if_pos (by rw [List.length_map]; omega), rd_get l i hlt, rd_get (l.map hd) i (by rw [List.length_map]; omega), List.getElem_map, wrap_succ i (by omega)]
    have hn := ih k (i + 1) (by omega) (by omega)
    unfold hd
    by_cases z : l[i] < 0
    · rw [if_pos z, show decide (l[i] < 0) = true from decide_eq_true z, if_neg (by decide), if_neg (by decide)]; exact hn
    · rw [if_neg z, show decide (l[i] < 0) = false from decide_eq_false z, if_neg (by decide), if_neg (by decide)]; exact hn
theorem mn_nat (a b : Nat) : mn (a : Int) (b : Int) = ((min a b : Nat) : Int) := by unfold mn; split <;> omega
theorem SoftScores : shuttlelaw08_SoftScores.Pure := by
  intro l0 l1 _ _ _ _ _ _
  refine ⟨3000, ?_⟩
  unfold shuttlelaw08_SoftScores.f
  have e0 : mn (l0.length : Int) 100 = ((min l0.length 100 : Nat) : Int) := mn_nat _ 100
  have e1 : mn (l1.length : Int) 100 = ((min l1.length 100 : Nat) : Int) := mn_nat _ 100
  have n0 : ((min l0.length 100 : Nat) : Int).toNat = min l0.length 100 := by omega
  have n1 : ((min l1.length 100 : Nat) : Int).toNat = min l1.length 100 := by omega
  rw [e0, e1, n0, n1]
  have hl : (l0.take (min l0.length 100)).length ≤ 100 := by rw [List.length_take]; omega
  have hc : (l1.take (min l1.length 100)).length ≤ 100 := by rw [List.length_take]; omega
  generalize l0.take (min l0.length 100) = l at hl ⊢
  generalize l1.take (min l1.length 100) = c at hc ⊢
  simp only [Option.bind_some, List.nil_append, List.length_nil, Nat.zero_add]
  rw [if_pos (by omega), if_pos (by omega), if_pos (by omega), if_pos (by omega), if_pos (by omega), if_pos (by omega), if_pos (by omega)]
  rw [score_f l c (by omega) (by omega) 3000 (by omega), hard_f l (by omega) 3000 (by omega), sure_f 3000 (by omega)]
  simp only [Option.bind_some, if_true]
  rw [show (((l.map hd).length : Int) != (l.length : Int)) = false from by simp]
  simp only [shuttlelaw08_SoftScores.j0]
  rw [if_neg (by decide)]
  exact scores_l0 l c hl hc _ _ rfl l.length 2999 0 (by omega) (by omega)

end Go.Proofs.Ytmjilfeadgancaa.Pure
