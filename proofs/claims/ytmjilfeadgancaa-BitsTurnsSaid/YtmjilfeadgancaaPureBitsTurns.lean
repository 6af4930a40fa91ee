/- BitsTurns: what is turned twice is as it was; what is turned at all places is turned all over. -/
import Derived.Test.YtmjilfeadgancaaXBitsTurn
import Derived.Test.YtmjilfeadgancaaX29
namespace Go.Proofs.Ytmjilfeadgancaa.Pure
open Go.RowKit Go.Proofs.Ytmjilfeadgancaa.X Go.Proofs.YtmjilfeadgancaaW.PrintWords Go.Proofs.YtmjilfeadgancaaW.PrintLast Go.Proofs.YtmjilfeadgancaaW.PrintMore
set_option linter.unusedVariables false

theorem bt_end (l t : List Int) (hb : ∀ x ∈ l, bit x) (hl : l.length ≤ 100) (ht : t = l) (k : Nat) (hk : 900 ≤ k) :
    shuttlelaw01_BitsTurns.l0 k l t (ints l.length) (l.length : Int) = some true := by
  obtain ⟨k, rfl⟩ := pred (show 0 < k by omega)
  have ht1 := bturn_f l (ints l.length) (by omega) (by rw [ints_length]; omega) k (by rw [ints_length]; omega)
  have hlu : (l.map fun x => 1 - x).length = l.length := List.length_map _
  have ha := bapart_eq l (l.map fun x => 1 - x) hlu.symm (by omega) k (by omega)
  have hw1 := weight_f (l.map fun x => 1 - x) (by omega) k (by omega)
  have hw2 := weight_f l (by omega) k (by omega)
  have hin := wt_in l l.length
  simp only [shuttlelaw01_BitsTurns.l0]
  rw [if_neg (by omega), ht1, Option.bind_some, turned_all l hb, ha, Option.bind_some, tells_ok k (by omega), Option.bind_some, if_pos rfl, if_pos (by rw [ht]), if_pos rfl,
    if_pos (ap_not l hb l.length (by omega)), hw1, Option.bind_some, hw2, Option.bind_some, hlu, wt_not l hb l.length (by omega), wrap_in (by omega) (by omega), beq_self_eq_true]
theorem bt_l0 (l t : List Int) (hb : ∀ x ∈ l, bit x) (hl : l.length ≤ 100) (ht : t = l) (d : Nat) : ∀ k i : Nat, i + d = l.length → d + 900 ≤ k →
    shuttlelaw01_BitsTurns.l0 k l t (ints i) (i : Int) = some true := by
  induction d with
  | zero =>
    intro k i hi hk
    obtain rfl : i = l.length := by omega
    exact bt_end l t hb hl ht k (by omega)
  | succ d ih =>
    intro k i hi hk
    obtain ⟨k, rfl⟩ := pred (show 0 < k by omega)
    simp only [shuttlelaw01_BitsTurns.l0]
    rw [if_pos (by omega), if_pos (by rw [ints_length]; omega), ← ints_succ, wrap_succ i (by omega)]
    exact ih k (i + 1) (by omega) (by omega)
theorem mn_nat20 (a : Nat) : mn (a : Int) 20 = ((min a 20 : Nat) : Int) := by unfold mn; split <;> omega
theorem BitsTurns : shuttlelaw01_BitsTurns.Pure := by
  intro l0 l1 m0 _ w0 m1 _ w1
  refine ⟨2000, ?_⟩
  unfold shuttlelaw01_BitsTurns.f
  rw [show shuttleref01_Few.f 2000 l0 100 = some (few l0 100) from few_f l0 (u8_of_wf w0) 100 (by omega) 2000 (by omega), Option.bind_some]
  have ha := few_length l0 100
  have hb := few_bit (l := l0) (m := 100)
  generalize few l0 100 = a at *
  rw [mn_nat20, if_pos (by omega), if_pos (by omega), Int.toNat_natCast]
  have hq : (l1.take (min l1.length 20)).length ≤ 20 := by rw [List.length_take]; omega
  generalize l1.take (min l1.length 20) = q at *
  rw [bturn_f a q (by omega) (by omega) 2000 (by omega), Option.bind_some, bturn_f (turned a q) q (by rw [turned_length]; omega) (by omega) 2000 (by omega), Option.bind_some]
  exact bt_l0 a _ hb ha (turned_twice a q hb) a.length 2000 0 (by omega) (by omega)
end Go.Proofs.Ytmjilfeadgancaa.Pure
