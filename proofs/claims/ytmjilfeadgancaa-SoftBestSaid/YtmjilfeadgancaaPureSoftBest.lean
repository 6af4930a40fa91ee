/- SoftBest: of bits the best score is theirs alone: other bits score two less for each place at which they are unlike; no condition. -/
import Derived.Test.YtmjilfeadgancaaXSoftScore
import Derived.Test.YtmjilfeadgancaaXRef01
import Derived.Test.YtmjilfeadgancaaXStr
import Derived.Test.YtmjilfeadgancaaX40
import Derived.Test.YtmjilfeadgancaaX41
namespace Go.Proofs.Ytmjilfeadgancaa.Pure
open Go.RowKit Go.Proofs.Ytmjilfeadgancaa.X Go.Proofs.YtmjilfeadgancaaW.PrintWords Go.Proofs.YtmjilfeadgancaaW.PrintLast Go.Proofs.YtmjilfeadgancaaW.PrintMore
set_option linter.unusedVariables false

def sg (x : Int) : Int := if x = 0 then 1 else -1
theorem of_f (x : Int) : soft_Of.f x = some (sg x) := by unfold soft_Of.f sg; split <;> rfl
theorem all_l0 (l : List Int) (hl : l.length ≤ 1000) (d : Nat) : ∀ k i : Nat, i + d = l.length → d < k →
    soft_All.l0 k ((l.take i).map sg) l (l.length : Int) (i : Int) = some (l.map sg) := by
  induction d with
  | zero =>
    intro k i hi hk
    obtain ⟨k, rfl⟩ := pred hk
    simp only [soft_All.l0]
    rw [if_neg (by omega), List.take_of_length_le (by omega)]
  | succ d ih =>
    intro k i hi hk
    obtain ⟨k, rfl⟩ := pred hk
    have hlt : i < l.length := by omega
    have hn := ih k (i + 1) (by omega) (by omega)
    rw [take_snoc l i hlt, List.map_append] at hn
    simp only [soft_All.l0]
    rw [if_pos (by omega), if_pos (by omega), if_pos (by omega), rd_get l i hlt, of_f]
    simp only [Option.bind_some]
    rw [if_pos (by rw [List.length_map, List.length_take]; omega), wrap_succ i (by omega)]
    exact hn
theorem all_f (l : List Int) (hl : l.length ≤ 1000) (k : Nat) (hk : l.length < k) : soft_All.f k l = some (l.map sg) := all_l0 l hl l.length k 0 (by omega) hk
theorem bit_small {l : List Int} (h : ∀ x ∈ l, bit x) : l.any big = false := by
  rw [List.any_eq_false]
  intro x hx
  have := h x hx
  unfold bit at this; unfold big; simp; omega
theorem sg_inside (l : List Int) : (l.map sg).any off = false := by
  rw [List.any_eq_false]
  intro x hx
  simp only [List.mem_map] at hx
  obtain ⟨y, _, rfl⟩ := hx
  unfold sg; split <;> decide
theorem sg_getD (l : List Int) (i : Nat) (h : i < l.length) : (l.map sg).getD i 0 = sg (l.getD i 0) := by
  simp [List.getD_eq_getElem?_getD, h]
theorem best (c o : List Int) (hc : ∀ x ∈ c, bit x) (ho : ∀ x ∈ o, bit x) (hl : c.length = o.length) (i : Nat) : i ≤ c.length → sc (c.map sg) o i = (i : Int) - 2 * ap c o i := by
  induction i with
  | zero => intro _; simp [sc, ap]
  | succ i ih =>
    intro hi
    have ih := ih (by omega)
    have b1 := getD_bit hc i
    have b2 := getD_bit ho i
    unfold sc ap
    rw [sg_getD c i (by omega), ih]
    unfold sg
    unfold bit at b1 b2
    generalize c.getD i 0 = x at b1 ⊢
    generalize o.getD i 0 = y at b2 ⊢
    rcases b1 with rfl | rfl <;> rcases b2 with rfl | rfl <;> simp <;> omega
theorem ap_self (c : List Int) (i : Nat) : ap c c i = 0 := by
  induction i with
  | zero => rfl
  | succ i ih => unfold ap; rw [ih]; simp
theorem hard_back (c : List Int) (hc : ∀ x ∈ c, bit x) : (c.map sg).map hd = c := by
  rw [List.map_map]
  conv => rhs; rw [← List.map_id c]
  apply List.map_congr_left
  intro x hx
  have := hc x hx
  unfold bit at this
  simp only [Function.comp, hd, sg, id]
  rcases this with rfl | rfl <;> decide
theorem mn_nat (a b : Nat) : mn (a : Int) (b : Int) = ((min a b : Nat) : Int) := by unfold mn; split <;> omega
theorem SoftBest : shuttlelaw08_SoftBest.Pure := by
  intro l0 l1 _ _ w0 _ _ _
  refine ⟨20000, ?_⟩
  unfold shuttlelaw08_SoftBest.f
  have e1 : mn (l1.length : Int) 20 = ((min l1.length 20 : Nat) : Int) := mn_nat _ 20
  have n1 : ((min l1.length 20 : Nat) : Int).toNat = min l1.length 20 := by omega
  rw [show shuttleref01_Few.f 20000 l0 100 = some (few l0 100) from few_f l0 (u8_of_wf w0) 100 (by omega) 20000 (by omega), e1, n1]
  simp only [Option.bind_some]
  rw [if_pos (by omega), if_pos (by omega)]
  have hc : ∀ x ∈ few l0 100, bit x := few_bit
  have hl := few_length l0 100
  generalize few l0 100 = c at hc hl ⊢
  have ha : (l1.take (min l1.length 20)).length ≤ 20 := by rw [List.length_take]; omega
  generalize l1.take (min l1.length 20) = a at ha ⊢
  have ht := turned_bit hc a
  have hlt := turned_length c a
  rw [turn_f c a (by omega) (by omega) 20000 (by
    have : (a.length + 2) * c.length ≤ 22 * 100 := Nat.mul_le_mul (by omega) hl
    omega)]
  generalize turned c a = o at ht hlt ⊢
  simp only [Option.bind_some]
  rw [all_f c (by omega) 20000 (by omega)]
  simp only [Option.bind_some]
  have hm : (c.map sg).length = c.length := List.length_map _
  rw [score_f (c.map sg) c (by omega) (by omega) 20000 (by omega), if_pos hm, if_neg (by rw [bit_small hc]; decide), if_neg (by rw [sg_inside]; decide), hm, best c c hc hc rfl c.length (Nat.le_refl _), ap_self]
  simp only [Option.bind_some]
  rw [score_f (c.map sg) o (by omega) (by omega) 20000 (by omega), if_pos (by omega), if_neg (by rw [bit_small ht]; decide), if_neg (by rw [sg_inside]; decide), hm, best c o hc ht hlt.symm c.length (Nat.le_refl _)]
  simp only [Option.bind_some]
  rw [sure_f 20000 (by omega)]
  simp only [Option.bind_some, if_true]
  have hap := ap_in c o c.length
  rw [if_pos (by omega), rapart_f c o hlt.symm (by omega) 20000 (by omega)]
  simp only [Option.bind_some]
  rw [if_pos (by rw [wrap_in (n := 2 * _) (by omega) (by omega), wrap_in (by omega) (by omega)]; omega), hard_f _ (by omega) 20000 (by omega), hard_back c hc]
  simp

end Go.Proofs.Ytmjilfeadgancaa.Pure
