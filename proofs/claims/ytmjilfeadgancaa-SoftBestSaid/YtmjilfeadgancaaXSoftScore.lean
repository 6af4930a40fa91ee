/- soft.Score, soft.Hard and their references in plain words. No condition. -/
import Derived.Test.YtmjilfeadgancaaXSoft
import Derived.Test.YtmjilfeadgancaaXBitsRight
import Derived.Test.YtmjilfeadgancaaX10
import Derived.Test.YtmjilfeadgancaaX11
import Derived.Test.YtmjilfeadgancaaX3
import Derived.Test.YtmjilfeadgancaaX36
import Derived.Test.YtmjilfeadgancaaX37
import Derived.Test.YtmjilfeadgancaaX38
import Derived.Test.YtmjilfeadgancaaX8
import Derived.Test.YtmjilfeadgancaaX9
namespace Go.Proofs.Ytmjilfeadgancaa.X
open Go.RowKit Go.Proofs.YtmjilfeadgancaaW.PrintWords Go.Proofs.YtmjilfeadgancaaW.PrintLast Go.Proofs.YtmjilfeadgancaaW.PrintMore
set_option linter.unusedVariables false

def off (x : Int) : Bool := x != cl x
theorem off_false {x : Int} (h : off x = false) : -31 ≤ x ∧ x ≤ 31 := by
  have : x = cl x := by simpa [off] using h
  have := cl_in x
  omega
theorem sindex_l0 (l : List Int) (hl : l.length ≤ 140737488355328) (d : Nat) : ∀ k i : Nat, i + d = l.length → d < k →
    ∃ r, slices_IndexFunc_int_int.l0 k l (l.length : Int) (i : Int) = some r ∧ decide (r ≥ 0) = (l.drop i).any off := by
  induction d with
  | zero =>
    intro k i hi hk
    obtain ⟨k, rfl⟩ := pred hk
    refine ⟨-1, ?_, ?_⟩
    · simp only [slices_IndexFunc_int_int.l0]; rw [if_neg (by omega)]
    · rw [List.drop_eq_nil_of_le (by omega)]; rfl
  | succ d ih =>
    intro k i hi hk
    obtain ⟨k, rfl⟩ := pred hk
    have hlt : i < l.length := by omega
    simp only [slices_IndexFunc_int_int.l0]
    rw [if_pos (by omega), if_pos (by omega), if_pos (by omega), rd_get l i hlt, drop_cons l i hlt, List.any_cons]
    unfold soft_Score_1.f
    rw [clip_f]
    simp only [Option.bind_some]
    cases hb : off l[i] with
    | true =>
      unfold off at hb
      rw [if_pos hb]
      exact ⟨_, rfl, by rw [Bool.true_or]; exact decide_eq_true (by omega)⟩
    | false =>
      unfold off at hb
      rw [if_neg (by rw [hb]; decide), wrap_succ i (by omega), Bool.false_or]
      exact ih k (i + 1) (by omega) (by omega)
theorem contains_f (l : List Int) (hl : l.length ≤ 140737488355328) (k : Nat) (hk : l.length < k) : slices_ContainsFunc_int_int.f k l = some (l.any off) := by
  obtain ⟨r, h1, h2⟩ := sindex_l0 l hl l.length k 0 (by omega) hk
  unfold slices_ContainsFunc_int_int.f slices_IndexFunc_int_int.f
  rw [show slices_IndexFunc_int_int.l0 k l (l.length : Int) 0 = some r from h1]
  simp only [Option.bind_some]
  rw [h2]; rfl
theorem rsright_l0 (l : List Int) (hl : l.length ≤ 140737488355328) (d : Nat) : ∀ k i : Nat, i + d = l.length → d < k → shuttleref08_Right.l0 k l (i : Int) = some (!(l.drop i).any off) := by
  induction d with
  | zero =>
    intro k i hi hk
    obtain ⟨k, rfl⟩ := pred hk
    simp only [shuttleref08_Right.l0]
    rw [if_neg (by omega), List.drop_eq_nil_of_le (by omega)]; rfl
  | succ d ih =>
    intro k i hi hk
    obtain ⟨k, rfl⟩ := pred hk
    have hlt : i < l.length := by omega
    simp only [shuttleref08_Right.l0]
    rw [if_pos (by omega), if_pos (by omega), rd_get l i hlt, rclip_f, drop_cons l i hlt, List.any_cons]
    simp only [Option.bind_some]
    cases hb : off l[i] with
    | true =>
      rw [if_neg (by simpa [off] using hb)]; rfl
    | false =>
      rw [if_pos (by simpa [off] using hb), wrap_succ i (by omega), Bool.false_or]
      exact ih k (i + 1) (by omega) (by omega)
theorem rsright_f (l : List Int) (hl : l.length ≤ 140737488355328) (k : Nat) (hk : l.length < k) : shuttleref08_Right.f k l = some (!l.any off) := rsright_l0 l hl l.length k 0 (by omega) hk
/-- The score of the first i. -/
def sc (l c : List Int) : Nat → Int
  | 0 => 0
  | i + 1 => sc l c i + if c.getD i 0 = 0 then l.getD i 0 else -(l.getD i 0)
theorem inside {l : List Int} (h : l.any off = false) (i : Nat) : -31 ≤ l.getD i 0 ∧ l.getD i 0 ≤ 31 := by
  by_cases hi : i < l.length
  · rw [List.getD_eq_getElem?_getD, List.getElem?_eq_getElem hi]
    refine off_false ?_
    have := List.any_eq_false.1 h _ (List.getElem_mem hi)
    simpa using this
  · rw [List.getD_eq_getElem?_getD, List.getElem?_eq_none (by omega)]; simp
theorem sc_in {l c : List Int} (h : l.any off = false) (i : Nat) : -(31 * (i : Int)) ≤ sc l c i ∧ sc l c i ≤ 31 * (i : Int) := by
  induction i with
  | zero => simp [sc]
  | succ i ih =>
    have := inside h i
    unfold sc
    split <;> omega
theorem score_l0 (l c : List Int) (hc : l.length = c.length) (h : l.any off = false) (hl : l.length ≤ 1000) (d : Nat) : ∀ k i : Nat, i + d = l.length → d < k →
    soft_Score.l0 k c (sc l c i) l (l.length : Int) (i : Int) = some (sc l c l.length, 0) := by
  induction d with
  | zero =>
    intro k i hi hk
    obtain ⟨k, rfl⟩ := pred hk
    obtain rfl : i = l.length := by omega
    simp only [soft_Score.l0]
    rw [if_neg (by omega)]
  | succ d ih =>
    intro k i hi hk
    obtain ⟨k, rfl⟩ := pred hk
    have hin := inside h i
    have hs := sc_in (c := c) h i
    simp only [soft_Score.l0]
    rw [if_pos (by omega), if_pos (by omega), if_pos (by omega), if_pos (by omega), rd_getD, rd_getD]
    have e : ∃ t, soft_Of.f (c.getD i 0) = some t ∧ wrap64 (sc l c i + wrap64 (l.getD i 0 * t)) = sc l c (i + 1) := by
      unfold soft_Of.f
      by_cases z : c.getD i 0 = 0
      · rw [if_pos z]
        refine ⟨1, rfl, ?_⟩
        rw [Int.mul_one, wrap_in (n := l.getD i 0) (by omega) (by omega), wrap_in (by omega) (by omega)]
        simp only [sc]; rw [if_pos z]
      · rw [if_neg z]
        refine ⟨-1, rfl, ?_⟩
        rw [show l.getD i 0 * -1 = -(l.getD i 0) by omega, wrap_in (n := -(l.getD i 0)) (by omega) (by omega), wrap_in (by omega) (by omega)]
        simp only [sc]; rw [if_neg z]
    obtain ⟨t, e1, e2⟩ := e
    rw [e1]
    simp only [Option.bind_some]
    rw [e2, wrap_succ i (by omega)]
    exact ih k (i + 1) (by omega) (by omega)
theorem rscore_l0 (l c : List Int) (hc : l.length = c.length) (h : l.any off = false) (hl : l.length ≤ 1000) (d : Nat) : ∀ k i : Nat, i + d = l.length → d < k →
    shuttleref08_Score.l0 k l c (sc l c i) (i : Int) = some (sc l c l.length) := by
  induction d with
  | zero =>
    intro k i hi hk
    obtain ⟨k, rfl⟩ := pred hk
    obtain rfl : i = l.length := by omega
    simp only [shuttleref08_Score.l0]
    rw [if_neg (by omega)]
  | succ d ih =>
    intro k i hi hk
    obtain ⟨k, rfl⟩ := pred hk
    have hin := inside h i
    have hs := sc_in (c := c) h i
    simp only [shuttleref08_Score.l0]
    rw [if_pos (by omega), if_pos (by omega), if_pos (by omega), rd_getD, rd_getD]
    have hn := ih k (i + 1) (by omega) (by omega)
    rw [wrap_succ i (by omega)]
    by_cases z : c.getD i 0 = 0
    · rw [if_pos z, wrap_in (by omega) (by omega)]
      simp only [sc] at hn; rw [if_pos z] at hn; exact hn
    · rw [if_neg z, wrap_in (by omega) (by omega)]
      simp only [sc] at hn; rw [if_neg z] at hn
      rw [show sc l c i - l.getD i 0 = sc l c i + -(l.getD i 0) by omega]; exact hn
def hd (n : Int) : Int := if n < 0 then 1 else 0
theorem hard_l0 (l : List Int) (hl : l.length ≤ 140737488355328) (d : Nat) : ∀ k i : Nat, i + d = l.length → d < k →
    soft_Hard.l0 k ((l.take i).map hd) l (l.length : Int) (i : Int) = some (l.map hd) := by
  induction d with
  | zero =>
    intro k i hi hk
    obtain ⟨k, rfl⟩ := pred hk
    simp only [soft_Hard.l0]
    rw [if_neg (by omega), List.take_of_length_le (by omega)]
  | succ d ih =>
    intro k i hi hk
    obtain ⟨k, rfl⟩ := pred hk
    have hlt : i < l.length := by omega
    have hn := ih k (i + 1) (by omega) (by omega)
    rw [take_snoc l i hlt, List.map_append] at hn
    simp only [soft_Hard.l0]
    have hlen : ((l.take i).map hd).length < 140737488355328 := by rw [List.length_map, List.length_take]; omega
    rw [if_pos (by omega), if_pos (by omega), if_pos (by omega), rd_get l i hlt, wrap_succ i (by omega), if_pos hlen]
    simp only [List.map_cons, List.map_nil] at hn
    by_cases z : l[i] < 0
    · rw [if_pos z]; unfold hd at hn ⊢; rw [if_pos z] at hn; exact hn
    · rw [if_neg z, if_pos hlen]; unfold hd at hn ⊢; rw [if_neg z] at hn; exact hn
theorem hard_f (l : List Int) (hl : l.length ≤ 140737488355328) (k : Nat) (hk : l.length < k) : soft_Hard.f k l = some (l.map hd) := hard_l0 l hl l.length k 0 (by omega) hk
/-- What soft.Score tells. -/
theorem score_f (l c : List Int) (hl : l.length ≤ 1000) (hc : c.length ≤ 1000) (k : Nat) (hk : 1000 < k) :
    soft_Score.f k l c = some (if l.length = c.length then (if c.any big = true then (0, 5) else if l.any off = true then (0, 5) else (sc l c l.length, 0)) else (0, 1)) := by
  unfold soft_Score.f
  by_cases e : l.length = c.length
  · rw [if_pos (by omega), if_pos e, right_f c (by omega) k (by omega)]
    simp only [Option.bind_some]
    cases hb : c.any big with
    | true => rfl
    | false =>
      rw [if_pos (by decide), contains_f l (by omega) k (by omega)]
      simp only [Option.bind_some]
      cases ho : l.any off with
      | true => rfl
      | false =>
        rw [if_neg (by decide), if_neg (by decide), if_neg (by decide)]
        exact score_l0 l c e ho hl l.length k 0 (by omega) (by omega)
  · rw [if_neg (by omega), if_neg e]

end Go.Proofs.Ytmjilfeadgancaa.X
