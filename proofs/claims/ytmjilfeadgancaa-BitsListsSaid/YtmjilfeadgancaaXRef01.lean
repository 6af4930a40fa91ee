/- The reference of layer 1 (Few, Turn, Apart) in plain words. No condition. -/
import Derived.Test.YtmjilfeadgancaaXPlain
import Derived.Test.YtmjilfeadgancaaX18
import Derived.Test.YtmjilfeadgancaaX19
import Derived.Test.YtmjilfeadgancaaX33
namespace Go.Proofs.Ytmjilfeadgancaa.X
open Go.RowKit Go.Proofs.YtmjilfeadgancaaW.PrintWords Go.Proofs.YtmjilfeadgancaaW.PrintLast Go.Proofs.YtmjilfeadgancaaW.PrintMore
set_option linter.unusedVariables false

def bit (x : Int) : Prop := x = 0 ∨ x = 1
def few (l : List Int) (m : Nat) : List Int := (l.take m).map fun x => x % 2
theorem few_bit {l : List Int} {m : Nat} : ∀ x ∈ few l m, bit x := by
  intro x hx
  simp only [few, List.mem_map] at hx
  obtain ⟨y, _, rfl⟩ := hx
  unfold bit; omega
theorem few_length (l : List Int) (m : Nat) : (few l m).length ≤ m := by simp [few]; omega
theorem few_l0 (l : List Int) (hw : ∀ x ∈ l, 0 ≤ x ∧ x ≤ 255) (m : Nat) (hm : m ≤ 1000) (d : Nat) : ∀ k i : Nat, i + d = min l.length m → d < k →
    shuttleref01_Few.l0 k l (m : Int) (few l i) (i : Int) = some (few l m) := by
  induction d with
  | zero =>
    intro k i hi hk
    obtain ⟨k, rfl⟩ := pred hk
    have e : few l i = few l m := by
      unfold few
      rw [show l.take m = l.take i from by
        by_cases h : m ≤ l.length
        · rw [show i = m by omega]
        · rw [List.take_of_length_le (by omega), List.take_of_length_le (by omega)]]
    simp only [shuttleref01_Few.l0]
    rw [e]
    by_cases c : (i : Int) < (l.length : Int)
    · rw [if_pos c, if_neg (by omega)]
    · rw [if_neg c]
  | succ d ih =>
    intro k i hi hk
    obtain ⟨k, rfl⟩ := pred hk
    have hlt : i < l.length := by omega
    have hx := hw l[i] (List.getElem_mem hlt)
    have hn := ih k (i + 1) (by omega) (by omega)
    have e : few l (i + 1) = few l i ++ [Int.tmod (rd l (i : Int)) 2] := by
      unfold few
      rw [take_snoc l i hlt, List.map_append, rd_get l i hlt, Int.tmod_eq_emod_of_nonneg hx.1]; rfl
    simp only [shuttleref01_Few.l0]
    rw [if_pos (by omega), if_pos (by omega), if_pos (by omega), if_pos (by have := few_length l i; omega), ← e, wrap_succ i (by omega)]
    exact hn
theorem few_f (l : List Int) (hw : ∀ x ∈ l, 0 ≤ x ∧ x ≤ 255) (m : Nat) (hm : m ≤ 1000) (k : Nat) (hk : m < k) : shuttleref01_Few.f k l (m : Int) = some (few l m) :=
  few_l0 l hw m hm (min l.length m) k 0 (by omega) (by omega)
-- some are turned
def tv (at_ : List Int) (i : Int) (x : Int) : Int := at_.foldl (fun c a => if a = i then Go.bits .xor .u8 c 1 else c) x
def turned (l at_ : List Int) : List Int := (List.range l.length).map fun i : Nat => tv at_ (i : Int) (l.getD i 0)
theorem turned_length (l at_ : List Int) : (turned l at_).length = l.length := by simp [turned]
theorem xor1 {x : Int} (h : bit x) : Go.bits .xor .u8 x 1 = 1 - x := by
  rcases h with rfl | rfl <;> decide +kernel
theorem tv_bit (at_ : List Int) (i : Int) : ∀ x : Int, bit x → bit (tv at_ i x) := by
  unfold tv
  induction at_ with
  | nil => intro x h; exact h
  | cons a at_ ih =>
    intro x h
    rw [List.foldl_cons]
    refine ih _ ?_
    split
    · rw [xor1 h]; unfold bit at h ⊢; omega
    · exact h
theorem getD_bit {l : List Int} (h : ∀ x ∈ l, bit x) (i : Nat) : bit (l.getD i 0) := by
  by_cases hi : i < l.length
  · rw [List.getD_eq_getElem?_getD, List.getElem?_eq_getElem hi]; exact h _ (List.getElem_mem hi)
  · rw [List.getD_eq_getElem?_getD, List.getElem?_eq_none (by omega)]; exact .inl rfl
theorem turned_bit {l : List Int} (h : ∀ x ∈ l, bit x) (at_ : List Int) : ∀ x ∈ turned l at_, bit x := by
  intro x hx
  simp only [turned, List.mem_map] at hx
  obtain ⟨i, _, rfl⟩ := hx
  exact tv_bit _ _ _ (getD_bit h i)
theorem turn_l1 (l at_ : List Int) (ha : at_.length ≤ 1000) (hl : l.length ≤ 1000) (i : Nat) (hi : i < l.length) (acc : List Int) (hacc : acc.length ≤ 1000) (d : Nat) : ∀ (k j : Nat) (x : Int), j + d = at_.length →
    shuttleref01_Turn.l1 (k + d + 1) l at_ acc (i : Int) x (j : Int) = shuttleref01_Turn.l0 k l at_ (acc ++ [(at_.drop j).foldl (fun c a => if a = (i : Int) then Go.bits .xor .u8 c 1 else c) x]) ((i + 1 : Nat) : Int) := by
  induction d with
  | zero =>
    intro k j x hj
    simp only [shuttleref01_Turn.l1]
    rw [if_neg (by omega), if_pos (by omega), List.drop_eq_nil_of_le (by omega), wrap_succ i (by omega)]; rfl
  | succ d ih =>
    intro k j x hj
    have hlt : j < at_.length := by omega
    rw [show k + (d + 1) + 1 = (k + d + 1) + 1 from by omega]
    simp only [shuttleref01_Turn.l1]
    rw [if_pos (by omega), if_pos (by omega), rd_get at_ j hlt, wrap_succ j (by omega), drop_cons at_ j hlt, List.foldl_cons]
    by_cases e : at_[j] = (i : Int)
    · rw [if_pos e, if_pos e]; exact ih k (j + 1) _ (by omega)
    · rw [if_neg e, if_neg e]; exact ih k (j + 1) _ (by omega)
theorem turn_l0 (l at_ : List Int) (ha : at_.length ≤ 1000) (hl : l.length ≤ 1000) (d : Nat) : ∀ (k i : Nat), i + d = l.length → (at_.length + 2) * d < k →
    shuttleref01_Turn.l0 k l at_ ((turned l at_).take i) (i : Int) = some (turned l at_) := by
  induction d with
  | zero =>
    intro k i hi hk
    obtain ⟨k, rfl⟩ := pred (show 0 < k by omega)
    simp only [shuttleref01_Turn.l0]
    rw [if_neg (by omega), List.take_of_length_le (by rw [turned_length]; omega)]
  | succ d ih =>
    intro k i hi hk
    rw [Nat.mul_succ] at hk
    obtain ⟨k, rfl⟩ : ∃ m, k = (m + at_.length + 1) + 1 := ⟨k - at_.length - 2, by omega⟩
    have hlt : i < l.length := by omega
    have hT : i < (turned l at_).length := by rw [turned_length]; exact hlt
    simp only [shuttleref01_Turn.l0]
    rw [if_pos (by omega), if_pos (by omega), rd_getD]
    have e := turn_l1 l at_ ha hl i hlt ((turned l at_).take i) (by rw [List.length_take, turned_length]; omega) at_.length k 0 (l.getD i 0) (by omega)
    rw [show ((0 : Nat) : Int) = 0 from rfl] at e
    rw [e, List.drop_zero, show at_.foldl (fun c a => if a = (i : Int) then Go.bits .xor .u8 c 1 else c) (l.getD i 0) = (turned l at_)[i] from by simp [turned, tv], ← take_snoc _ i hT]
    exact ih k (i + 1) (by omega) (by omega)
theorem turn_f (l at_ : List Int) (ha : at_.length ≤ 1000) (hl : l.length ≤ 1000) (k : Nat) (hk : (at_.length + 2) * l.length < k) : shuttleref01_Turn.f k l at_ = some (turned l at_) :=
  turn_l0 l at_ ha hl l.length k 0 (by omega) hk
-- how far apart
def ap (a b : List Int) : Nat → Int
  | 0 => 0
  | i + 1 => ap a b i + if a.getD i 0 = b.getD i 0 then 0 else 1
theorem ap_in (a b : List Int) (i : Nat) : 0 ≤ ap a b i ∧ ap a b i ≤ i := by
  induction i with
  | zero => simp [ap]
  | succ i ih => unfold ap; split <;> omega
theorem apart_l0 (a b : List Int) (hl : a.length = b.length) (h : a.length ≤ 1000) (d : Nat) : ∀ k i : Nat, i + d = a.length → d < k →
    shuttleref01_Apart.l0 k a b (ap a b i) (i : Int) = some (ap a b a.length) := by
  induction d with
  | zero =>
    intro k i hi hk
    obtain ⟨k, rfl⟩ := pred hk
    obtain rfl : i = a.length := by omega
    simp only [shuttleref01_Apart.l0]
    rw [if_neg (by omega)]
  | succ d ih =>
    intro k i hi hk
    obtain ⟨k, rfl⟩ := pred hk
    have hin := ap_in a b i
    have hn := ih k (i + 1) (by omega) (by omega)
    simp only [shuttleref01_Apart.l0]
    rw [if_pos (by omega), if_pos (by omega), if_pos (by omega), rd_getD, rd_getD, wrap_succ i (by omega)]
    simp only [ap] at hn
    by_cases e : a.getD i 0 = b.getD i 0
    · rw [if_pos e] at hn ⊢; rw [Int.add_zero] at hn; exact hn
    · rw [if_neg e] at hn ⊢; rw [wrap_in (by omega) (by omega)]; exact hn
theorem rapart_f (a b : List Int) (hl : a.length = b.length) (h : a.length ≤ 1000) (k : Nat) (hk : a.length < k) : shuttleref01_Apart.f k a b = some (ap a b a.length) :=
  apart_l0 a b hl h a.length k 0 (by omega) hk

end Go.Proofs.Ytmjilfeadgancaa.X
