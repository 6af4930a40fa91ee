/- bits.Turn, bits.Weight in plain words; what is turned twice. No condition. -/
import Derived.Test.YtmjilfeadgancaaXBits
import Derived.Test.YtmjilfeadgancaaX26
import Derived.Test.YtmjilfeadgancaaX27
import Derived.Test.YtmjilfeadgancaaX28
namespace Go.Proofs.Ytmjilfeadgancaa.X
open Go.RowKit Go.Proofs.YtmjilfeadgancaaW.PrintWords Go.Proofs.YtmjilfeadgancaaW.PrintLast Go.Proofs.YtmjilfeadgancaaW.PrintMore
set_option linter.unusedVariables false

theorem turned_get (l at_ : List Int) (i : Nat) (h : i < (turned l at_).length) : (turned l at_)[i] = tv at_ (i : Int) (l.getD i 0) := by simp [turned]
theorem turned_nil (l : List Int) : turned l [] = l := by
  apply List.ext_getElem
  · rw [turned_length]
  · intro i h1 h2
    rw [turned_get, List.getD_eq_getElem?_getD, List.getElem?_eq_getElem h2]; rfl
theorem turned_out (l r : List Int) (a : Int) (h : a < 0 ∨ (l.length : Int) ≤ a) : turned l (a :: r) = turned l r := by
  apply List.ext_getElem
  · rw [turned_length, turned_length]
  · intro i h1 h2
    rw [turned_get, turned_get]
    have hi : i < l.length := by rw [turned_length] at h1; exact h1
    show tv r (i : Int) (if a = (i : Int) then _ else _) = _
    rw [if_neg (by omega)]
theorem turned_in (l r : List Int) (n : Nat) (h : n < l.length) : turned l ((n : Int) :: r) = turned (l.set n (Go.bits .xor .u8 (l.getD n 0) 1)) r := by
  apply List.ext_getElem
  · rw [turned_length, turned_length, List.length_set]
  · intro i h1 h2
    rw [turned_get, turned_get]
    have hi : i < l.length := by rw [turned_length] at h1; exact h1
    show tv r (i : Int) (if (n : Int) = (i : Int) then _ else _) = _
    by_cases e : n = i
    · subst e
      rw [if_pos rfl, List.getD_eq_getElem?_getD (l := l.set n _), List.getElem?_set_self h]; rfl
    · rw [if_neg (by omega), List.getD_eq_getElem?_getD (l := l.set n _), List.getElem?_set_ne e, ← List.getD_eq_getElem?_getD]
theorem bturn_l0 (at_ : List Int) (ha : at_.length ≤ 1000) (d : Nat) : ∀ (k i : Nat) (x : List Int), x.length ≤ 1000 → i + d = at_.length → d < k →
    bits_Turn.l0 k x at_ (at_.length : Int) (i : Int) = some (turned x (at_.drop i)) := by
  induction d with
  | zero =>
    intro k i x hx hi hk
    obtain ⟨k, rfl⟩ := pred hk
    simp only [bits_Turn.l0]
    rw [if_neg (by omega), List.drop_eq_nil_of_le (by omega), turned_nil]
  | succ d ih =>
    intro k i x hx hi hk
    obtain ⟨k, rfl⟩ := pred hk
    have hlt : i < at_.length := by omega
    simp only [bits_Turn.l0]
    rw [if_pos (by omega), if_pos (by omega), if_pos (by omega), rd_get at_ i hlt, drop_cons at_ i hlt, wrap_succ i (by omega)]
    generalize at_[i] = a
    by_cases h0 : a ≥ 0
    · obtain ⟨n, rfl⟩ := Int.eq_ofNat_of_zero_le h0
      rw [if_pos h0]
      by_cases h1 : (n : Int) < (x.length : Int)
      · rw [if_pos h1, if_pos h0, ih k (i + 1) _ (by rw [List.length_set]; exact hx) (by omega) (by omega), turned_in x _ n (by omega), rd_getD, Int.toNat_natCast]
      · rw [if_neg h1, ih k (i + 1) _ hx (by omega) (by omega), turned_out x _ _ (by omega)]
    · rw [if_neg h0, ih k (i + 1) _ hx (by omega) (by omega), turned_out x _ _ (by omega)]
theorem bturn_f (l at_ : List Int) (hl : l.length ≤ 1000) (ha : at_.length ≤ 1000) (k : Nat) (hk : at_.length < k) : bits_Turn.f k l at_ = some (turned l at_) := by
  unfold bits_Turn.f slices_Clone_byte_byte.f
  rw [if_pos (by omega), Option.bind_some]
  have := bturn_l0 at_ ha at_.length k 0 l hl (by omega) hk
  rwa [List.drop_zero] at this
-- turned twice
theorem tv_cons (a : Int) (r : List Int) (i x : Int) : tv (a :: r) i x = tv r i (if a = i then Go.bits .xor .u8 x 1 else x) := rfl
theorem tv_flip (at_ : List Int) (i : Int) : ∀ x, bit x → tv at_ i (1 - x) = 1 - tv at_ i x := by
  induction at_ with
  | nil => intro x h; rfl
  | cons a r ih =>
    intro x h
    have h' : bit (1 - x) := by unfold bit at *; omega
    rw [tv_cons, tv_cons]
    split
    · rw [xor1 h, xor1 h', ih _ h']
    · exact ih x h
theorem tv_tv (at_ : List Int) (i : Int) : ∀ x, bit x → tv at_ i (tv at_ i x) = x := by
  induction at_ with
  | nil => intro x h; rfl
  | cons a r ih =>
    intro x h
    have h' : bit (1 - x) := by unfold bit at *; omega
    rw [tv_cons, tv_cons]
    split
    · rw [xor1 h, xor1 (tv_bit r i _ h'), tv_flip r i _ (tv_bit r i _ h'), ih _ h']; omega
    · exact ih x h
theorem turned_twice (l at_ : List Int) (h : ∀ x ∈ l, bit x) : turned (turned l at_) at_ = l := by
  apply List.ext_getElem
  · rw [turned_length, turned_length]
  · intro i h1 h2
    rw [turned_get, List.getD_eq_getElem?_getD, List.getElem?_eq_getElem (by rw [turned_length]; exact h2), Option.getD_some, turned_get, List.getD_eq_getElem?_getD, List.getElem?_eq_getElem h2, Option.getD_some]
    exact tv_tv _ _ _ (h _ (List.getElem_mem h2))
-- turned at all places
def ints (n : Nat) : List Int := (List.range n).map fun i : Nat => (i : Int)
theorem ints_length (n : Nat) : (ints n).length = n := by simp [ints]
theorem ints_succ (n : Nat) : ints (n + 1) = ints n ++ [(n : Int)] := by simp [ints, List.range_succ]
theorem tv_append (a b : List Int) (i x : Int) : tv (a ++ b) i x = tv b i (tv a i x) := by simp [tv]
theorem tv_ints (n i : Nat) (x : Int) (h : bit x) : tv (ints n) (i : Int) x = if i < n then 1 - x else x := by
  induction n with
  | zero => rw [if_neg (by omega)]; rfl
  | succ n ih =>
    rw [ints_succ, tv_append, ih]
    show (if (n : Int) = (i : Int) then Go.bits .xor .u8 _ 1 else _) = _
    by_cases e : n = i
    · subst e
      rw [if_pos rfl, if_neg (by omega), if_pos (by omega), xor1 h]
    · rw [if_neg (by omega)]
      by_cases c : i < n
      · rw [if_pos c, if_pos (by omega)]
      · rw [if_neg c, if_neg (by omega)]
theorem turned_all (l : List Int) (h : ∀ x ∈ l, bit x) : turned l (ints l.length) = l.map fun x => 1 - x := by
  apply List.ext_getElem
  · rw [turned_length, List.length_map]
  · intro i h1 h2
    have hi : i < l.length := by rw [turned_length] at h1; exact h1
    rw [turned_get, tv_ints _ _ _ (getD_bit h i), if_pos hi, List.getElem_map, List.getD_eq_getElem?_getD, List.getElem?_eq_getElem hi]; rfl
-- how many are 1
def wt (l : List Int) : Nat → Int
  | 0 => 0
  | i + 1 => wt l i + if l.getD i 0 = 0 then 0 else 1
theorem wt_in (l : List Int) (i : Nat) : 0 ≤ wt l i ∧ wt l i ≤ i := by
  induction i with
  | zero => simp [wt]
  | succ i ih => unfold wt; split <;> omega
theorem weight_l0 (l : List Int) (h : l.length ≤ 1000) (d : Nat) : ∀ k i : Nat, i + d = l.length → d < k →
    bits_Weight.l0 k (wt l i) l (l.length : Int) (i : Int) = some (wt l l.length) := by
  induction d with
  | zero =>
    intro k i hi hk
    obtain ⟨k, rfl⟩ := pred hk
    obtain rfl : i = l.length := by omega
    simp only [bits_Weight.l0]
    rw [if_neg (by omega)]
  | succ d ih =>
    intro k i hi hk
    obtain ⟨k, rfl⟩ := pred hk
    have hin := wt_in l i
    have hn := ih k (i + 1) (by omega) (by omega)
    simp only [bits_Weight.l0]
    rw [if_pos (by omega), if_pos (by omega), if_pos (by omega), rd_getD, wrap_succ i (by omega)]
    simp only [wt] at hn
    by_cases e : l.getD i 0 = 0
    · rw [if_pos e] at hn ⊢; rw [Int.add_zero] at hn; exact hn
    · rw [if_neg e] at hn ⊢; rw [wrap_in (by omega) (by omega)]; exact hn
theorem weight_f (l : List Int) (h : l.length ≤ 1000) (k : Nat) (hk : l.length < k) : bits_Weight.f k l = some (wt l l.length) :=
  weight_l0 l h l.length k 0 (by omega) hk
theorem wt_not (l : List Int) (h : ∀ x ∈ l, bit x) (i : Nat) (hi : i ≤ l.length) : wt (l.map fun x => 1 - x) i = (i : Int) - wt l i := by
  induction i with
  | zero => simp [wt]
  | succ i ih =>
    have hlt : i < l.length := by omega
    have hb : bit l[i] := h _ (List.getElem_mem hlt)
    simp only [wt]
    rw [ih (by omega), List.getD_eq_getElem?_getD, List.getD_eq_getElem?_getD, List.getElem?_map, List.getElem?_eq_getElem hlt, Option.map_some, Option.getD_some, Option.getD_some]
    unfold bit at hb
    rcases hb with e | e <;> rw [e] <;> simp <;> omega
theorem ap_not (l : List Int) (h : ∀ x ∈ l, bit x) (i : Nat) (hi : i ≤ l.length) : ap l (l.map fun x => 1 - x) i = (i : Int) := by
  induction i with
  | zero => simp [ap]
  | succ i ih =>
    have hlt : i < l.length := by omega
    have hb : bit l[i] := h _ (List.getElem_mem hlt)
    simp only [ap]
    rw [ih (by omega), List.getD_eq_getElem?_getD, List.getD_eq_getElem?_getD, List.getElem?_map, List.getElem?_eq_getElem hlt, Option.map_some, Option.getD_some, Option.getD_some]
    unfold bit at hb
    rw [if_neg (by omega)]; omega

end Go.Proofs.Ytmjilfeadgancaa.X
