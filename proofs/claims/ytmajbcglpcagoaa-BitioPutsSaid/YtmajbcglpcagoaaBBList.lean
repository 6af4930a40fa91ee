/- The reference's bytes of a list of bits are bits.Bytes's. No condition. -/
import Derived.Test.YtmajbcglpcagoaaBBOf
import Derived.Test.YtmajbcglpcagoaaB14
namespace Go.Proofs.Ytmajbcglpcagoaa.B
open Go.RowKit Go.Proofs.YtmajbcglpcagoaaW.PrintWords Go.Proofs.YtmajbcglpcagoaaW.PrintLast Go.Proofs.YtmajbcglpcagoaaW.PrintMore
set_option linter.unusedVariables false

def rb (l : List Int) (x : Nat) : Nat → Int
  | 0 => 0
  | m + 1 => 2 * rb l x m + l.getD (8 * x + m) 0
theorem bit01 {x : Int} (h : bit x) : 0 ≤ x ∧ x ≤ 1 := by unfold bit at h; omega
theorem rb_in (l : List Int) (h : ∀ x ∈ l, bit x) (x : Nat) (m : Nat) : 0 ≤ rb l x m ∧ rb l x m + 1 ≤ ((2 ^ m : Nat) : Int) := by
  induction m with
  | zero => simp [rb]
  | succ m ih =>
    have hb := getD_bit h (8 * x + m)
    unfold bit at hb
    unfold rb
    rw [Nat.pow_succ]
    omega
theorem rb_256 (l : List Int) (h : ∀ x ∈ l, bit x) (x : Nat) (m : Nat) (hm : m ≤ 8) : 0 ≤ rb l x m ∧ rb l x m ≤ 255 := by
  have h1 := rb_in l h x m
  have h2 : 2 ^ m ≤ 2 ^ 8 := Nat.pow_le_pow_right (by omega) hm
  omega
theorem rb_congr (l l' : List Int) (x y : Nat) : ∀ m, (∀ k, k < m → l.getD (8 * x + k) 0 = l'.getD (8 * y + k) 0) → rb l x m = rb l' y m
  | 0, _ => rfl
  | m + 1, h => by
    unfold rb
    rw [rb_congr l l' x y m (fun k hk => h k (by omega)), h m (by omega)]
theorem rb_all : ∀ r : Fin 256, rb (bits8 (r.val : Int)) 0 8 = (r.val : Int) := by decide +kernel
theorem by_short : ∀ r : Fin 256, ∀ m : Fin 9, (∀ k : Fin 8, m.val ≤ k.val → (bits8 (r.val : Int)).getD (8 * 0 + k.val) 0 = 0) → byOf (bits8 (r.val : Int)) 0 m.val = (r.val : Int) := by decide +kernel
theorem eight (l : List Int) (h : ∀ x ∈ l, bit x) (x : Nat) : ∃ r : Fin 256, ∀ k, k < 8 → l.getD (8 * x + k) 0 = (bits8 (r.val : Int)).getD (8 * 0 + k) 0 := by
  have b0 := getD_bit h (8 * x + 0)
  have b1 := getD_bit h (8 * x + 1)
  have b2 := getD_bit h (8 * x + 2)
  have b3 := getD_bit h (8 * x + 3)
  have b4 := getD_bit h (8 * x + 4)
  have b5 := getD_bit h (8 * x + 5)
  have b6 := getD_bit h (8 * x + 6)
  have b7 := getD_bit h (8 * x + 7)
  replace b0 := bit01 b0
  replace b1 := bit01 b1
  replace b2 := bit01 b2
  replace b3 := bit01 b3
  replace b4 := bit01 b4
  replace b5 := bit01 b5
  replace b6 := bit01 b6
  replace b7 := bit01 b7
  suffices hh : ∃ r : Fin 256, l.getD (8 * x + 0) 0 = (r.val : Int) / 128 % 2 ∧ l.getD (8 * x + 1) 0 = (r.val : Int) / 64 % 2 ∧ l.getD (8 * x + 2) 0 = (r.val : Int) / 32 % 2 ∧ l.getD (8 * x + 3) 0 = (r.val : Int) / 16 % 2 ∧ l.getD (8 * x + 4) 0 = (r.val : Int) / 8 % 2 ∧ l.getD (8 * x + 5) 0 = (r.val : Int) / 4 % 2 ∧ l.getD (8 * x + 6) 0 = (r.val : Int) / 2 % 2 ∧ l.getD (8 * x + 7) 0 = (r.val : Int) / 1 % 2 by
    obtain ⟨r, h0, h1, h2, h3, h4, h5, h6, h7⟩ := hh
    refine ⟨r, ?_⟩
    intro k hk
    have hk' : k = 0 ∨ k = 1 ∨ k = 2 ∨ k = 3 ∨ k = 4 ∨ k = 5 ∨ k = 6 ∨ k = 7 := by omega
    rcases hk' with rfl | rfl | rfl | rfl | rfl | rfl | rfl | rfl
    · exact h0
    · exact h1
    · exact h2
    · exact h3
    · exact h4
    · exact h5
    · exact h6
    · exact h7
  generalize l.getD (8 * x + 0) 0 = c0 at *
  generalize l.getD (8 * x + 1) 0 = c1 at *
  generalize l.getD (8 * x + 2) 0 = c2 at *
  generalize l.getD (8 * x + 3) 0 = c3 at *
  generalize l.getD (8 * x + 4) 0 = c4 at *
  generalize l.getD (8 * x + 5) 0 = c5 at *
  generalize l.getD (8 * x + 6) 0 = c6 at *
  generalize l.getD (8 * x + 7) 0 = c7 at *
  obtain ⟨n, hn⟩ := Int.eq_ofNat_of_zero_le (a := 128 * c0 + 64 * c1 + 32 * c2 + 16 * c3 + 8 * c4 + 4 * c5 + 2 * c6 + c7) (by omega)
  refine ⟨⟨n, by omega⟩, ?_, ?_, ?_, ?_, ?_, ?_, ?_, ?_⟩ <;> (show _ = (n : Int) / _ % 2; rw [show (n : Int) = 128 * c0 + 64 * c1 + 32 * c2 + 16 * c3 + 8 * c4 + 4 * c5 + 2 * c6 + c7 from hn.symm]; clear hn; omega)
theorem byte_rb (l : List Int) (h : ∀ x ∈ l, bit x) (x : Nat) : byte l x = rb l x 8 := by
  obtain ⟨r, hr⟩ := eight l h x
  rw [rb_congr l (bits8 (r.val : Int)) x 0 8 hr, rb_all r]
  unfold byte
  rw [byOf_congr l (bits8 (r.val : Int)) x 0 _ (fun k hk => hr k (by omega))]
  refine by_short r ⟨min 8 (l.length - 8 * x), by omega⟩ ?_
  intro k hk
  rw [← hr k.val k.isLt, List.getD_eq_getElem?_getD, List.getElem?_eq_none (by have := k.isLt; simp only at hk; omega)]
  rfl
theorem rby_l1 (l : List Int) (h : ∀ x ∈ l, bit x) (hl : l.length ≤ 10000) (acc : List Int) (hacc : acc.length ≤ 100000) (x : Nat) (hx : 8 * x < l.length) (k d : Nat) : ∀ m : Nat, m + d = 8 →
    shuttleref01_Bytes.l1 (k + d + 1) l acc ((8 * x : Nat) : Int) (rb l x m) (m : Int) = shuttleref01_Bytes.l0 k l (acc ++ [byte l x]) ((8 * (x + 1) : Nat) : Int) := by
  induction d with
  | zero =>
    intro m hm
    obtain rfl : m = 8 := by omega
    have hb := rb_256 l h x 8 (by omega)
    rw [shuttleref01_Bytes.l1.eq_2, if_neg (by omega), if_pos (by omega), wrap_in (by omega) (by omega), byte_rb l h x, Int.emod_eq_of_lt hb.1 (by omega),
      show ((8 * x : Nat) : Int) + 8 = ((8 * (x + 1) : Nat) : Int) from by omega]
  | succ d ih =>
    intro m hm
    have hb := rb_256 l h x m (by omega)
    have hg := getD_bit h (8 * x + m)
    unfold bit at hg
    have hn := ih (m + 1) (by omega)
    rw [show rb l x (m + 1) = 2 * rb l x m + l.getD (8 * x + m) 0 from rfl] at hn
    rw [show k + (d + 1) + 1 = (k + d + 1) + 1 from by omega, shuttleref01_Bytes.l1.eq_2, if_pos (by omega), wrap_succ m (by omega),
      show wrap64 (((8 * x : Nat) : Int) + (m : Int)) = ((8 * x + m : Nat) : Int) from by rw [wrap_in (by omega) (by omega)]; omega]
    by_cases c : 8 * x + m < l.length
    · rw [if_pos (by omega), if_pos (by omega), rd_getD, wrap_in (n := 2 * rb l x m) (by omega) (by omega), wrap_in (n := l.getD (8 * x + m) 0) (by omega) (by omega), wrap_in (by omega) (by omega)]
      exact hn
    · have hz : l.getD (8 * x + m) 0 = 0 := by rw [List.getD_eq_getElem?_getD, List.getElem?_eq_none (by omega)]; rfl
      rw [hz, Int.add_zero] at hn
      rw [if_neg (by omega), wrap_in (n := 2 * rb l x m) (by omega) (by omega)]
      exact hn
theorem rby_l0 (l : List Int) (h : ∀ x ∈ l, bit x) (hl : l.length ≤ 10000) (d : Nat) : ∀ k j : Nat, j + d = (l.length + 7) / 8 → 10 * d < k →
    shuttleref01_Bytes.l0 k l ((List.range j).map (byte l)) ((8 * j : Nat) : Int) = some ((List.range ((l.length + 7) / 8)).map (byte l)) := by
  induction d with
  | zero =>
    intro k j hj hk
    obtain ⟨k, rfl⟩ := pred (show 0 < k by omega)
    rw [shuttleref01_Bytes.l0.eq_2, if_neg (by omega), show j = (l.length + 7) / 8 from by omega]
  | succ d ih =>
    intro k j hj hk
    obtain ⟨k, rfl⟩ : ∃ m, k = (m + 8 + 1) + 1 := ⟨k - 10, by omega⟩
    rw [shuttleref01_Bytes.l0.eq_2, if_pos (by omega)]
    have e := rby_l1 l h hl ((List.range j).map (byte l)) (by simp; omega) j (by omega) k 8 0 (by omega)
    rw [show rb l j 0 = 0 from rfl, show ((0 : Nat) : Int) = 0 from rfl] at e
    rw [e, show (List.range j).map (byte l) ++ [byte l j] = (List.range (j + 1)).map (byte l) from by simp [List.range_succ]]
    exact ih k (j + 1) (by omega) (by omega)
theorem rbytes_f (l : List Int) (h : ∀ x ∈ l, bit x) (hl : l.length ≤ 10000) (k : Nat) (hk : 10 * l.length + 20 < k) : shuttleref01_Bytes.f k l = some ((List.range ((l.length + 7) / 8)).map (byte l)) :=
  rby_l0 l h hl ((l.length + 7) / 8) k 0 (by omega) (by omega)

end Go.Proofs.Ytmajbcglpcagoaa.B
