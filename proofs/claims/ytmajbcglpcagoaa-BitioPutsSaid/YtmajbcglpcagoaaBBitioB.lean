/- The bits that the writer puts, in plain words: of two halves, one behind the other; their bytes. No condition but bounds. -/
import Derived.Test.YtmajbcglpcagoaaBBitioW2
import Derived.Test.YtmajbcglpcagoaaBBitioR
import Derived.Test.YtmajbcglpcagoaaBBList
namespace Go.Proofs.Ytmajbcglpcagoaa.B
open Go Go.RowKit Go.Proofs.YtmajbcglpcagoaaW.PrintWords Go.Proofs.YtmajbcglpcagoaaW.PrintLast Go.Proofs.YtmajbcglpcagoaaW.PrintMore
set_option linter.unusedVariables false
set_option linter.unusedSimpArgs false

theorem i64_and_nat (a b : Nat) (ha : a < 9223372036854775808) (hb : b < 9223372036854775808) : Go.bits .and .i64 (a : Int) (b : Int) = ((a &&& b : Nat) : Int) := by
  have hx : a &&& b < 2 ^ 63 := Nat.and_lt_two_pow _ (by omega)
  show IntKind.i64.wrap ((BitVec.ofInt 64 (a : Int) &&& BitVec.ofInt 64 (b : Int)).toNat : Int) = _
  rw [BitVec.toNat_and, Go.ofInt_u64 a (by omega), Go.ofInt_u64 b (by omega)]
  generalize hm : a &&& b = m at hx ⊢
  have hm2 : (m : Int) ≤ 9223372036854775807 := by omega
  rw [IntKind.wrap_i64]; omega
theorem i64_or_nat (a b : Nat) (ha : a < 9223372036854775808) (hb : b < 9223372036854775808) : Go.bits .or .i64 (a : Int) (b : Int) = ((a ||| b : Nat) : Int) := by
  have hx : a ||| b < 2 ^ 63 := Nat.or_lt_two_pow (by omega) (by omega)
  show IntKind.i64.wrap ((BitVec.ofInt 64 (a : Int) ||| BitVec.ofInt 64 (b : Int)).toNat : Int) = _
  rw [BitVec.toNat_or, Go.ofInt_u64 a (by omega), Go.ofInt_u64 b (by omega)]
  generalize hm : a ||| b = m at hx ⊢
  have hm2 : (m : Int) ≤ 9223372036854775807 := by omega
  rw [IntKind.wrap_i64]; omega
theorem bitv_nat (n i : Nat) (hn : n < 9223372036854775808) : bitv (n : Int) i = ((n / 2 ^ i % 2 : Nat) : Int) := by
  unfold bitv
  have h1 : n / 2 ^ i < 9223372036854775808 := Nat.lt_of_le_of_lt (Nat.div_le_self _ _) hn
  have e : ((n : Int) / 2 ^ i) = ((n / 2 ^ i : Nat) : Int) := by
    rw [show ((2 : Int) ^ i) = ((2 ^ i : Nat) : Int) from by simp]; exact (Int.natCast_ediv _ _).symm
  rw [e, show (1 : Int) = ((1 : Nat) : Int) from rfl, i64_and_nat _ 1 h1 (by decide), Go.nat_mask1, IntKind.wrap_u8]
  omega
theorem bitL_bit (n W r : Nat) (hn : n < 9223372036854775808) : ∀ x ∈ bitL (n : Int) W r, bit x := by
  intro x hx
  simp only [bitL, List.mem_map] at hx
  obtain ⟨j, _, rfl⟩ := hx
  rw [bitv_nat n _ hn]
  unfold bit; omega
theorem bitL_length (n : Int) (W r : Nat) : (bitL n W r).length = W - r := by simp [bitL]
theorem putE_ok (n W : Nat) (hW : 1 ≤ W) (hW2 : W ≤ 32) (hn : n < 2 ^ W) : putE (n : Int) (W : Int) = 0 := by
  unfold putE
  have h1 : bitioWidthF (W : Int) = true := by simp [bitioWidthF]; omega
  have h2 : (n : Int) / 2 ^ W = 0 := by
    rw [show ((2 : Int) ^ W) = ((2 ^ W : Nat) : Int) from by simp]
    have : ((n / 2 ^ W : Nat) : Int) = 0 := by rw [Nat.div_eq_of_lt hn]; rfl
    rw [← this]; exact (Int.natCast_ediv _ _).symm
  rw [if_pos h1, if_neg (by omega), Int.toNat_natCast, if_pos h2]
theorem putL_ok (n W : Nat) (hW : 1 ≤ W) (hW2 : W ≤ 32) (hn : n < 2 ^ W) : putL (n : Int) (W : Int) = bitL (n : Int) W 0 := by
  unfold putL; rw [putE_ok n W hW hW2 hn]; rfl
theorem bitL_two (n H L : Nat) (hn : n < 9223372036854775808) : bitL (n : Int) (H + L) 0 = bitL ((n / 2 ^ L : Nat) : Int) H 0 ++ bitL ((n % 2 ^ L : Nat) : Int) L 0 := by
  have hd : n / 2 ^ L < 9223372036854775808 := Nat.lt_of_le_of_lt (Nat.div_le_self _ _) hn
  have hm : n % 2 ^ L < 9223372036854775808 := Nat.lt_of_le_of_lt (Nat.mod_le _ _) hn
  apply List.ext_getElem
  · rw [List.length_append, bitL_length, bitL_length, bitL_length]; omega
  · intro i h1 h2
    rw [bitL_length] at h1
    have el : ∀ (m W : Nat) (hm : m < 9223372036854775808) (j : Nat) (hj : j < (bitL (m : Int) W 0).length), (bitL (m : Int) W 0)[j] = ((m / 2 ^ (W - 1 - j) % 2 : Nat) : Int) := by
      intro m W hm j hj
      simp only [bitL, List.getElem_map, List.getElem_range]
      exact bitv_nat m _ hm
    by_cases hi : i < H
    · rw [List.getElem_append_left (by rw [bitL_length]; omega), el n _ hn, el _ _ hd]
      congr 2
      rw [Nat.div_div_eq_div_mul, ← Nat.pow_add]
      congr 2; omega
    · rw [List.getElem_append_right (by rw [bitL_length]; omega), el n _ hn, el _ _ hm]
      have e : H + L - 1 - i = L - 1 - (i - (bitL ((n / 2 ^ L : Nat) : Int) H 0).length) := by rw [bitL_length]; omega
      rw [e]
      congr 1
      generalize hj : L - 1 - (i - (bitL ((n / 2 ^ L : Nat) : Int) H 0).length) = j
      have hjl : j + 1 ≤ L := by omega
      have : L = j + 1 + (L - j - 1) := by omega
      rw [this, Nat.pow_add]
      have hp : 2 ^ (j + 1) = 2 ^ j * 2 := rfl
      have hm1 : n % (2 ^ (j + 1) * 2 ^ (L - j - 1)) % 2 ^ (j + 1) = n % 2 ^ (j + 1) := Nat.mod_mul_right_mod _ _ _
      have q : ∀ m : Nat, m / 2 ^ j % 2 = m % 2 ^ (j + 1) / 2 ^ j := by
        intro m; rw [hp, Nat.mod_mul_right_div_self]
      rw [q n, q (n % _), hm1]
theorem bytes_some {l : List Int} (h : ∀ x ∈ l, bit x) (hl : l.length ≤ 10000) (k : Nat) (hk : l.length < k) : bits_Bytes.f k l = some ((List.range ((l.length + 7) / 8)).map (byte l), 0) := by
  unfold bits_Bytes.f
  have hb : l.any big = false := by
    rw [List.any_eq_false]; intro x hx
    have := h x hx
    unfold bit at this; unfold big; simp; omega
  rw [right_f l (by omega) k hk, hb, Option.bind_some, if_pos (by decide), if_pos (by omega)]
end Go.Proofs.Ytmajbcglpcagoaa.B
