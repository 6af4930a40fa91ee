/- Bursts of turned bits against the CRC-32, in plain words: a closed text leaves one register, a turned bit moves it by its own word. No condition but lengths. -/
import Derived.Test.YtkhpgjojbdgkfaaCCrc32
namespace Go.Proofs.Ytkhpgjojbdgkfaa.C
open Go Go.RowKit Go.Proofs.YtkhpgjojbdgkfaaW.PrintWords Go.Proofs.YtkhpgjojbdgkfaaW.PrintLast Go.Proofs.YtkhpgjojbdgkfaaW.PrintMore
set_option linter.unusedVariables false

theorem xor8c (a b : Int) (ha : 0 ≤ a ∧ a ≤ 255) (hb : 0 ≤ b ∧ b ≤ 255) : BitVec.ofInt 8 (Go.bits .xor .u8 a b) = BitVec.ofInt 8 a ^^^ BitVec.ofInt 8 b := by
  obtain ⟨m, rfl⟩ := Int.eq_ofNat_of_zero_le ha.1
  obtain ⟨n, rfl⟩ := Int.eq_ofNat_of_zero_le hb.1
  rw [Go.u8_xor_nat m n (by omega) (by omega)]
  apply BitVec.eq_of_toNat_eq
  rw [BitVec.toNat_xor, BitVec.ofInt_natCast, BitVec.ofInt_natCast, BitVec.ofInt_natCast, BitVec.toNat_ofNat, BitVec.toNat_ofNat, BitVec.toNat_ofNat, Nat.mod_eq_of_lt (show m < 2 ^ 8 by omega), Nat.mod_eq_of_lt (show n < 2 ^ 8 by omega)]
  exact Nat.mod_eq_of_lt (Nat.xor_lt_two_pow (by omega) (by omega))
theorem xor8c_in (a b : Int) (ha : 0 ≤ a ∧ a ≤ 255) (hb : 0 ≤ b ∧ b ≤ 255) : 0 ≤ Go.bits .xor .u8 a b ∧ Go.bits .xor .u8 a b ≤ 255 := by
  obtain ⟨m, rfl⟩ := Int.eq_ofNat_of_zero_le ha.1
  obtain ⟨n, rfl⟩ := Int.eq_ofNat_of_zero_le hb.1
  rw [Go.u8_xor_nat m n (by omega) (by omega)]
  have := Nat.xor_lt_two_pow (n := 8) (show m < 2 ^ 8 by omega) (show n < 2 ^ 8 by omega)
  omega
/-- What a closed text leaves. -/
def left32 : BitVec 32 := it rr 32 0xFFFFFFFF#32
def by8 (s : BitVec 32) (j : Nat) : BitVec 32 := ((s >>> (8 * j)).setWidth 8).setWidth 32
theorem up8 (x : BitVec 8) (j : Nat) (hj : j < 4) : it rr (8 * j) ((x.setWidth 32) <<< (8 * j)) = x.setWidth 32 := by
  rw [low_free]
  · apply BitVec.eq_of_getLsbD_eq
    intro i hi
    rw [BitVec.getLsbD_ushiftRight, BitVec.getLsbD_shiftLeft]
    by_cases h : i < 8
    · simp [show 8 * j + i < 32 by omega]
    · have : (x.setWidth 32).getLsbD i = false := by
        rw [BitVec.getLsbD_setWidth, BitVec.getLsbD_of_ge x i (by omega), Bool.and_false]
      simp [this]
  · intro i hi
    rw [BitVec.getLsbD_shiftLeft]
    simp [hi]
theorem word4 (s : BitVec 32) : by8 s 0 ^^^ by8 s 1 <<< 8 ^^^ by8 s 2 <<< 16 ^^^ by8 s 3 <<< 24 = s := by
  apply BitVec.eq_of_getLsbD_eq
  intro i hi
  unfold by8
  simp only [BitVec.getLsbD_xor, BitVec.getLsbD_shiftLeft, BitVec.getLsbD_setWidth, BitVec.getLsbD_ushiftRight]
  by_cases h1 : i < 8
  · simp [h1, hi, show i < 16 by omega, show i < 24 by omega]
  · by_cases h2 : i < 16
    · simp [h1, h2, hi, show i < 24 by omega, show i - 8 < 8 by omega, show 8 + (i - 8) = i by omega, show i - 8 < 32 by omega]
    · by_cases h3 : i < 24
      · simp [h1, h2, h3, hi, show ¬ i - 8 < 8 by omega, show i - 16 < 8 by omega, show 16 + (i - 16) = i by omega, show i - 16 < 32 by omega]
      · simp [h1, h2, h3, hi, show ¬ i - 8 < 8 by omega, show ¬ i - 16 < 8 by omega, show i - 24 < 8 by omega, show 24 + (i - 24) = i by omega, show i - 24 < 32 by omega]
theorem byte_of (s : BitVec 32) (j : Nat) (n : Nat) (hn : n = s.toNat / 2 ^ (8 * j) % 256) : (BitVec.ofInt 8 (n : Int)).setWidth 32 = by8 s j := by
  unfold by8
  congr 1
  apply BitVec.eq_of_toNat_eq
  rw [BitVec.ofInt_natCast, BitVec.toNat_ofNat, BitVec.toNat_setWidth, BitVec.toNat_ushiftRight, Nat.shiftRight_eq_div_pow, hn]
  omega
theorem fold_four (r s : BitVec 32) : (four s.toNat).foldl spI r = it rr 32 (r ^^^ s) := by
  unfold four
  simp only [List.foldl_cons, List.foldl_nil, spI, sp]
  rw [byte_of s 0 _ (by simp), byte_of s 1 _ (by simp), byte_of s 2 _ (by simp), byte_of s 3 _ (by simp)]
  have u1 := up8 ((s >>> (8 * 1)).setWidth 8) 1 (by omega)
  have u2 := up8 ((s >>> (8 * 2)).setWidth 8) 2 (by omega)
  have u3 := up8 ((s >>> (8 * 3)).setWidth 8) 3 (by omega)
  have u1 : by8 s 1 = it rr 8 (by8 s 1 <<< 8) := u1.symm
  have u2 : by8 s 2 = it rr 16 (by8 s 2 <<< 16) := u2.symm
  have u3 : by8 s 3 = it rr 24 (by8 s 3 <<< 24) := u3.symm
  rw [u1, u2, u3, ← itr_xor, ← it_add, show (8 + 8 : Nat) = 16 from rfl, ← itr_xor, ← it_add, show (8 + 16 : Nat) = 24 from rfl, ← itr_xor, ← it_add, show (8 + 24 : Nat) = 32 from rfl]
  congr 1
  conv => rhs; rw [← word4 s]
  simp only [BitVec.xor_assoc]
theorem reg_closed (d : List Int) : reg32 (d ++ four (sum32 d).toNat) = left32 := by
  show (d ++ four (sum32 d).toNat).foldl spI _ = _
  rw [List.foldl_append, fold_four]
  unfold left32
  congr 1
  show reg32 d ^^^ ~~~ (reg32 d) = _
  apply BitVec.eq_of_getLsbD_eq
  intro i hi
  rw [BitVec.getLsbD_xor, BitVec.getLsbD_not]
  have : (0xFFFFFFFF#32).getLsbD i = true := by
    have all : ∀ i : Fin 32, (0xFFFFFFFF#32).getLsbD i.val = true := by decide +kernel
    exact all ⟨i, hi⟩
  rw [this]
  cases (reg32 d).getLsbD i <;> simp [hi]
theorem closed_reg {l : List Int} (h : closed l) : reg32 l = left32 := by
  have e := reg_closed (l.take (l.length - 4))
  rw [h.2, List.take_append_drop] at e
  exact e
/-- One bit turned. -/
theorem one_bit32 (l : List Int) (hw : byt l) (q r : Nat) (hq : q < l.length) (hr : r < 8) :
    reg32 (l.set q (Go.bits .xor .u8 l[q] ((2 ^ r : Nat) : Int))) = reg32 l ^^^ it rr (8 * (l.length - q) - r) 1#32 := by
  have hx := hw l[q] (List.getElem_mem hq)
  have hb : 2 ^ r ≤ 128 := Nat.pow_le_pow_right (n := 2) (by decide) (show r ≤ 7 by omega)
  have e1 : l.set q (Go.bits .xor .u8 l[q] ((2 ^ r : Nat) : Int)) = l.take q ++ Go.bits .xor .u8 l[q] ((2 ^ r : Nat) : Int) :: l.drop (q + 1) := by
    rw [List.set_eq_take_append_cons_drop, if_pos hq]
  have e2 : l = l.take q ++ l[q] :: l.drop (q + 1) := by
    rw [← drop_cons l q hq, List.take_append_drop]
  rw [e1]
  conv => rhs; lhs; rw [e2]
  unfold reg32
  rw [List.foldl_append, List.foldl_append, List.foldl_cons, List.foldl_cons]
  generalize (l.take q).foldl spI 0xFFFFFFFF#32 = s
  have h1 : spI s (Go.bits .xor .u8 l[q] ((2 ^ r : Nat) : Int)) = spI s l[q] ^^^ it rr (8 - r) 1#32 := by
    unfold spI
    rw [xor8c _ _ hx ⟨Int.natCast_nonneg _, Int.le_trans (Int.ofNat_le.2 hb) (by decide)⟩]
    have h := sp_xor s 0#32 (BitVec.ofInt 8 l[q]) (BitVec.ofInt 8 ((2 ^ r : Nat) : Int))
    rw [BitVec.xor_zero] at h
    rw [h]
    congr 1
    have all : ∀ r : Fin 8, sp 0#32 (BitVec.ofInt 8 ((2 ^ r.val : Nat) : Int)) = it rr (8 - r.val) 1#32 := by decide +kernel
    exact all ⟨r, hr⟩
  rw [h1, fold_lin, ← it_add, List.length_drop, show 8 - r + 8 * (l.length - (q + 1)) = 8 * (l.length - q) - r by omega]
/-- The word of the turned bits, up to the j-th. -/
def W (t : Nat) : Nat → BitVec 32
  | 0 => 0#32
  | j + 1 => W t j ^^^ (if t.testBit j then 1#32 <<< j else 0#32)
theorem W_succ (t j : Nat) : W t (j + 1) = W t j ^^^ (if t.testBit j then 1#32 <<< j else 0#32) := rfl
theorem W_bit (t : Nat) (i : Nat) (hi : i < 32) : ∀ j : Nat, j ≤ 32 → (W t j).getLsbD i = (decide (i < j) && t.testBit i) := by
  intro j
  induction j with
  | zero => intro _; simp [W]
  | succ j ih =>
    intro hj
    have ih := ih (by omega)
    rw [W_succ, BitVec.getLsbD_xor, ih]
    have all : ∀ i j : Fin 32, (1#32 <<< j.val).getLsbD i.val = decide (i = j) := by decide +kernel
    by_cases e : i = j
    · subst e
      cases ht : t.testBit i with
      | true =>
        rw [if_pos rfl, all ⟨i, hi⟩ ⟨i, hi⟩]; simp
      | false => simp
    · have h2 := all ⟨i, hi⟩ ⟨j, by omega⟩
      cases ht : t.testBit j with
      | true =>
        rw [if_pos rfl, h2, show decide ((⟨i, hi⟩ : Fin 32) = ⟨j, by omega⟩) = false from by simpa using e, Bool.xor_false]
        congr 1
        rw [decide_eq_decide]; omega
      | false =>
        rw [if_neg (by decide), BitVec.getLsbD_zero, Bool.xor_false]
        congr 1
        rw [decide_eq_decide]; omega
theorem W_zero {t : Nat} (ht : t < 4294967296) (h : W t 32 = 0) : t = 0 := by
  apply Nat.eq_of_testBit_eq
  intro i
  rw [Nat.zero_testBit]
  by_cases hi : i < 32
  · have := W_bit t i hi 32 (by omega)
    rw [h] at this
    simpa [hi] using this.symm
  · exact Nat.testBit_lt_two_pow (Nat.lt_of_lt_of_le ht (by rw [show 4294967296 = 2 ^ 32 from rfl]; exact Nat.pow_le_pow_right (by decide) (by omega)))
theorem back32 (i : Nat) (hi : i < 32) : it rr (32 - i) 1#32 = it rr 32 (1#32 <<< i) := by
  have all : ∀ i : Fin 32, it rr (32 - i.val) 1#32 = it rr 32 (1#32 <<< i.val) := by decide +kernel
  exact all ⟨i, hi⟩
end Go.Proofs.Ytkhpgjojbdgkfaa.C
