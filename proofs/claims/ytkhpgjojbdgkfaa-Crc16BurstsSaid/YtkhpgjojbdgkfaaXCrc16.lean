/- What crc16.Sum comes to, as a fold over 16-bit vectors; that it is linear. No condition. -/
import Derived.Test.YtkhpgjojbdgkfaaXPlain
import Derived.Test.YtkhpgjojbdgkfaaX1
import Derived.Test.YtkhpgjojbdgkfaaX2
import Derived.Test.YtkhpgjojbdgkfaaX3
namespace Go.Proofs.Ytkhpgjojbdgkfaa.X
open Go.RowKit Go.Proofs.YtkhpgjojbdgkfaaW.PrintWords Go.Proofs.YtkhpgjojbdgkfaaW.PrintLast Go.Proofs.YtkhpgjojbdgkfaaW.PrintMore
set_option linter.unusedVariables false

/-- One round of the register. -/
def rnd (n : BitVec 16) : BitVec 16 := if n.msb then (n <<< 1) ^^^ 0x1021#16 else n <<< 1
def stp (n : BitVec 16) (c : BitVec 8) : BitVec 16 := it rnd 8 (n ^^^ (c.setWidth 16 <<< 8))
def stpI (n : BitVec 16) (c : Int) : BitVec 16 := stp n (BitVec.ofInt 8 c)
def sum16 (l : List Int) : BitVec 16 := l.foldl stpI 0xFFFF#16

theorem and_top (n : BitVec 16) : (Go.bits .and .u16 (n.toNat : Int) 32768 = 0) ↔ n.msb = false := by
  have h := Go.u16_and_nat n.toNat 32768 n.isLt (by decide)
  have e : ((32768 : Nat) : Int) = 32768 := rfl
  rw [e] at h
  rw [h, show (32768 : Nat) = 2 ^ 15 from rfl, Go.nat_bit, BitVec.msb_eq_decide]
  have := n.isLt
  simp only [decide_eq_false_iff_not]
  omega
theorem dbl16 (n : BitVec 16) : IntKind.u16.wrap ((n.toNat : Int) * 2) = ((n <<< 1).toNat : Int) := by
  rw [IntKind.wrap_u16, BitVec.toNat_shiftLeft, Nat.shiftLeft_eq]
  omega
theorem xor16 (a b : BitVec 16) : Go.bits .xor .u16 (a.toNat : Int) (b.toNat : Int) = ((a ^^^ b).toNat : Int) := by
  rw [Go.u16_xor_nat _ _ a.isLt b.isLt, BitVec.toNat_xor]
theorem step_l0 (d : Nat) : ∀ (k : Nat) (n : BitVec 16) (i : Int), i = 8 - (d : Int) → d ≤ 8 → d < k →
    crc16_step.l0 k (n.toNat : Int) i = some ((it rnd d n).toNat : Int) := by
  induction d with
  | zero =>
    intro k n i hi _ hk
    obtain ⟨k, rfl⟩ := pred hk
    simp only [crc16_step.l0]
    rw [if_neg (by omega)]; rfl
  | succ d ih =>
    intro k n i hi hd hk
    obtain ⟨k, rfl⟩ := pred hk
    simp only [crc16_step.l0]
    rw [if_pos (by omega), dbl16, show wrap64 (i + 1) = i + 1 from wrap_in (by omega) (by omega)]
    by_cases hm : n.msb = true
    · have hx : Go.bits .xor .u16 ((n <<< 1).toNat : Int) 4129 = (((n <<< 1) ^^^ 0x1021#16).toNat : Int) := xor16 (n <<< 1) 0x1021#16
      rw [if_neg (fun h => by rw [(and_top n).1 h] at hm; cases hm), hx, it_succ, show rnd n = (n <<< 1) ^^^ 0x1021#16 from if_pos hm]
      exact ih k _ (i + 1) (by omega) (by omega) (by omega)
    · have hm' : n.msb = false := by simpa using hm
      rw [if_pos ((and_top n).2 hm'), it_succ, show rnd n = n <<< 1 from if_neg hm]
      exact ih k _ (i + 1) (by omega) (by omega) (by omega)
theorem step_f (k : Nat) (n : BitVec 16) (c : Int) (hc : 0 ≤ c ∧ c ≤ 255) (hk : 8 < k) : crc16_step.f k (n.toNat : Int) c = some ((stpI n c).toNat : Int) := by
  unfold crc16_step.f
  have e : IntKind.u16.wrap ((IntKind.u16.wrap c) * 256) = ((((BitVec.ofInt 8 c).setWidth 16) <<< 8).toNat : Int) := by
    obtain ⟨m, rfl⟩ := Int.eq_ofNat_of_zero_le hc.1
    rw [IntKind.wrap_u16, IntKind.wrap_u16, BitVec.toNat_shiftLeft, BitVec.toNat_setWidth, Nat.shiftLeft_eq, BitVec.ofInt_natCast, BitVec.toNat_ofNat]
    omega
  rw [e, xor16]
  exact step_l0 8 k _ 0 rfl (by omega) hk
theorem sum_l0 (l : List Int) (hlen : l.length ≤ 140737488355328) (hw : ∀ x ∈ l, 0 ≤ x ∧ x ≤ 255) (d : Nat) : ∀ (k : Nat) (n : BitVec 16) (i : Nat), i + d = l.length → d + 10 ≤ k →
    crc16_Sum.l0 k (n.toNat : Int) l (l.length : Int) (i : Int) = some (((l.drop i).foldl stpI n).toNat : Int) := by
  induction d with
  | zero =>
    intro k n i hi hk
    obtain ⟨k, rfl⟩ := pred (show 0 < k by omega)
    simp only [crc16_Sum.l0]
    rw [if_neg (by omega), List.drop_eq_nil_of_le (by omega)]; rfl
  | succ d ih =>
    intro k n i hi hk
    obtain ⟨k, rfl⟩ := pred (show 0 < k by omega)
    have hlt : i < l.length := by omega
    simp only [crc16_Sum.l0]
    rw [if_pos (by omega), if_pos (by omega), if_pos (by omega), rd_get l i hlt, step_f k n _ (hw _ (List.getElem_mem hlt)) (by omega)]
    simp only [Option.bind_some]
    rw [wrap_succ i (by omega), drop_cons l i hlt]
    exact ih k _ (i + 1) (by omega) (by omega)
theorem sum_f (l : List Int) (hlen : l.length ≤ 140737488355328) (hw : ∀ x ∈ l, 0 ≤ x ∧ x ≤ 255) (k : Nat) (hk : l.length + 10 ≤ k) : crc16_Sum.f k l = some ((sum16 l).toNat : Int) := by
  have := sum_l0 l hlen hw l.length k 0xFFFF#16 0 (by omega) hk
  exact this
theorem sums_f (k : Nat) (hk : 19 ≤ k) : shuttlelaw05_sums.f k = some true := by
  unfold shuttlelaw05_sums.f
  rw [sum_f [49, 50, 51, 52, 53, 54, 55, 56, 57] (by decide) (by decide) k (by simpa using hk)]
  simp only [Option.bind_some]
  have : ((sum16 [49, 50, 51, 52, 53, 54, 55, 56, 57]).toNat : Int) = 10673 := by decide +kernel
  rw [this]; rfl
-- linear
theorem rnd_xor (a b : BitVec 16) : rnd (a ^^^ b) = rnd a ^^^ rnd b := by
  unfold rnd
  rw [BitVec.msb_xor, BitVec.shiftLeft_xor_distrib]
  cases ha : a.msb <;> cases hb : b.msb <;> simp
  · ac_rfl
  · ac_rfl
  · generalize a <<< 1 = x
    generalize b <<< 1 = y
    rw [show x ^^^ 4129#16 ^^^ (y ^^^ 4129#16) = (x ^^^ y) ^^^ (4129#16 ^^^ 4129#16) by ac_rfl]
    simp
theorem it_xor (d : Nat) : ∀ a b : BitVec 16, it rnd d (a ^^^ b) = it rnd d a ^^^ it rnd d b := by
  induction d with
  | zero => intro a b; rfl
  | succ d ih => intro a b; rw [it_succ, it_succ, it_succ, rnd_xor, ih]
theorem stp_xor (a b : BitVec 16) (c d : BitVec 8) : stp (a ^^^ b) (c ^^^ d) = stp a c ^^^ stp b d := by
  unfold stp
  rw [← it_xor]
  congr 1
  rw [BitVec.setWidth_xor, BitVec.shiftLeft_xor_distrib]
  ac_rfl
theorem xor8 (a b : Int) (ha : 0 ≤ a ∧ a ≤ 255) (hb : 0 ≤ b ∧ b ≤ 255) : BitVec.ofInt 8 (Go.bits .xor .u8 a b) = BitVec.ofInt 8 a ^^^ BitVec.ofInt 8 b := by
  obtain ⟨m, rfl⟩ := Int.eq_ofNat_of_zero_le ha.1
  obtain ⟨n, rfl⟩ := Int.eq_ofNat_of_zero_le hb.1
  rw [Go.u8_xor_nat m n (by omega) (by omega)]
  apply BitVec.eq_of_toNat_eq
  rw [BitVec.toNat_xor, BitVec.ofInt_natCast, BitVec.ofInt_natCast, BitVec.ofInt_natCast, BitVec.toNat_ofNat, BitVec.toNat_ofNat, BitVec.toNat_ofNat, Nat.mod_eq_of_lt (show m < 2 ^ 8 by omega), Nat.mod_eq_of_lt (show n < 2 ^ 8 by omega)]
  exact Nat.mod_eq_of_lt (Nat.xor_lt_two_pow (by omega) (by omega))
theorem xor8_in (a b : Int) (ha : 0 ≤ a ∧ a ≤ 255) (hb : 0 ≤ b ∧ b ≤ 255) : 0 ≤ Go.bits .xor .u8 a b ∧ Go.bits .xor .u8 a b ≤ 255 := by
  obtain ⟨m, rfl⟩ := Int.eq_ofNat_of_zero_le ha.1
  obtain ⟨n, rfl⟩ := Int.eq_ofNat_of_zero_le hb.1
  rw [Go.u8_xor_nat m n (by omega) (by omega)]
  have := Nat.xor_lt_two_pow (n := 8) (show m < 2 ^ 8 by omega) (show n < 2 ^ 8 by omega)
  omega

end Go.Proofs.Ytkhpgjojbdgkfaa.X
