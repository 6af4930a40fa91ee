/- The CRC-32's register in plain words: by bits, by bytes, by half bytes and a table; that it is linear and can be turned back. No condition. -/
import Derived.Test.YtkhpgjojbdgkfaaDPlain
namespace Go.Proofs.Ytkhpgjojbdgkfaa.D
open Go.RowKit Go.Proofs.YtkhpgjojbdgkfaaW.PrintWords Go.Proofs.YtkhpgjojbdgkfaaW.PrintLast Go.Proofs.YtkhpgjojbdgkfaaW.PrintMore
set_option linter.unusedVariables false

/-- One round of the register. -/
def rr (n : BitVec 32) : BitVec 32 := if n.getLsbD 0 then (n >>> 1) ^^^ 0xEDB88320#32 else n >>> 1
def sp (n : BitVec 32) (c : BitVec 8) : BitVec 32 := it rr 8 (n ^^^ c.setWidth 32)
def spI (n : BitVec 32) (c : Int) : BitVec 32 := sp n (BitVec.ofInt 8 c)
/-- The register behind a text; the sum is its complement. -/
def reg32 (l : List Int) : BitVec 32 := l.foldl spI 0xFFFFFFFF#32
def sum32 (l : List Int) : BitVec 32 := ~~~ (reg32 l)
theorem rr_xor (a b : BitVec 32) : rr (a ^^^ b) = rr a ^^^ rr b := by
  unfold rr
  rw [BitVec.getLsbD_xor, BitVec.ushiftRight_xor_distrib]
  cases ha : a.getLsbD 0 <;> cases hb : b.getLsbD 0 <;> simp
  · ac_rfl
  · ac_rfl
  · generalize a >>> 1 = x
    generalize b >>> 1 = y
    rw [show x ^^^ 3988292384#32 ^^^ (y ^^^ 3988292384#32) = (x ^^^ y) ^^^ (3988292384#32 ^^^ 3988292384#32) by ac_rfl]
    simp
theorem itr_xor (d : Nat) : ∀ a b : BitVec 32, it rr d (a ^^^ b) = it rr d a ^^^ it rr d b := by
  induction d with
  | zero => intro a b; rfl
  | succ d ih => intro a b; rw [it_succ, it_succ, it_succ, rr_xor, ih]
theorem sp_xor (a b : BitVec 32) (c d : BitVec 8) : sp (a ^^^ b) (c ^^^ d) = sp a c ^^^ sp b d := by
  unfold sp
  rw [← itr_xor]
  congr 1
  rw [BitVec.setWidth_xor]
  ac_rfl
theorem rr_z : rr 0 = 0 := by decide
theorem itr_z (d : Nat) : it rr d 0 = 0 := by
  induction d with
  | zero => rfl
  | succ d ih => rw [it_succ, rr_z]; exact ih
-- half a byte by a table
theorem low_free (d : Nat) : ∀ n : BitVec 32, (∀ i, i < d → n.getLsbD i = false) → it rr d n = n >>> d := by
  induction d with
  | zero => intro n _; show n = _; rw [BitVec.ushiftRight_zero]
  | succ d ih =>
    intro n h
    have h0 := h 0 (by omega)
    have e : rr n = n >>> 1 := by unfold rr; rw [h0]; rfl
    rw [it_succ, e, ih]
    · rw [← BitVec.shiftRight_add]; congr 1; omega
    · intro i hi
      rw [BitVec.getLsbD_ushiftRight]
      rw [Nat.add_comm]; exact h (i + 1) (by omega)
theorem half (n : BitVec 32) : it rr 4 n = (n >>> 4) ^^^ it rr 4 (n &&& 15#32) := by
  have e : n = (n &&& ~~~ 15#32) ^^^ (n &&& 15#32) := by
    apply BitVec.eq_of_getLsbD_eq
    intro i hi
    rw [BitVec.getLsbD_xor, BitVec.getLsbD_and, BitVec.getLsbD_and, BitVec.getLsbD_not]
    cases n.getLsbD i <;> cases (15#32).getLsbD i <;> simp [hi]
  have z : ∀ i, i < 4 → (n &&& ~~~ 15#32).getLsbD i = false := by
    intro i hi
    rw [BitVec.getLsbD_and]
    have : (~~~ 15#32).getLsbD i = false := by
      obtain rfl | rfl | rfl | rfl : i = 0 ∨ i = 1 ∨ i = 2 ∨ i = 3 := by omega
      all_goals decide
    rw [this, Bool.and_false]
  conv => lhs; rw [e, itr_xor, low_free 4 _ z]
  congr 1
  apply BitVec.eq_of_getLsbD_eq
  intro i hi
  rw [BitVec.getLsbD_ushiftRight, BitVec.getLsbD_ushiftRight, BitVec.getLsbD_and]
  by_cases h : 4 + i < 32
  · have : (~~~ 15#32).getLsbD (4 + i) = true := by
      have all : ∀ j : Fin 28, (~~~ 15#32).getLsbD (4 + j.val) = true := by decide +kernel
      exact all ⟨i, by omega⟩
    rw [this, Bool.and_true]
  · rw [BitVec.getLsbD_of_ge _ _ (by omega), Bool.false_and]
-- bit by bit
def bt (b : Bool) : BitVec 32 := if b then 1#32 else 0#32
def r1 (n : BitVec 32) (b : Bool) : BitVec 32 := rr (n ^^^ bt b)
theorem bt_xor (a b : Bool) : bt (a ^^ b) = bt a ^^^ bt b := by cases a <;> cases b <;> decide
theorem r1_xor (a b : BitVec 32) (x y : Bool) : r1 (a ^^^ b) (x ^^ y) = r1 a x ^^^ r1 b y := by
  unfold r1
  rw [← rr_xor, bt_xor]
  congr 1; ac_rfl
def bits8 (c : BitVec 8) : List Bool := [c.getLsbD 0, c.getLsbD 1, c.getLsbD 2, c.getLsbD 3, c.getLsbD 4, c.getLsbD 5, c.getLsbD 6, c.getLsbD 7]
theorem byte_bits (n : BitVec 32) (c : BitVec 8) : (bits8 c).foldl r1 n = sp n c := by
  have h0 : ∀ c : BitVec 8, (bits8 c).foldl r1 0#32 = sp 0#32 c := by decide +kernel
  have lin : ∀ (l : List Bool) (a b : BitVec 32), l.foldl r1 (a ^^^ b) = it rr l.length a ^^^ l.foldl r1 b := by
    intro l
    induction l with
    | nil => intro a b; rfl
    | cons x l ih =>
      intro a b
      have : r1 (a ^^^ b) x = rr a ^^^ r1 b x := by
        have := r1_xor a b false x
        rw [Bool.false_xor] at this
        rw [this]; congr 1; unfold r1 bt; simp
      rw [List.foldl_cons, List.foldl_cons, this, ih, List.length_cons, it_succ]
  have := lin (bits8 c) n 0#32
  rw [BitVec.xor_zero] at this
  rw [this, h0]
  unfold sp
  rw [BitVec.zero_xor, show (bits8 c).length = 8 from rfl, ← itr_xor]
-- turned back
theorem rr_zero {z : BitVec 32} (h : rr z = 0) : z = 0 := by
  unfold rr at h
  by_cases c : z.getLsbD 0 = true
  · rw [if_pos c] at h
    have h2 : z >>> 1 = 0xEDB88320#32 := by
      have e : (z >>> 1 ^^^ 0xEDB88320#32) ^^^ 0xEDB88320#32 = 0 ^^^ 0xEDB88320#32 := by rw [h]
      rw [BitVec.xor_assoc, BitVec.xor_self, BitVec.xor_zero] at e
      rw [e]; decide
    have h3 := congrArg BitVec.toNat h2
    rw [BitVec.toNat_ushiftRight, Nat.shiftRight_eq_div_pow] at h3
    have : (0xEDB88320#32).toNat = 3988292384 := rfl
    have := z.isLt
    omega
  · rw [if_neg c] at h
    have h3 := congrArg BitVec.toNat h
    rw [BitVec.toNat_ushiftRight, Nat.shiftRight_eq_div_pow] at h3
    have h0 : (0 : BitVec 32).toNat = 0 := rfl
    apply BitVec.eq_of_toNat_eq
    have : z.toNat.testBit 0 = false := by simpa [BitVec.getLsbD] using c
    rw [Nat.testBit_zero] at this
    have : z.toNat % 2 ≠ 1 := by simpa using this
    omega
theorem itr_zero (d : Nat) : ∀ {z : BitVec 32}, it rr d z = 0 → z = 0 := by
  induction d with
  | zero => intro z h; exact h
  | succ d ih => intro z h; rw [it_succ] at h; exact rr_zero (ih h)
theorem fold_lin (t : List Int) : ∀ n d : BitVec 32, t.foldl spI (n ^^^ d) = t.foldl spI n ^^^ it rr (8 * t.length) d := by
  induction t with
  | nil => intro n d; rfl
  | cons c t ih =>
    intro n d
    rw [List.foldl_cons, List.foldl_cons, List.length_cons, show 8 * (t.length + 1) = 8 + 8 * t.length by omega, it_add]
    have : spI (n ^^^ d) c = spI n c ^^^ it rr 8 d := by
      have h := sp_xor n d (BitVec.ofInt 8 c) 0#8
      rw [BitVec.xor_zero] at h
      unfold spI
      rw [h]
      unfold sp
      congr 2
      rw [show BitVec.setWidth 32 0#8 = 0#32 from by decide, BitVec.xor_zero]
    rw [this, ih]
end Go.Proofs.Ytkhpgjojbdgkfaa.D
