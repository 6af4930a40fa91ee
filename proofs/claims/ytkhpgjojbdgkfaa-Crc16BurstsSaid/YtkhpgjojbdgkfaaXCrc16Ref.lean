/- The reference's CRC-16 is the same sum; Seal and Right in plain words. No condition. -/
import Derived.Test.YtkhpgjojbdgkfaaXCrc16
import Derived.Test.YtkhpgjojbdgkfaaXStr
import Derived.Test.YtkhpgjojbdgkfaaX18
import Derived.Test.YtkhpgjojbdgkfaaX19
import Derived.Test.YtkhpgjojbdgkfaaX20
import Derived.Test.YtkhpgjojbdgkfaaX21
import Derived.Test.YtkhpgjojbdgkfaaX22
import Derived.Test.YtkhpgjojbdgkfaaX23
namespace Go.Proofs.Ytkhpgjojbdgkfaa.X
open Go.RowKit Go.Proofs.YtkhpgjojbdgkfaaW.PrintWords Go.Proofs.YtkhpgjojbdgkfaaW.PrintLast Go.Proofs.YtkhpgjojbdgkfaaW.PrintMore
set_option linter.unusedVariables false

theorem xor64_nat (a b : Nat) (ha : a < 2 ^ 62) (hb : b < 2 ^ 62) : Go.bits .xor .i64 (a : Int) (b : Int) = ((a ^^^ b : Nat) : Int) := by
  have hx : a ^^^ b < 2 ^ 62 := Nat.xor_lt_two_pow ha hb
  show IntKind.i64.wrap ((BitVec.ofInt 64 (a : Int) ^^^ BitVec.ofInt 64 (b : Int)).toNat : Int) = _
  have ea : (BitVec.ofInt 64 (a : Int)).toNat = a := by rw [BitVec.ofInt_natCast, BitVec.toNat_ofNat]; exact Nat.mod_eq_of_lt (by omega)
  have eb : (BitVec.ofInt 64 (b : Int)).toNat = b := by rw [BitVec.ofInt_natCast, BitVec.toNat_ofNat]; exact Nat.mod_eq_of_lt (by omega)
  rw [BitVec.toNat_xor, ea, eb, IntKind.wrap_i64]
  omega
theorem xor64 (a b : BitVec 16) : Go.bits .xor .i64 (a.toNat : Int) (b.toNat : Int) = ((a ^^^ b).toNat : Int) := by
  have := a.isLt
  have := b.isLt
  rw [xor64_nat _ _ (by omega) (by omega), BitVec.toNat_xor]
theorem rstep (l : List Int) (i : Int) (d : Nat) : ∀ (k : Nat) (n : BitVec 16) (j : Int), j = 8 - (d : Int) → d ≤ 8 →
    shuttleref05_Sum.l1 (k + d + 1) l (n.toNat : Int) i j = shuttleref05_Sum.l0 k l ((it rnd d n).toNat : Int) (wrap64 (i + 1)) := by
  induction d with
  | zero =>
    intro k n j hj _
    simp only [shuttleref05_Sum.l1]
    rw [if_neg (by omega)]; rfl
  | succ d ih =>
    intro k n j hj hd
    have hn := n.isLt
    rw [show k + (d + 1) + 1 = (k + d + 1) + 1 from by omega]
    simp only [shuttleref05_Sum.l1]
    have e1 : wrap64 (Int.tdiv (n.toNat : Int) 32768) = ((n.toNat / 32768 : Nat) : Int) := by
      rw [Int.tdiv_eq_ediv_of_nonneg (by omega), wrap_in (by omega) (by omega)]; omega
    have e2 : Int.tmod (wrap64 ((n.toNat : Int) * 2)) 65536 = ((n <<< 1).toNat : Int) := by
      rw [wrap_in (by omega) (by omega), Int.tmod_eq_emod_of_nonneg (by omega), BitVec.toNat_shiftLeft, Nat.shiftLeft_eq]; omega
    rw [if_pos (by omega), e1, e2, wrap_in (n := j + 1) (by omega) (by omega), it_succ]
    have hm : n.msb = decide (2 ^ 15 ≤ n.toNat) := BitVec.msb_eq_decide n
    by_cases h : n.msb = true
    · have hx : Go.bits .xor .i64 ((n <<< 1).toNat : Int) 4129 = (((n <<< 1) ^^^ 0x1021#16).toNat : Int) := xor64 (n <<< 1) 0x1021#16
      have h15 : 2 ^ 15 ≤ n.toNat := by rw [hm] at h; exact of_decide_eq_true h
      rw [if_pos (by omega), hx, show rnd n = (n <<< 1) ^^^ 0x1021#16 from if_pos h]
      exact ih k _ (j + 1) (by omega) (by omega)
    · have h15 : ¬ 2 ^ 15 ≤ n.toNat := by rw [hm] at h; simpa using h
      rw [if_neg (by omega), show rnd n = n <<< 1 from if_neg h]
      exact ih k _ (j + 1) (by omega) (by omega)
theorem rsum_l0 (l : List Int) (hl : l.length ≤ 1000) (hw : ∀ x ∈ l, 0 ≤ x ∧ x ≤ 255) (d : Nat) : ∀ (k : Nat) (n : BitVec 16) (i : Nat), i + d = l.length → 10 * d < k →
    shuttleref05_Sum.l0 k l (n.toNat : Int) (i : Int) = some (((l.drop i).foldl stpI n).toNat : Int) := by
  induction d with
  | zero =>
    intro k n i hi hk
    obtain ⟨k, rfl⟩ := pred (show 0 < k by omega)
    have hn := n.isLt
    simp only [shuttleref05_Sum.l0]
    rw [if_neg (by omega), List.drop_eq_nil_of_le (by omega), IntKind.wrap_u16]
    congr 1
    show _ = (n.toNat : Int)
    omega
  | succ d ih =>
    intro k n i hi hk
    obtain ⟨k, rfl⟩ : ∃ m, k = m + 8 + 1 + 1 := ⟨k - 10, by omega⟩
    have hlt : i < l.length := by omega
    have hx := hw l[i] (List.getElem_mem hlt)
    simp only [shuttleref05_Sum.l0]
    rw [if_pos (by omega), if_pos (by omega), rd_get l i hlt]
    have e : wrap64 ((wrap64 l[i]) * 256) = ((((BitVec.ofInt 8 l[i]).setWidth 16) <<< 8).toNat : Int) := by
      obtain ⟨m, hm⟩ := Int.eq_ofNat_of_zero_le hx.1
      rw [hm] at hx ⊢
      rw [wrap_in (n := (m : Int)) (by omega) (by omega), wrap_in (by omega) (by omega), BitVec.toNat_shiftLeft, BitVec.toNat_setWidth, Nat.shiftLeft_eq, BitVec.ofInt_natCast, BitVec.toNat_ofNat]
      omega
    rw [e, xor64, rstep l i 8 k _ 0 rfl (by omega), wrap_succ i (by omega), drop_cons l i hlt]
    exact ih k _ (i + 1) (by omega) (by omega)
theorem rsum_f (l : List Int) (hl : l.length ≤ 1000) (hw : ∀ x ∈ l, 0 ≤ x ∧ x ≤ 255) (k : Nat) (hk : 10 * l.length < k) : shuttleref05_Sum.f k l = some ((sum16 l).toNat : Int) :=
  rsum_l0 l hl hw l.length k 0xFFFF#16 0 (by omega) hk
/-- The sum's two bytes. -/
def two (s : BitVec 16) : List Int := [(s.toNat : Int) / 256, (s.toNat : Int) % 256]
theorem two_in (s : BitVec 16) : ∀ x ∈ two s, 0 ≤ x ∧ x ≤ 255 := by
  have := s.isLt
  intro x hx
  simp only [two, List.mem_cons, List.not_mem_nil, or_false] at hx
  rcases hx with rfl | rfl <;> omega
theorem seal_f (l : List Int) (hl : l.length ≤ 1000) (hw : ∀ x ∈ l, 0 ≤ x ∧ x ≤ 255) (k : Nat) (hk : l.length + 10 ≤ k) : crc16_Seal.f k l = some (l ++ two (sum16 l)) := by
  unfold crc16_Seal.f slices_Clone_byte_byte.f
  have := (sum16 l).isLt
  rw [sum_f l (by omega) hw k hk, if_pos (by omega)]
  simp only [Option.bind_some, List.length_cons, List.length_nil]
  rw [if_pos (by omega), two, show ((sum16 l).toNat : Int) / 256 % 256 = ((sum16 l).toNat : Int) / 256 by omega]
theorem rseal_f (l : List Int) (hl : l.length ≤ 1000) (hw : ∀ x ∈ l, 0 ≤ x ∧ x ≤ 255) (k : Nat) (hk : 10 * l.length < k) : shuttleref05_Seal.f k l = some (l ++ two (sum16 l)) := by
  unfold shuttleref05_Seal.f
  have := (sum16 l).isLt
  rw [rsum_f l hl hw k hk]
  simp only [Option.bind_some, List.length_cons, List.length_nil, List.nil_append]
  rw [if_pos (by omega), if_pos (by omega), two, Int.tdiv_eq_ediv_of_nonneg (by omega), Int.tmod_eq_emod_of_nonneg (by omega), IntKind.wrap_u16,
    show ((sum16 l).toNat : Int) / 256 % 65536 % 256 = ((sum16 l).toNat : Int) / 256 by omega, show ((sum16 l).toNat : Int) % 256 % 256 = ((sum16 l).toNat : Int) % 256 by omega]
-- the register can be turned back
theorem rnd_zero {z : BitVec 16} (h : rnd z = 0) : z = 0 := by
  have hz := z.isLt
  have hm : z.msb = decide (2 ^ 15 ≤ z.toNat) := BitVec.msb_eq_decide z
  unfold rnd at h
  by_cases c : z.msb = true
  · rw [if_pos c] at h
    have h2 : z <<< 1 = 0x1021#16 := by
      have e : (z <<< 1 ^^^ 0x1021#16) ^^^ 0x1021#16 = 0 ^^^ 0x1021#16 := by rw [h]
      rw [BitVec.xor_assoc, BitVec.xor_self, BitVec.xor_zero] at e
      rw [e]; decide
    have h3 := congrArg BitVec.toNat h2
    rw [BitVec.toNat_shiftLeft, Nat.shiftLeft_eq] at h3
    have : (0x1021#16).toNat = 4129 := rfl
    omega
  · rw [if_neg c] at h
    have h3 := congrArg BitVec.toNat h
    rw [BitVec.toNat_shiftLeft, Nat.shiftLeft_eq] at h3
    have h0 : (0 : BitVec 16).toNat = 0 := rfl
    have hlt : ¬ 2 ^ 15 ≤ z.toNat := by rw [hm] at c; simpa using c
    apply BitVec.eq_of_toNat_eq
    omega
theorem it_zero (d : Nat) : ∀ {z : BitVec 16}, it rnd d z = 0 → z = 0 := by
  induction d with
  | zero => intro z h; exact h
  | succ d ih => intro z h; rw [it_succ] at h; exact rnd_zero (ih h)
theorem it_z (d : Nat) : it rnd d 0 = 0 := by
  induction d with
  | zero => rfl
  | succ d ih => rw [it_succ, show rnd 0 = 0 from by decide]; exact ih
theorem it_low : ∀ y : BitVec 8, it rnd 8 (y.setWidth 16) = y.setWidth 16 <<< 8 := by decide +kernel
theorem stp_two (s : BitVec 16) (x y : BitVec 8) : stp (stp s x) y = it rnd 16 (s ^^^ (x.setWidth 16 <<< 8) ^^^ y.setWidth 16) := by
  unfold stp
  rw [← it_low y, ← it_xor, ← it_add rnd 8 8]
theorem stp_end (s : BitVec 16) (x y : Int) (hx : 0 ≤ x ∧ x ≤ 255) (hy : 0 ≤ y ∧ y ≤ 255) : stpI (stpI s x) y = 0 ↔ [x, y] = two s := by
  have hs := s.isLt
  unfold stpI
  rw [stp_two]
  obtain ⟨a, rfl⟩ := Int.eq_ofNat_of_zero_le hx.1
  obtain ⟨b, rfl⟩ := Int.eq_ofNat_of_zero_le hy.1
  have ea : ((BitVec.ofInt 8 (a : Int)).setWidth 16 <<< 8).toNat = a * 256 := by
    rw [BitVec.toNat_shiftLeft, BitVec.toNat_setWidth, Nat.shiftLeft_eq, BitVec.ofInt_natCast, BitVec.toNat_ofNat]; omega
  have eb : ((BitVec.ofInt 8 (b : Int)).setWidth 16).toNat = b := by
    rw [BitVec.toNat_setWidth, BitVec.ofInt_natCast, BitVec.toNat_ofNat]; omega
  have eab : ((BitVec.ofInt 8 (a : Int)).setWidth 16 <<< 8 ^^^ (BitVec.ofInt 8 (b : Int)).setWidth 16).toNat = a * 256 + b := by
    rw [BitVec.toNat_xor, ea, eb, show a * 256 = 2 ^ 8 * a by omega]
    have hb : b < 2 ^ 8 := by omega
    have h1 := Nat.two_pow_add_eq_or_of_lt hb a
    have h2 : 2 ^ 8 * a &&& b = 0 := by
      apply Nat.eq_of_testBit_eq
      intro i
      rw [Nat.testBit_and, Nat.zero_testBit, Nat.testBit_two_pow_mul]
      by_cases hi : i < 8
      · simp; intro h8; omega
      · rw [Nat.testBit_lt_two_pow (Nat.lt_of_lt_of_le hb (Nat.pow_le_pow_right (by decide) (by omega)))]; simp
    have h3 : ∀ p q : Nat, p &&& q = 0 → p ^^^ q = p ||| q := by
      intro p q h
      apply Nat.eq_of_testBit_eq
      intro i
      have := congrArg (fun z => Nat.testBit z i) h
      simp only [Nat.testBit_and, Nat.zero_testBit] at this
      rw [Nat.testBit_xor, Nat.testBit_or]
      cases hp : p.testBit i <;> cases hq : q.testBit i <;> simp_all
    rw [h3 _ _ h2, ← h1]
  constructor
  · intro h
    have h0 := it_zero 16 h
    have e : s = (BitVec.ofInt 8 (a : Int)).setWidth 16 <<< 8 ^^^ (BitVec.ofInt 8 (b : Int)).setWidth 16 := by
      rw [BitVec.xor_assoc] at h0
      exact BitVec.xor_eq_zero_iff.1 h0
    have := congrArg BitVec.toNat e
    rw [eab] at this
    unfold two
    rw [this]
    congr 1
    · omega
    · congr 1; omega
  · intro h
    simp only [two, List.cons.injEq, and_true] at h
    have e : s = (BitVec.ofInt 8 (a : Int)).setWidth 16 <<< 8 ^^^ (BitVec.ofInt 8 (b : Int)).setWidth 16 := by
      apply BitVec.eq_of_toNat_eq
      rw [eab]; omega
    rw [BitVec.xor_assoc, ← e, BitVec.xor_self]
    exact it_z 16
/-- A text that ends in its sum has the sum 0, and no other. -/
theorem sum_end (l : List Int) (hw : ∀ x ∈ l, 0 ≤ x ∧ x ≤ 255) (h2 : 2 ≤ l.length) : sum16 l = 0 ↔ l.take (l.length - 2) ++ two (sum16 (l.take (l.length - 2))) = l := by
  obtain ⟨x, y, e⟩ : ∃ x y, l.drop (l.length - 2) = [x, y] := by
    have hl : (l.drop (l.length - 2)).length = 2 := by rw [List.length_drop]; omega
    generalize l.drop (l.length - 2) = m at hl
    match m, hl with
    | [x, y], _ => exact ⟨x, y, rfl⟩
  have hx : x ∈ l.drop (l.length - 2) := by rw [e]; exact List.mem_cons_self
  have hy : y ∈ l.drop (l.length - 2) := by rw [e]; exact List.mem_cons_of_mem _ List.mem_cons_self
  have hs : l = l.take (l.length - 2) ++ [x, y] := by rw [← e, List.take_append_drop]
  have key : sum16 l = stpI (stpI (sum16 (l.take (l.length - 2))) x) y := by
    conv => lhs; rw [hs]
    unfold sum16
    rw [List.foldl_append]; rfl
  rw [key, stp_end _ x y (hw x (List.mem_of_mem_drop hx)) (hw y (List.mem_of_mem_drop hy))]
  constructor
  · intro h; rw [← h]; exact hs.symm
  · intro h
    have := h.trans hs
    exact (List.append_cancel_left this).symm
theorem rightc_f (l : List Int) (hl : l.length ≤ 1000) (hw : ∀ x ∈ l, 0 ≤ x ∧ x ≤ 255) (k : Nat) (hk : l.length + 10 ≤ k) : crc16_Right.f k l = some (decide (2 ≤ l.length ∧ sum16 l = 0)) := by
  unfold crc16_Right.f
  by_cases h : 2 ≤ l.length
  · rw [if_pos (by omega), sum_f l (by omega) hw k hk]
    simp only [Option.bind_some, h, true_and]
    congr 1
    by_cases z : sum16 l = 0
    · rw [z]; rfl
    · rw [decide_eq_false z]
      refine beq_eq_false_iff_ne.2 fun e => z (BitVec.eq_of_toNat_eq ?_)
      have : (0 : BitVec 16).toNat = 0 := rfl
      omega
  · rw [if_neg (by omega), decide_eq_false (fun z => h z.1)]
theorem rrightc_f (l : List Int) (hl : l.length ≤ 1000) (hw : ∀ x ∈ l, 0 ≤ x ∧ x ≤ 255) (k : Nat) (hk : 10 * l.length < k) : shuttleref05_Right.f k l = some (decide (2 ≤ l.length ∧ sum16 l = 0)) := by
  unfold shuttleref05_Right.f
  by_cases h : 2 ≤ l.length
  · have e : wrap64 ((l.length : Int) - 2) = ((l.length - 2 : Nat) : Int) := by rw [wrap_in (by omega) (by omega)]; omega
    have hw2 : ∀ x ∈ l.take (l.length - 2), 0 ≤ x ∧ x ≤ 255 := fun x hx => hw x (List.mem_of_mem_take hx)
    rw [if_pos (by omega), e, if_pos (by omega), if_pos (by omega), show ((l.length - 2 : Nat) : Int).toNat = l.length - 2 by omega,
      rseal_f _ (by rw [List.length_take]; omega) hw2 k (by rw [List.length_take]; omega)]
    simp only [Option.bind_some]
    rw [str_beq (fun x hx => by rcases List.mem_append.1 hx with q | q; exact hw2 x q; exact two_in _ x q) hw]
    simp only [h, true_and]
    congr 1
    rw [decide_eq_decide]
    exact (sum_end l hw h).symm
  · rw [if_neg (by omega), decide_eq_false (fun z => h z.1)]

end Go.Proofs.Ytkhpgjojbdgkfaa.X
