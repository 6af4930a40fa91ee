/- Crc16Bursts: what is sealed is right; with some of up to 16 bits side by side turned it isn't; no condition. -/
import Derived.Test.YtkhpgjojbdgkfaaXCrc16Ref
import Derived.Test.YtkhpgjojbdgkfaaX25
namespace Go.Proofs.Ytkhpgjojbdgkfaa.Pure
open Go.RowKit Go.Proofs.Ytkhpgjojbdgkfaa.X Go.Proofs.YtkhpgjojbdgkfaaW.PrintWords Go.Proofs.YtkhpgjojbdgkfaaW.PrintLast Go.Proofs.YtkhpgjojbdgkfaaW.PrintMore
set_option linter.unusedVariables false

theorem mn_nat (a b : Nat) : mn (a : Int) (b : Int) = ((min a b : Nat) : Int) := by unfold mn; split <;> omega
theorem fold_xor (t : List Int) : ∀ n d : BitVec 16, t.foldl stpI (n ^^^ d) = t.foldl stpI n ^^^ it rnd (8 * t.length) d := by
  induction t with
  | nil => intro n d; rfl
  | cons c t ih =>
    intro n d
    rw [List.foldl_cons, List.foldl_cons, List.length_cons, show 8 * (t.length + 1) = 8 + 8 * t.length by omega, it_add]
    have : stpI (n ^^^ d) c = stpI n c ^^^ it rnd 8 d := by
      have h := stp_xor n d (BitVec.ofInt 8 c) 0#8
      rw [BitVec.xor_zero] at h
      unfold stpI
      rw [h]
      unfold stp
      congr 2
      rw [show (BitVec.setWidth 16 0#8) <<< 8 = 0#16 from by decide, BitVec.xor_zero]
    rw [this, ih]
/-- One bit turned. -/
theorem one_bit (l : List Int) (hw : ∀ x ∈ l, 0 ≤ x ∧ x ≤ 255) (q r : Nat) (hq : q < l.length) (hr : r < 8) :
    sum16 (l.set q (Go.bits .xor .u8 l[q] ((128 / 2 ^ r : Nat) : Int))) = sum16 l ^^^ it rnd (8 * (l.length - q) - r) 0x8000#16 := by
  have hx := hw l[q] (List.getElem_mem hq)
  have hb : 128 / 2 ^ r ≤ 128 := Nat.div_le_self _ _
  have e1 : l.set q (Go.bits .xor .u8 l[q] ((128 / 2 ^ r : Nat) : Int)) = l.take q ++ Go.bits .xor .u8 l[q] ((128 / 2 ^ r : Nat) : Int) :: l.drop (q + 1) := by
    rw [List.set_eq_take_append_cons_drop, if_pos hq]
  have e2 : l = l.take q ++ l[q] :: l.drop (q + 1) := by
    rw [← drop_cons l q hq, List.take_append_drop]
  rw [e1]
  conv => rhs; lhs; rw [e2]
  unfold sum16
  rw [List.foldl_append, List.foldl_append, List.foldl_cons, List.foldl_cons]
  generalize (l.take q).foldl stpI 0xFFFF#16 = s
  have h1 : stpI s (Go.bits .xor .u8 l[q] ((128 / 2 ^ r : Nat) : Int)) = stpI s l[q] ^^^ it rnd (8 - r) 0x8000#16 := by
    unfold stpI
    rw [xor8 _ _ hx ⟨Int.natCast_nonneg _, Int.le_trans (Int.ofNat_le.2 hb) (by decide)⟩]
    have h := stp_xor s 0#16 (BitVec.ofInt 8 l[q]) (BitVec.ofInt 8 ((128 / 2 ^ r : Nat) : Int))
    rw [BitVec.xor_zero] at h
    rw [h]
    congr 1
    have all : ∀ r : Fin 8, stp 0#16 (BitVec.ofInt 8 ((128 / 2 ^ r.val : Nat) : Int)) = it rnd (8 - r.val) 0x8000#16 := by decide +kernel
    exact all ⟨r, hr⟩
  rw [h1, fold_xor, ← it_add, List.length_drop, show 8 - r + 8 * (l.length - (q + 1)) = 8 * (l.length - q) - r by omega]
/-- The word of the turned bits, up to the j-th. -/
def W (t : Nat) : Nat → BitVec 16
  | 0 => 0#16
  | j + 1 => W t j ^^^ (if t.testBit j then 0x8000#16 >>> j else 0#16)
theorem W_succ (t j : Nat) : W t (j + 1) = W t j ^^^ (if t.testBit j then 0x8000#16 >>> j else 0#16) := rfl
theorem W_bit (t : Nat) (i : Nat) (hi : i < 16) : ∀ j : Nat, j ≤ 16 → (W t j).getLsbD (15 - i) = (decide (i < j) && t.testBit i) := by
  intro j
  induction j with
  | zero => intro _; simp [W]
  | succ j ih =>
    intro hj
    have ih := ih (by omega)
    rw [W_succ, BitVec.getLsbD_xor, ih]
    have all : ∀ i j : Fin 16, (0x8000#16 >>> j.val).getLsbD (15 - i.val) = decide (i = j) := by decide +kernel
    by_cases e : i = j
    · subst e
      cases ht : t.testBit i with
      | true =>
        rw [if_pos rfl, all ⟨i, hi⟩ ⟨i, hi⟩]; simp
      | false => simp
    · have h2 := all ⟨i, hi⟩ ⟨j, by omega⟩
      cases ht : t.testBit j with
      | true =>
        rw [if_pos rfl, h2, show decide ((⟨i, hi⟩ : Fin 16) = ⟨j, by omega⟩) = false from by simpa using e, Bool.xor_false]
        congr 1
        rw [decide_eq_decide]; omega
      | false =>
        rw [if_neg (by decide), BitVec.getLsbD_zero, Bool.xor_false]
        congr 1
        rw [decide_eq_decide]; omega
theorem W_zero {t : Nat} (ht : t < 65536) (h : W t 16 = 0) : t = 0 := by
  apply Nat.eq_of_testBit_eq
  intro i
  rw [Nat.zero_testBit]
  by_cases hi : i < 16
  · have := W_bit t i hi 16 (by omega)
    rw [h] at this
    simpa [hi] using this.symm
  · exact Nat.testBit_lt_two_pow (Nat.lt_of_lt_of_le ht (by rw [show 65536 = 2 ^ 16 from rfl]; exact Nat.pow_le_pow_right (by decide) (by omega)))
theorem back (i : Nat) (hi : i < 16) : it rnd (16 - i) 0x8000#16 = it rnd 16 (0x8000#16 >>> i) := by
  have all : ∀ i : Fin 16, it rnd (16 - i.val) 0x8000#16 = it rnd 16 (0x8000#16 >>> i.val) := by decide +kernel
  exact all ⟨i, hi⟩
theorem bit_asked (t i : Nat) (ht : t < 65536) (hi : i < 16) : (Go.bits .and .u16 (shr .u16 (t : Int) (i : Int)) 1 = 1) ↔ t.testBit i = true := by
  have e : shr .u16 (t : Int) (i : Int) = ((t / 2 ^ i : Nat) : Int) := by
    unfold shr
    rw [show min ((i : Int)).toNat IntKind.u16.bits = i from by simp [IntKind.bits]; omega]
    rw [show ((2 : Int) ^ i) = ((2 ^ i : Nat) : Int) from by simp]
    exact (Int.natCast_ediv _ _).symm
  have h1 : t / 2 ^ i < 65536 := Nat.lt_of_le_of_lt (Nat.div_le_self _ _) ht
  rw [e, show (1 : Int) = ((1 : Nat) : Int) from rfl, Go.u16_and_nat _ 1 h1 (by decide), Go.nat_mask1, Nat.testBit_eq_decide_div_mod_eq]
  simp only [decide_eq_true_eq]
  omega
theorem shr_byte (r : Nat) (hr : r < 8) : shr .u8 128 (r : Int) = ((128 / 2 ^ r : Nat) : Int) := by
  have all : ∀ r : Fin 8, shr .u8 128 ((r.val : Nat) : Int) = ((128 / 2 ^ r.val : Nat) : Int) := by decide +kernel
  exact all ⟨r, hr⟩
theorem bursts_l0 (t : Nat) (ht : t < 65536) (h0 : t ≠ 0) (m k0 : Nat) (hm : m ≤ 200) (h2 : 2 ≤ m) (hk0 : k0 + 16 ≤ 8 * m) (d : Nat) : ∀ (k i : Nat) (l : List Int), i + d = 16 → d + 300 ≤ k →
    l.length = m → (∀ x ∈ l, 0 ≤ x ∧ x ≤ 255) → sum16 l = it rnd (8 * m - k0 - 16) (it rnd 16 (W t i)) →
    shuttlelaw05_Crc16Bursts.l0 k (t : Int) l (k0 : Int) (i : Int) = some true := by
  induction d with
  | zero =>
    intro k i l hi hk hl hw hs
    obtain ⟨k, rfl⟩ := pred (show 0 < k by omega)
    obtain rfl : i = 16 := by omega
    simp only [shuttlelaw05_Crc16Bursts.l0]
    rw [if_neg (by omega), rightc_f l (by omega) hw k (by omega)]
    simp only [Option.bind_some]
    rw [decide_eq_false]
    · rfl
    · rintro ⟨_, z⟩
      rw [hs] at z
      exact h0 (W_zero ht (it_zero 16 (it_zero _ z)))
  | succ d ih =>
    intro k i l hi hk hl hw hs
    obtain ⟨k, rfl⟩ := pred (show 0 < k by omega)
    simp only [shuttlelaw05_Crc16Bursts.l0]
    rw [if_pos (by omega), if_pos (by omega)]
    have e8 : wrap64 ((k0 : Int) + (i : Int)) = ((k0 + i : Nat) : Int) := by rw [wrap_in (by omega) (by omega)]; omega
    have eq : wrap64 (Int.tdiv ((k0 + i : Nat) : Int) 8) = (((k0 + i) / 8 : Nat) : Int) := by
      rw [Int.tdiv_eq_ediv_of_nonneg (by omega), wrap_in (by omega) (by omega)]; omega
    have er : Int.tmod ((k0 + i : Nat) : Int) 8 = (((k0 + i) % 8 : Nat) : Int) := by
      rw [Int.tmod_eq_emod_of_nonneg (by omega)]; omega
    have hq : (k0 + i) / 8 < l.length := by omega
    rw [e8, eq, er, wrap_succ i (by omega)]
    by_cases hb : t.testBit i = true
    · rw [if_pos ((bit_asked t i ht (by omega)).2 hb), if_pos (by omega), if_pos (by omega), if_pos (by omega), rd_get l _ hq, shr_byte _ (by omega),
        show (((k0 + i) / 8 : Nat) : Int).toNat = (k0 + i) / 8 by omega]
      have hone := one_bit l hw ((k0 + i) / 8) ((k0 + i) % 8) hq (by omega)
      refine ih k (i + 1) _ (by omega) (by omega) (by rw [List.length_set]; exact hl) ?_ ?_
      · intro x hx
        rcases List.mem_or_eq_of_mem_set hx with h | h
        · exact hw x h
        · subst h
          exact xor8_in _ _ (hw _ (List.getElem_mem hq)) ⟨Int.natCast_nonneg _, Int.le_trans (Int.ofNat_le.2 (Nat.div_le_self _ _)) (by decide)⟩
      · rw [hone, hs, hl, show 8 * (m - (k0 + i) / 8) - (k0 + i) % 8 = (16 - i) + (8 * m - k0 - 16) by omega, it_add rnd (16 - i), back i (by omega), ← it_xor, ← it_xor, W_succ, if_pos hb]
    · rw [if_neg (fun h => hb ((bit_asked t i ht (by omega)).1 h))]
      refine ih k (i + 1) l (by omega) (by omega) hl hw ?_
      rw [W_succ, if_neg hb, BitVec.xor_zero]; exact hs
theorem Crc16Bursts : shuttlelaw05_Crc16Bursts.Pure := by
  intro l0 a1 a2 _ _ w0 w1 w2
  have b1 := Go.bounds_i64 w1
  have b2 := Go.bounds_u16 w2
  obtain ⟨t, rfl⟩ := Int.eq_ofNat_of_zero_le b2.1
  refine ⟨2000, ?_⟩
  unfold shuttlelaw05_Crc16Bursts.f
  have e0 : mn (l0.length : Int) 100 = ((min l0.length 100 : Nat) : Int) := mn_nat _ 100
  have n0 : ((min l0.length 100 : Nat) : Int).toNat = min l0.length 100 := by omega
  rw [e0, n0, if_pos (by omega), if_pos (by omega)]
  have hl : (l0.take (min l0.length 100)).length ≤ 100 := by rw [List.length_take]; omega
  have hw : ∀ x ∈ l0.take (min l0.length 100), 0 ≤ x ∧ x ≤ 255 := fun x hx => u8_of_wf w0 x (List.mem_of_mem_take hx)
  generalize l0.take (min l0.length 100) = l at hl hw ⊢
  rw [seal_f l (by omega) hw 2000 (by omega), Option.bind_some, sums_f 2000 (by omega), Option.bind_some, if_pos rfl]
  have hc : ∀ x ∈ l ++ two (sum16 l), 0 ≤ x ∧ x ≤ 255 := fun x hx => by
    rcases List.mem_append.1 hx with q | q
    · exact hw x q
    · exact two_in _ x q
  have hcl : (l ++ two (sum16 l)).length = l.length + 2 := by rw [List.length_append]; rfl
  have hz : sum16 (l ++ two (sum16 l)) = 0 := by
    rw [sum_end _ hc (by omega), hcl, show l.length + 2 - 2 = l.length by omega, List.take_left]
  generalize l ++ two (sum16 l) = c at hc hcl hz ⊢
  rw [rightc_f c (by omega) hc 2000 (by omega), decide_eq_true ⟨by omega, hz⟩, Option.bind_some, if_pos rfl]
  rw [show (((c.length : Int)) != wrap64 ((l.length : Int) + 2)) = false from by
    rw [wrap_in (by omega) (by omega), bne_eq_false_iff_eq]; omega]
  simp only [shuttlelaw05_Crc16Bursts.j0]
  rw [if_neg (by decide)]
  by_cases h0 : (t : Int) = 0
  · rw [if_pos h0]
  · rw [if_neg h0]
    have e1 : IntKind.u64.wrap (wrap64 ((wrap64 (8 * (c.length : Int))) - 15)) = ((8 * c.length - 15 : Nat) : Int) := by
      rw [wrap_in (n := 8 * _) (by omega) (by omega), wrap_in (by omega) (by omega), IntKind.wrap_u64]; omega
    obtain ⟨u, hu⟩ := Int.eq_ofNat_of_zero_le (show 0 ≤ IntKind.u64.wrap a1 by rw [IntKind.wrap_u64]; omega)
    have hm : u % (8 * c.length - 15) < 8 * c.length - 15 := Nat.mod_lt _ (by omega)
    have e2 : wrap64 (Int.tmod (IntKind.u64.wrap a1) (IntKind.u64.wrap (wrap64 ((wrap64 (8 * (c.length : Int))) - 15)))) = ((u % (8 * c.length - 15) : Nat) : Int) := by
      rw [e1, hu, Int.tmod_eq_emod_of_nonneg (by omega), show ((u : Int) % ((8 * c.length - 15 : Nat) : Int)) = ((u % (8 * c.length - 15) : Nat) : Int) from rfl, wrap_in (by omega) (by omega)]
    rw [if_neg (by rw [e1]; omega), e2]
    exact bursts_l0 t (by omega) (by omega) c.length (u % (8 * c.length - 15)) (by omega) (by omega) (by omega) 16 1999 0 c (by omega) (by omega) rfl hc (by rw [hz]; exact ((congrArg (it rnd _) (it_z 16)).trans (it_z _)).symm)

end Go.Proofs.Ytkhpgjojbdgkfaa.Pure
