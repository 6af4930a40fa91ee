/- Crc32Bursts: what is closed is opened again; with some of up to 32 bits side by side turned it isn't; no condition. -/
import Derived.Test.YtkhpgjojbdgkfaaCCrc32B
import Derived.Test.YtkhpgjojbdgkfaaC14
namespace Go.Proofs.Ytkhpgjojbdgkfaa.Pure
open Go Go.RowKit Go.Proofs.Ytkhpgjojbdgkfaa.C Go.Proofs.YtkhpgjojbdgkfaaW.PrintWords Go.Proofs.YtkhpgjojbdgkfaaW.PrintLast Go.Proofs.YtkhpgjojbdgkfaaW.PrintMore
set_option linter.unusedVariables false

theorem mn_nat' (a b : Nat) : mn (a : Int) (b : Int) = ((min a b : Nat) : Int) := by unfold mn; split <;> omega
theorem bit_asked (t i : Nat) (ht : t < 4294967296) (hi : i < 32) : (Go.bits .and .u32 (shr .u32 (t : Int) (i : Int)) 1 = 1) ↔ t.testBit i = true := by
  have e : shr .u32 (t : Int) (i : Int) = ((t / 2 ^ i : Nat) : Int) := by
    unfold shr
    rw [show min ((i : Int)).toNat IntKind.u32.bits = i from by simp [IntKind.bits]; omega]
    rw [show ((2 : Int) ^ i) = ((2 ^ i : Nat) : Int) from by simp]
    exact (Int.natCast_ediv _ _).symm
  have h1 : t / 2 ^ i < 4294967296 := Nat.lt_of_le_of_lt (Nat.div_le_self _ _) ht
  rw [e, show (1 : Int) = ((1 : Nat) : Int) from rfl, Go.u32_and_nat _ 1 h1 (by decide), Go.nat_mask1, Nat.testBit_eq_decide_div_mod_eq]
  simp only [decide_eq_true_eq]
  omega
theorem shl_byte (r : Nat) (hr : r < 8) : shl .u8 1 (r : Int) = ((2 ^ r : Nat) : Int) := by
  have all : ∀ r : Fin 8, shl .u8 1 ((r.val : Nat) : Int) = ((2 ^ r.val : Nat) : Int) := by decide +kernel
  exact all ⟨r, hr⟩
theorem pow_byte (r : Nat) (hr : r < 8) : (2 ^ r : Nat) ≤ 255 := Nat.le_trans (Nat.pow_le_pow_right (n := 2) (by decide) (show r ≤ 7 by omega)) (by decide)
theorem xor_gone {a b : BitVec 32} (h : a ^^^ b = a) : b = 0 := by
  have e : a ^^^ (a ^^^ b) = a ^^^ a := by rw [h]
  rw [← BitVec.xor_assoc, BitVec.xor_self, BitVec.zero_xor] at e
  exact e
theorem bursts_l0 (t : Nat) (ht : t < 4294967296) (h0 : t ≠ 0) (m k0 : Nat) (hm : m ≤ 200) (h2 : 4 ≤ m) (hk0 : k0 + 32 ≤ 8 * m) (d : Nat) : ∀ (k i : Nat) (l : List Int), i + d = 32 → d + 300 ≤ k →
    l.length = m → byt l → reg32 l = left32 ^^^ it rr (8 * m - k0 - 32) (it rr 32 (W t i)) →
    shuttlelaw04_Crc32Bursts.l0 k (t : Int) l (k0 : Int) (i : Int) = some true := by
  induction d with
  | zero =>
    intro k i l hi hk hl hw hs
    obtain ⟨k, rfl⟩ := pred (show 0 < k by omega)
    obtain rfl : i = 32 := by omega
    simp only [shuttlelaw04_Crc32Bursts.l0]
    have nc : ¬ closed l := fun c => by
      have e := closed_reg c
      rw [hs] at e
      exact h0 (W_zero ht (itr_zero 32 (itr_zero _ (xor_gone e))))
    rw [if_neg (by omega), open_f hw (by omega) k (by omega), if_neg nc]
    rfl
  | succ d ih =>
    intro k i l hi hk hl hw hs
    obtain ⟨k, rfl⟩ := pred (show 0 < k by omega)
    simp only [shuttlelaw04_Crc32Bursts.l0]
    rw [if_pos (by omega), if_pos (by omega)]
    have e8 : wrap64 ((k0 : Int) + (i : Int)) = ((k0 + i : Nat) : Int) := by rw [wrap_in (by omega) (by omega)]; omega
    have eq : wrap64 (Int.tdiv ((k0 + i : Nat) : Int) 8) = (((k0 + i) / 8 : Nat) : Int) := by
      rw [Int.tdiv_eq_ediv_of_nonneg (by omega), wrap_in (by omega) (by omega)]; omega
    have er : Int.tmod ((k0 + i : Nat) : Int) 8 = (((k0 + i) % 8 : Nat) : Int) := by
      rw [Int.tmod_eq_emod_of_nonneg (by omega)]; omega
    have hq : (k0 + i) / 8 < l.length := by omega
    rw [e8, eq, er, wrap_succ i (by omega)]
    by_cases hb : t.testBit i = true
    · rw [if_pos ((bit_asked t i ht (by omega)).2 hb), if_pos (by omega), if_pos (by omega), if_pos (by omega), rd_get l _ hq, shl_byte _ (by omega),
        show (((k0 + i) / 8 : Nat) : Int).toNat = (k0 + i) / 8 by omega]
      have hone := one_bit32 l hw ((k0 + i) / 8) ((k0 + i) % 8) hq (by omega)
      refine ih k (i + 1) _ (by omega) (by omega) (by rw [List.length_set]; exact hl) ?_ ?_
      · intro x hx
        rcases List.mem_or_eq_of_mem_set hx with h | h
        · exact hw x h
        · subst h
          exact xor8c_in _ _ (hw _ (List.getElem_mem hq)) ⟨Int.natCast_nonneg _, Int.le_trans (Int.ofNat_le.2 (pow_byte _ (by omega))) (by decide)⟩
      · rw [hone, hs, hl, show 8 * (m - (k0 + i) / 8) - (k0 + i) % 8 = (32 - i) + (8 * m - k0 - 32) by omega, it_add rr (32 - i), back32 i (by omega), BitVec.xor_assoc, ← itr_xor, ← itr_xor, W_succ, if_pos hb]
    · rw [if_neg (fun h => hb ((bit_asked t i ht (by omega)).1 h))]
      refine ih k (i + 1) l (by omega) (by omega) hl hw ?_
      rw [W_succ, if_neg hb, BitVec.xor_zero]; exact hs
theorem Crc32Bursts : shuttlelaw04_Crc32Bursts.Pure := by
  intro l0 a1 a2 _ _ w0 w1 w2
  have b1 := Go.bounds_i64 w1
  have b2 := Go.bounds_u32 w2
  obtain ⟨t, rfl⟩ := Int.eq_ofNat_of_zero_le b2.1
  refine ⟨2000, ?_⟩
  unfold shuttlelaw04_Crc32Bursts.f
  have e0 : mn (l0.length : Int) 100 = ((min l0.length 100 : Nat) : Int) := mn_nat' _ 100
  have n0 : ((min l0.length 100 : Nat) : Int).toNat = min l0.length 100 := by omega
  rw [e0, n0, if_pos (by omega), if_pos (by omega)]
  have hl : (l0.take (min l0.length 100)).length ≤ 100 := by rw [List.length_take]; omega
  have hw : byt (l0.take (min l0.length 100)) := fun x hx => u8_of_wf w0 x (List.mem_of_mem_take hx)
  generalize l0.take (min l0.length 100) = l at hl hw ⊢
  rw [close_f hw (by omega) 2000 (by omega), Option.bind_some]
  have hc : byt (l ++ four (sum32 l).toNat) := fun x hx => by
    rcases List.mem_append.1 hx with q | q
    · exact hw x q
    · exact four_byt _ x q
  have hcl : (l ++ four (sum32 l).toNat).length = l.length + 4 := by rw [List.length_append]; rfl
  have hz : reg32 (l ++ four (sum32 l).toNat) = left32 := reg_closed l
  have ht : (l ++ four (sum32 l).toNat).take ((l ++ four (sum32 l).toNat).length - 4) = l := by
    rw [hcl, show l.length + 4 - 4 = l.length by omega, List.take_left]
  have hcc : closed (l ++ four (sum32 l).toNat) := by
    refine ⟨by omega, ?_⟩
    rw [ht, hcl, show l.length + 4 - 4 = l.length by omega, List.drop_left]
  generalize l ++ four (sum32 l).toNat = c at hc hcl hz ht hcc ⊢
  rw [open_f hc (by omega) 2000 (by omega), if_pos hcc, ht, Option.bind_some, sums_ok, Option.bind_some, if_pos rfl]
  dsimp only
  rw [if_pos rfl, if_pos rfl, if_pos (by rw [wrap_in (by omega) (by omega)]; omega)]
  by_cases h0 : (t : Int) = 0
  · rw [if_pos h0]
  · rw [if_neg h0]
    have e1 : IntKind.u64.wrap (wrap64 ((wrap64 (8 * (c.length : Int))) - 31)) = ((8 * c.length - 31 : Nat) : Int) := by
      rw [wrap_in (n := 8 * _) (by omega) (by omega), wrap_in (by omega) (by omega), IntKind.wrap_u64]; omega
    obtain ⟨u, hu⟩ := Int.eq_ofNat_of_zero_le (show 0 ≤ IntKind.u64.wrap a1 by rw [IntKind.wrap_u64]; omega)
    have hm : u % (8 * c.length - 31) < 8 * c.length - 31 := Nat.mod_lt _ (by omega)
    have e2 : wrap64 (Int.tmod (IntKind.u64.wrap a1) (IntKind.u64.wrap (wrap64 ((wrap64 (8 * (c.length : Int))) - 31)))) = ((u % (8 * c.length - 31) : Nat) : Int) := by
      rw [e1, hu, Int.tmod_eq_emod_of_nonneg (by omega), show ((u : Int) % ((8 * c.length - 31 : Nat) : Int)) = ((u % (8 * c.length - 31) : Nat) : Int) from rfl, wrap_in (by omega) (by omega)]
    rw [if_neg (by rw [e1]; omega), e2]
    exact bursts_l0 t (by omega) (by omega) c.length (u % (8 * c.length - 31)) (by omega) (by omega) (by omega) 32 2000 0 c (by omega) (by omega) rfl hc (by rw [hz, show W t 0 = 0 from rfl, itr_z, itr_z]; exact (BitVec.xor_zero).symm)

end Go.Proofs.Ytkhpgjojbdgkfaa.Pure
