/- Crc32Adds: of three texts of one length (cut to the shortest, at most 100) the CRC-32 of their exclusive or is the exclusive or of their CRC-32s; no condition. -/
import Derived.Test.YtkhpgjojbdgkfaaCCrc32
import Derived.Test.YtkhpgjojbdgkfaaC4
namespace Go.Proofs.Ytkhpgjojbdgkfaa.Pure
open Go Go.RowKit Go.Proofs.Ytkhpgjojbdgkfaa.C Go.Proofs.YtkhpgjojbdgkfaaW.PrintWords Go.Proofs.YtkhpgjojbdgkfaaW.PrintLast Go.Proofs.YtkhpgjojbdgkfaaW.PrintMore
set_option linter.unusedVariables false

theorem xor8 (a b : Int) (ha : 0 ≤ a ∧ a ≤ 255) (hb : 0 ≤ b ∧ b ≤ 255) : BitVec.ofInt 8 (Go.bits .xor .u8 a b) = BitVec.ofInt 8 a ^^^ BitVec.ofInt 8 b := by
  obtain ⟨m, rfl⟩ := Int.eq_ofNat_of_zero_le ha.1
  obtain ⟨n, rfl⟩ := Int.eq_ofNat_of_zero_le hb.1
  rw [Go.u8_xor_nat m n (by omega) (by omega)]
  apply BitVec.eq_of_toNat_eq
  rw [BitVec.toNat_xor, BitVec.ofInt_natCast, BitVec.ofInt_natCast, BitVec.ofInt_natCast, BitVec.toNat_ofNat, BitVec.toNat_ofNat, BitVec.toNat_ofNat, Nat.mod_eq_of_lt (show m < 2 ^ 8 by omega), Nat.mod_eq_of_lt (show n < 2 ^ 8 by omega)]
  exact Nat.mod_eq_of_lt (Nat.xor_lt_two_pow (by omega) (by omega))
theorem xor8_in (a b : Int) (ha : 0 ≤ a ∧ a ≤ 255) (hb : 0 ≤ b ∧ b ≤ 255) : 0 ≤ Go.bits .xor .u8 a b ∧ Go.bits .xor .u8 a b ≤ 255 := by
  obtain ⟨m, rfl⟩ := Int.eq_ofNat_of_zero_le ha.1
  obtain ⟨n, rfl⟩ := Int.eq_ofNat_of_zero_le hb.1
  rw [Go.u8_xor_nat m n (by omega) (by omega)]
  have := Nat.xor_lt_two_pow (n := 8) (show m < 2 ^ 8 by omega) (show n < 2 ^ 8 by omega)
  omega
theorem xor32 (a b : BitVec 32) : Go.bits .xor .u32 (a.toNat : Int) (b.toNat : Int) = ((a ^^^ b).toNat : Int) := by
  rw [Go.u32_xor_nat _ _ (by have := a.isLt; omega) (by have := b.isLt; omega), BitVec.toNat_xor]
def x3 (l0 l1 l2 : List Int) (i : Nat) : List Int := (List.range i).map fun j => Go.bits .xor .u8 (Go.bits .xor .u8 (l0.getD j 0) (l1.getD j 0)) (l2.getD j 0)
theorem x3_succ (l0 l1 l2 : List Int) (i : Nat) : x3 l0 l1 l2 (i + 1) = x3 l0 l1 l2 i ++ [Go.bits .xor .u8 (Go.bits .xor .u8 (l0.getD i 0) (l1.getD i 0)) (l2.getD i 0)] := by
  simp [x3, List.range_succ]
theorem x3_length (l0 l1 l2 : List Int) (i : Nat) : (x3 l0 l1 l2 i).length = i := by simp [x3]
theorem at_in {l : List Int} (h : ∀ x ∈ l, 0 ≤ x ∧ x ≤ 255) (i : Nat) : 0 ≤ l.getD i 0 ∧ l.getD i 0 ≤ 255 := by
  by_cases hi : i < l.length
  · rw [List.getD_eq_getElem?_getD, List.getElem?_eq_getElem hi]; exact h _ (List.getElem_mem hi)
  · rw [List.getD_eq_getElem?_getD, List.getElem?_eq_none (by omega)]; simp
theorem x3_in {l0 l1 l2 : List Int} (h0 : ∀ x ∈ l0, 0 ≤ x ∧ x ≤ 255) (h1 : ∀ x ∈ l1, 0 ≤ x ∧ x ≤ 255) (h2 : ∀ x ∈ l2, 0 ≤ x ∧ x ≤ 255) (i : Nat) : byt (x3 l0 l1 l2 i) := by
  intro x hx
  simp only [x3, List.mem_map] at hx
  obtain ⟨j, _, rfl⟩ := hx
  exact xor8_in _ _ (xor8_in _ _ (at_in h0 j) (at_in h1 j)) (at_in h2 j)
theorem take_in {l : List Int} (h : ∀ x ∈ l, 0 ≤ x ∧ x ≤ 255) (n : Nat) : byt (l.take n) := fun x hx => h x (List.mem_of_mem_take hx)
theorem take_succ_getD (l : List Int) (i : Nat) (h : i < l.length) : l.take (i + 1) = l.take i ++ [l.getD i 0] := by
  rw [take_snoc l i h, List.getD_eq_getElem?_getD, List.getElem?_eq_getElem h]; rfl
theorem reg_x3 {l0 l1 l2 : List Int} (h0 : ∀ x ∈ l0, 0 ≤ x ∧ x ≤ 255) (h1 : ∀ x ∈ l1, 0 ≤ x ∧ x ≤ 255) (h2 : ∀ x ∈ l2, 0 ≤ x ∧ x ≤ 255) (i : Nat) (g0 : i ≤ l0.length) (g1 : i ≤ l1.length) (g2 : i ≤ l2.length) :
    reg32 (x3 l0 l1 l2 i) = reg32 (l0.take i) ^^^ reg32 (l1.take i) ^^^ reg32 (l2.take i) := by
  induction i with
  | zero =>
    rw [List.take_zero, List.take_zero, List.take_zero, show x3 l0 l1 l2 0 = [] from rfl]
    decide
  | succ i ih =>
    have ih := ih (by omega) (by omega) (by omega)
    unfold reg32 at ih ⊢
    rw [x3_succ, take_succ_getD l0 i g0, take_succ_getD l1 i g1, take_succ_getD l2 i g2, List.foldl_append, List.foldl_append, List.foldl_append, List.foldl_append, ih]
    simp only [List.foldl_cons, List.foldl_nil, spI]
    rw [xor8 _ _ (xor8_in _ _ (at_in h0 i) (at_in h1 i)) (at_in h2 i), xor8 _ _ (at_in h0 i) (at_in h1 i), sp_xor, sp_xor]
theorem not3 (a b c : BitVec 32) : ~~~ (a ^^^ b ^^^ c) = ~~~ a ^^^ ~~~ b ^^^ ~~~ c := by
  apply BitVec.eq_of_getLsbD_eq
  intro i hi
  simp only [BitVec.getLsbD_not, BitVec.getLsbD_xor, hi, decide_true, Bool.true_and]
  cases a.getLsbD i <;> cases b.getLsbD i <;> cases c.getLsbD i <;> rfl
theorem adds_l0 {l0 l1 l2 : List Int} (h0 : ∀ x ∈ l0, 0 ≤ x ∧ x ≤ 255) (h1 : ∀ x ∈ l1, 0 ≤ x ∧ x ≤ 255) (h2 : ∀ x ∈ l2, 0 ≤ x ∧ x ≤ 255) (n : Nat) (g0 : n ≤ l0.length) (g1 : n ≤ l1.length) (g2 : n ≤ l2.length) (hn : n ≤ 100) (d : Nat) :
    ∀ (k i : Nat), i + d = n → d + 150 ≤ k → shuttlelaw04_Crc32Adds.l0 k l0 l1 l2 (n : Int) (x3 l0 l1 l2 i) (i : Int) = some true := by
  induction d with
  | zero =>
    intro k i hi hk
    obtain ⟨k, rfl⟩ := pred (show 0 < k by omega)
    obtain rfl : i = n := by omega
    have tl : ∀ l : List Int, (l.take i).length ≤ 100 := fun l => by rw [List.length_take]; omega
    have e : ((i : Int)).toNat = i := by omega
    have r0 := tl l0; have r1 := tl l1; have r2 := tl l2
    simp only [shuttlelaw04_Crc32Adds.l0]
    rw [if_neg (by omega), sums_ok, Option.bind_some, if_pos rfl, csum_f (x3_in h0 h1 h2 i) (by rw [x3_length]; omega), Option.bind_some, if_pos (by omega), if_pos (by omega), e,
      csum_f (take_in h0 _) (by omega), Option.bind_some, if_pos (by omega), csum_f (take_in h1 _) (by omega), Option.bind_some, if_pos (by omega), csum_f (take_in h2 _) (by omega), Option.bind_some, xor32, xor32]
    unfold sum32
    rw [reg_x3 h0 h1 h2 i g0 g1 g2, not3]
    simp
  | succ d ih =>
    intro k i hi hk
    obtain ⟨k, rfl⟩ := pred (show 0 < k by omega)
    simp only [shuttlelaw04_Crc32Adds.l0]
    rw [if_pos (by omega), if_pos (by omega), if_pos (by omega), if_pos (by omega), if_pos (by omega), if_pos (by rw [x3_length]; omega), rd_getD, rd_getD, rd_getD, wrap_succ i (by omega), ← x3_succ]
    exact ih k (i + 1) (by omega) (by omega)
theorem mn_nat (a b : Nat) : mn (a : Int) (b : Int) = ((min a b : Nat) : Int) := by unfold mn; split <;> omega
theorem Crc32Adds : shuttlelaw04_Crc32Adds.Pure := by
  intro l0 l1 l2 _ _ w0 _ _ w1 _ _ w2
  refine ⟨300, ?_⟩
  unfold shuttlelaw04_Crc32Adds.f
  have e : mn (mn (mn (l0.length : Int) (l1.length : Int)) (l2.length : Int)) 100 = ((min (min (min l0.length l1.length) l2.length) 100 : Nat) : Int) := by
    rw [mn_nat, mn_nat]; exact mn_nat _ 100
  rw [e]
  exact adds_l0 (u8_of_wf w0) (u8_of_wf w1) (u8_of_wf w2) _ (by omega) (by omega) (by omega) (by omega) _ 300 0 (Nat.zero_add _) (by omega)

end Go.Proofs.Ytkhpgjojbdgkfaa.Pure
