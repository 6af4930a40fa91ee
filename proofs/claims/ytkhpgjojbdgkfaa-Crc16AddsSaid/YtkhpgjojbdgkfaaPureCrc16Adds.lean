/- Crc16Adds: of three texts of one length (cut to the shortest, at most 100) the CRC-16 of their exclusive or is the exclusive or of their CRC-16s; no condition. -/
import Derived.Test.YtkhpgjojbdgkfaaXCrc16
import Derived.Test.YtkhpgjojbdgkfaaX4
namespace Go.Proofs.Ytkhpgjojbdgkfaa.Pure
open Go.RowKit Go.Proofs.Ytkhpgjojbdgkfaa.X Go.Proofs.YtkhpgjojbdgkfaaW.PrintWords Go.Proofs.YtkhpgjojbdgkfaaW.PrintLast Go.Proofs.YtkhpgjojbdgkfaaW.PrintMore

def x3 (l0 l1 l2 : List Int) (i : Nat) : List Int := (List.range i).map fun j => Go.bits .xor .u8 (Go.bits .xor .u8 (l0.getD j 0) (l1.getD j 0)) (l2.getD j 0)
theorem x3_succ (l0 l1 l2 : List Int) (i : Nat) : x3 l0 l1 l2 (i + 1) = x3 l0 l1 l2 i ++ [Go.bits .xor .u8 (Go.bits .xor .u8 (l0.getD i 0) (l1.getD i 0)) (l2.getD i 0)] := by
  simp [x3, List.range_succ]
theorem x3_length (l0 l1 l2 : List Int) (i : Nat) : (x3 l0 l1 l2 i).length = i := by simp [x3]
theorem at_in {l : List Int} (h : ∀ x ∈ l, 0 ≤ x ∧ x ≤ 255) (i : Nat) : 0 ≤ l.getD i 0 ∧ l.getD i 0 ≤ 255 := by
  by_cases hi : i < l.length
  · rw [List.getD_eq_getElem?_getD, List.getElem?_eq_getElem hi]; exact h _ (List.getElem_mem hi)
  · rw [List.getD_eq_getElem?_getD, List.getElem?_eq_none (by omega)]; simp
theorem x3_in {l0 l1 l2 : List Int} (h0 : ∀ x ∈ l0, 0 ≤ x ∧ x ≤ 255) (h1 : ∀ x ∈ l1, 0 ≤ x ∧ x ≤ 255) (h2 : ∀ x ∈ l2, 0 ≤ x ∧ x ≤ 255) (i : Nat) : ∀ x ∈ x3 l0 l1 l2 i, 0 ≤ x ∧ x ≤ 255 := by
  intro x hx
  simp only [x3, List.mem_map] at hx
  obtain ⟨j, _, rfl⟩ := hx
  exact xor8_in _ _ (xor8_in _ _ (at_in h0 j) (at_in h1 j)) (at_in h2 j)
theorem take_in {l : List Int} (h : ∀ x ∈ l, 0 ≤ x ∧ x ≤ 255) (n : Nat) : ∀ x ∈ l.take n, 0 ≤ x ∧ x ≤ 255 := fun x hx => h x (List.mem_of_mem_take hx)
theorem take_succ_getD (l : List Int) (i : Nat) (h : i < l.length) : l.take (i + 1) = l.take i ++ [l.getD i 0] := by
  rw [take_snoc l i h, List.getD_eq_getElem?_getD, List.getElem?_eq_getElem h]; rfl
theorem sum_x3 {l0 l1 l2 : List Int} (h0 : ∀ x ∈ l0, 0 ≤ x ∧ x ≤ 255) (h1 : ∀ x ∈ l1, 0 ≤ x ∧ x ≤ 255) (h2 : ∀ x ∈ l2, 0 ≤ x ∧ x ≤ 255) (i : Nat) (g0 : i ≤ l0.length) (g1 : i ≤ l1.length) (g2 : i ≤ l2.length) :
    sum16 (x3 l0 l1 l2 i) = sum16 (l0.take i) ^^^ sum16 (l1.take i) ^^^ sum16 (l2.take i) := by
  induction i with
  | zero =>
    rw [List.take_zero, List.take_zero, List.take_zero, show x3 l0 l1 l2 0 = [] from rfl]
    decide
  | succ i ih =>
    have ih := ih (by omega) (by omega) (by omega)
    unfold sum16 at ih ⊢
    rw [x3_succ, take_succ_getD l0 i g0, take_succ_getD l1 i g1, take_succ_getD l2 i g2, List.foldl_append, List.foldl_append, List.foldl_append, List.foldl_append, ih]
    simp only [List.foldl_cons, List.foldl_nil, stpI]
    rw [xor8 _ _ (xor8_in _ _ (at_in h0 i) (at_in h1 i)) (at_in h2 i), xor8 _ _ (at_in h0 i) (at_in h1 i), stp_xor, stp_xor]
theorem adds_l0 {l0 l1 l2 : List Int} (h0 : ∀ x ∈ l0, 0 ≤ x ∧ x ≤ 255) (h1 : ∀ x ∈ l1, 0 ≤ x ∧ x ≤ 255) (h2 : ∀ x ∈ l2, 0 ≤ x ∧ x ≤ 255) (n : Nat) (g0 : n ≤ l0.length) (g1 : n ≤ l1.length) (g2 : n ≤ l2.length) (hn : n ≤ 100) (d : Nat) :
    ∀ (k i : Nat), i + d = n → d + 150 ≤ k → shuttlelaw05_Crc16Adds.l0 k l0 l1 l2 (n : Int) (x3 l0 l1 l2 i) (i : Int) = some true := by
  induction d with
  | zero =>
    intro k i hi hk
    obtain ⟨k, rfl⟩ := pred (show 0 < k by omega)
    obtain rfl : i = n := by omega
    simp only [shuttlelaw05_Crc16Adds.l0]
    rw [if_neg (by omega), sums_f k (by omega)]
    simp only [Option.bind_some, if_true]
    rw [sum_f _ (by rw [x3_length]; omega) (x3_in h0 h1 h2 i) k (by rw [x3_length]; omega)]
    simp only [Option.bind_some]
    have tl : ∀ l : List Int, (l.take ((i : Int)).toNat).length ≤ 100 := fun l => by rw [List.length_take]; omega
    have e : ((i : Int)).toNat = i := by omega
    rw [if_pos (by omega), if_pos (by omega), sum_f _ (by have := tl l0; omega) (take_in h0 _) k (by have := tl l0; omega)]
    simp only [Option.bind_some]
    rw [if_pos (by omega), sum_f _ (by have := tl l1; omega) (take_in h1 _) k (by have := tl l1; omega)]
    simp only [Option.bind_some]
    rw [if_pos (by omega), sum_f _ (by have := tl l2; omega) (take_in h2 _) k (by have := tl l2; omega)]
    simp only [Option.bind_some]
    rw [xor16, xor16, e, sum_x3 h0 h1 h2 i g0 g1 g2]
    simp
  | succ d ih =>
    intro k i hi hk
    obtain ⟨k, rfl⟩ := pred (show 0 < k by omega)
    simp only [shuttlelaw05_Crc16Adds.l0]
    rw [if_pos (by omega), if_pos (by omega), if_pos (by omega), if_pos (by omega), if_pos (by omega), if_pos (by rw [x3_length]; omega), rd_getD, rd_getD, rd_getD, wrap_succ i (by omega), ← x3_succ]
    exact ih k (i + 1) (by omega) (by omega)
theorem mn_nat (a b : Nat) : mn (a : Int) (b : Int) = ((min a b : Nat) : Int) := by unfold mn; split <;> omega
theorem Crc16Adds : shuttlelaw05_Crc16Adds.Pure := by
  intro l0 l1 l2 _ _ w0 _ _ w1 _ _ w2
  refine ⟨300, ?_⟩
  unfold shuttlelaw05_Crc16Adds.f
  have e : mn (mn (mn (l0.length : Int) (l1.length : Int)) (l2.length : Int)) 100 = ((min (min (min l0.length l1.length) l2.length) 100 : Nat) : Int) := by
    rw [mn_nat, mn_nat]; exact mn_nat _ 100
  rw [e]
  exact adds_l0 (u8_of_wf w0) (u8_of_wf w1) (u8_of_wf w2) _ (by omega) (by omega) (by omega) (by omega) _ 300 0 (Nat.zero_add _) (by omega)

end Go.Proofs.Ytkhpgjojbdgkfaa.Pure
