/- Layer 4 in plain words: sums, closed texts, opened texts. No condition but lengths. -/
import Derived.Test.YtkhpgjojbdgkfaaDCrc32M
import Derived.Test.YtkhpgjojbdgkfaaDStr
import Derived.Test.YtkhpgjojbdgkfaaD2
import Derived.Test.YtkhpgjojbdgkfaaD3
import Derived.Test.YtkhpgjojbdgkfaaD5
import Derived.Test.YtkhpgjojbdgkfaaD6
import Derived.Test.YtkhpgjojbdgkfaaD7
import Derived.Test.YtkhpgjojbdgkfaaD8
namespace Go.Proofs.Ytkhpgjojbdgkfaa.D
open Go Go.RowKit Go.Proofs.YtkhpgjojbdgkfaaW.PrintWords Go.Proofs.YtkhpgjojbdgkfaaW.PrintLast Go.Proofs.YtkhpgjojbdgkfaaW.PrintMore
set_option linter.unusedVariables false

def byt (l : List Int) : Prop := ∀ x ∈ l, 0 ≤ x ∧ x ≤ 255
theorem byt_all {l : List Int} (h : byt l) : l.all (fun x => decide (0 ≤ x ∧ x ≤ 255)) = true := by
  rw [List.all_eq_true]; intro x hx; exact decide_eq_true (h x hx)
theorem csum_f {l : List Int} (h : byt l) (hl : l.length ≤ 1000) : crc32_Sum.f l = some ((sum32 l).toNat : Int) := by
  unfold crc32_Sum.f; rw [if_pos ⟨byt_all h, by omega⟩]
theorem sums_ok : shuttlelaw04_sums.f = some true := by
  unfold shuttlelaw04_sums.f
  rw [csum_f (by unfold byt; decide) (by decide), Option.bind_some]
  have : ((sum32 [49, 50, 51, 52, 53, 54, 55, 56, 57]).toNat : Int) = 3421780262 := by decide +kernel
  rw [this]; rfl
/-- A sum's four bytes, the lowest first. -/
def four (n : Nat) : List Int := [((n % 256 : Nat) : Int), ((n / 256 % 256 : Nat) : Int), ((n / 65536 % 256 : Nat) : Int), ((n / 16777216 % 256 : Nat) : Int)]
theorem four_byt (n : Nat) : byt (four n) := by
  intro x hx
  simp only [four, List.mem_cons, List.not_mem_nil, or_false] at hx
  rcases hx with rfl | rfl | rfl | rfl <;> omega
theorem bytes_f (n : Nat) (k : Nat) (hk : 5 ≤ k) : crc32_bytes.f k (n : Int) = some (four n) := by
  obtain ⟨k, rfl⟩ : ∃ m, k = m + 5 := ⟨k - 5, by omega⟩
  unfold crc32_bytes.f
  have e1 : wrap64 (0 + 1) = 1 := by decide +kernel
  have e2 : wrap64 (1 + 1) = 2 := by decide +kernel
  have e3 : wrap64 (2 + 1) = 3 := by decide +kernel
  have e4 : wrap64 (3 + 1) = 4 := by decide +kernel
  rw [show k + 5 = (k + 4) + 1 from rfl, crc32_bytes.l0.eq_2, if_pos (by decide), if_pos (by decide), e1]
  rw [show k + 4 = (k + 3) + 1 from rfl, crc32_bytes.l0.eq_2, if_pos (by decide), if_pos (by simp only [List.length_append, List.length_cons, List.length_nil]; decide), e2]
  rw [show k + 3 = (k + 2) + 1 from rfl, crc32_bytes.l0.eq_2, if_pos (by decide), if_pos (by simp only [List.length_append, List.length_cons, List.length_nil]; decide), e3]
  rw [show k + 2 = (k + 1) + 1 from rfl, crc32_bytes.l0.eq_2, if_pos (by decide), if_pos (by simp only [List.length_append, List.length_cons, List.length_nil]; decide), e4]
  rw [crc32_bytes.l0.eq_2, if_neg (by decide)]
  unfold four
  simp only [List.nil_append, List.cons_append]
  refine congrArg some ?_
  have t1 : (n : Int) % 256 = ((n % 256 : Nat) : Int) := by omega
  have t2 : (n : Int) / 256 % 256 = ((n / 256 % 256 : Nat) : Int) := by omega
  have t3 : (n : Int) / 256 / 256 % 256 = ((n / 65536 % 256 : Nat) : Int) := by omega
  have t4 : (n : Int) / 256 / 256 / 256 % 256 = ((n / 16777216 % 256 : Nat) : Int) := by omega
  rw [t1, t2, t3, t4]
theorem close_f {l : List Int} (h : byt l) (hl : l.length ≤ 1000) (k : Nat) (hk : 5 ≤ k) : crc32_Close.f k l = some (l ++ four (sum32 l).toNat) := by
  unfold crc32_Close.f slices_Clone_byte_byte.f
  rw [if_pos (by omega), Option.bind_some, csum_f h hl, Option.bind_some, bytes_f _ k hk, Option.bind_some, if_pos (by show l.length + 4 < _; omega)]
theorem equal_l0 (a b : List Int) (hl : a.length = b.length) (hm : a.length ≤ 1000) (d : Nat) : ∀ k i : Nat, i + d = a.length → d < k → slices_Equal_byte_byte.l0 k a b (a.length : Int) (i : Int) = some (decide (a.drop i = b.drop i)) := by
  induction d with
  | zero =>
    intro k i hi hk
    obtain ⟨k, rfl⟩ := pred hk
    rw [slices_Equal_byte_byte.l0.eq_2, if_neg (by omega), List.drop_eq_nil_of_le (by omega), List.drop_eq_nil_of_le (by omega)]; rfl
  | succ d ih =>
    intro k i hi hk
    obtain ⟨k, rfl⟩ := pred hk
    have hn := ih k (i + 1) (by omega) (by omega)
    rw [slices_Equal_byte_byte.l0.eq_2, if_pos (by omega), if_pos (by omega), if_pos (by omega), if_pos (by omega), rd_get a i (by omega), rd_get b i (by omega), drop_cons a i (by omega), drop_cons b i (by omega)]
    by_cases e : a[i] = b[i]
    · rw [if_pos e, wrap_succ i (by omega), hn]
      refine congrArg some (decide_eq_decide.2 ?_)
      rw [← e]
      exact ⟨fun h => by rw [h], fun h => by injection h⟩
    · rw [if_neg e, decide_eq_false]
      intro h; injection h with h1 _; exact e h1
theorem equal_f (a b : List Int) (hm : a.length ≤ 1000) (k : Nat) (hk : a.length < k) : slices_Equal_byte_byte.f k a b = some (decide (a = b)) := by
  unfold slices_Equal_byte_byte.f
  by_cases e : a.length = b.length
  · rw [if_pos (by omega)]
    have := equal_l0 a b e hm a.length k 0 (by omega) hk
    simpa using this
  · rw [if_neg (by omega), decide_eq_false]
    intro h; exact e (by rw [h])
/-- Is it a closed text? -/
def closed (l : List Int) : Prop := 4 ≤ l.length ∧ four (sum32 (l.take (l.length - 4))).toNat = l.drop (l.length - 4)
instance (l : List Int) : Decidable (closed l) := by unfold closed; infer_instance
theorem open_f {l : List Int} (h : byt l) (hl : l.length ≤ 1000) (k : Nat) (hk : 5 ≤ k) : crc32_Open.f k l = some (if closed l then (l.take (l.length - 4), true) else ([], false)) := by
  unfold crc32_Open.f
  rw [wrap_in (by omega) (by omega)]
  by_cases h4 : 4 ≤ l.length
  · have e : ((l.length : Int) - 4).toNat = l.length - 4 := by omega
    have ht : byt (l.take (l.length - 4)) := fun x hx => h x (List.mem_of_mem_take hx)
    rw [if_neg (by omega), if_pos (by omega), if_pos (by omega), e, csum_f ht (by rw [List.length_take]; omega), Option.bind_some, bytes_f _ k hk, Option.bind_some, equal_f _ _ (by show 4 ≤ _; omega) k (by show 4 < _; omega), Option.bind_some]
    by_cases c : four (sum32 (l.take (l.length - 4))).toNat = l.drop (l.length - 4)
    · rw [decide_eq_true c, if_pos rfl, if_pos ⟨h4, c⟩]
      unfold slices_Clone_byte_byte.f
      rw [if_pos (by rw [List.length_take]; omega), Option.bind_some]
    · rw [decide_eq_false c, if_neg (by decide), if_neg (fun z => c z.2)]
  · rw [if_pos (by omega), if_neg (fun z => h4 z.1)]
end Go.Proofs.Ytkhpgjojbdgkfaa.D
