/- The reference's CRC-32 in plain words: a list of bits, divided by the polynomial: what stands in the list at each step. No condition. -/
import Derived.Test.YtkhpgjojbdgkfaaDCrcW
namespace Go.Proofs.Ytkhpgjojbdgkfaa.D
open Go Go.RowKit Go.Proofs.YtkhpgjojbdgkfaaW.PrintWords Go.Proofs.YtkhpgjojbdgkfaaW.PrintLast Go.Proofs.YtkhpgjojbdgkfaaW.PrintMore
set_option linter.unusedVariables false

def bi (b : Bool) : Int := if b then 1 else 0
theorem bi_xor (a b : Bool) : Go.bits .xor .u8 (bi a) (bi b) = bi (a ^^ b) := by cases a <;> cases b <;> decide +kernel
def bl (N : Nat) (B : Nat → Bool) : List Int := (List.range N).map fun t => bi (B t)
theorem bl_length (N : Nat) (B : Nat → Bool) : (bl N B).length = N := by simp [bl]
theorem bl_snoc (N : Nat) (B : Nat → Bool) : bl (N + 1) B = bl N B ++ [bi (B N)] := by unfold bl; rw [List.range_succ, List.map_append]; rfl
theorem bl_congr {N : Nat} {B C : Nat → Bool} (h : ∀ t, t < N → B t = C t) : bl N B = bl N C := by
  unfold bl
  apply List.map_congr_left
  intro t ht
  rw [h t (List.mem_range.1 ht)]
theorem nums_bl (N : Nat) (B : Nat → Bool) (t : Nat) (h : t < N) : (nums .u8 (bl N B))[t]? = some (.int .u8 (bi (B t))) := by
  unfold nums bl
  rw [List.getElem?_map, List.getElem?_map, List.getElem?_range h]; rfl
theorem nums_bl_snoc (N : Nat) (B : Nat → Bool) : nums .u8 (bl (N + 1) B) = nums .u8 (bl N B) ++ [.int .u8 (bi (B N))] := by rw [bl_snoc]; simp [nums]
theorem nums_bl_set {N : Nat} {B C : Nat → Bool} (j : Nat) (h : ∀ t, t < N → C t = if t = j then C j else B t) : (nums .u8 (bl N B)).set j (.int .u8 (bi (C j))) = nums .u8 (bl N C) := by
  apply List.ext_getElem?
  intro t
  by_cases ht : t < N
  · rw [List.getElem?_set, nums_bl N C t ht]
    by_cases e : j = t
    · subst e
      rw [if_pos rfl, if_pos (by simp [nums, bl_length, ht])]
    · rw [if_neg e, nums_bl N B t ht, h t ht, if_neg (fun e' => e e'.symm)]
  · rw [List.getElem?_eq_none (by simp [nums, bl_length]; omega), List.getElem?_eq_none (by simp [nums, bl_length]; omega)]
/-- The text's bits, the lowest of a byte first. -/
def msg (l : List Int) (t : Nat) : Bool := decide (l.getD (t / 8) 0 / 2 ^ (t % 8) % 2 = 1)
theorem msg_go (l : List Int) (hw : ∀ x ∈ l, 0 ≤ x ∧ x ≤ 255) (i q : Nat) (hi : i < l.length) (hq : q < 8) : Go.bits .and .u8 (l[i] / 2 ^ q) 1 = bi (msg l (8 * i + q)) := by
  have hx := hw l[i] (List.getElem_mem hi)
  have e : l.getD ((8 * i + q) / 8) 0 = l[i] := by
    rw [show (8 * i + q) / 8 = i by omega, List.getD_eq_getElem?_getD, List.getElem?_eq_getElem hi]; rfl
  unfold msg
  rw [e, show (8 * i + q) % 8 = q by omega]
  obtain ⟨m, hm⟩ := Int.eq_ofNat_of_zero_le hx.1
  rw [hm]
  rw [hm] at hx
  have e2 : ((m : Int) / 2 ^ q) = ((m / 2 ^ q : Nat) : Int) := by
    rw [show ((2 : Int) ^ q) = ((2 ^ q : Nat) : Int) from by simp]; exact (Int.natCast_ediv _ _).symm
  have h1 : m / 2 ^ q < 256 := Nat.lt_of_le_of_lt (Nat.div_le_self _ _) (by omega)
  rw [e2, show (1 : Int) = ((1 : Nat) : Int) from rfl, Go.u8_and_nat _ 1 h1 (by decide), Go.nat_mask1]
  unfold bi
  by_cases c : m / 2 ^ q % 2 = 1
  · rw [c, if_pos (by simp; omega)]; rfl
  · rw [if_neg (by simp; omega), show m / 2 ^ q % 2 = 0 by omega]; rfl
theorem msg_out (l : List Int) (t : Nat) (h : 8 * l.length ≤ t) : msg l t = false := by
  unfold msg
  rw [List.getD_eq_getElem?_getD, List.getElem?_eq_none (by omega)]
  simp
/-- The register behind the first i bits. -/
def rg (l : List Int) : Nat → BitVec 32
  | 0 => 0xFFFFFFFF#32
  | i + 1 => r1 (rg l i) (msg l i)
theorem rg_byte (l : List Int) (hw : ∀ x ∈ l, 0 ≤ x ∧ x ≤ 255) (i : Nat) (hi : i < l.length) : rg l (8 * (i + 1)) = spI (rg l (8 * i)) l[i] := by
  have hm : ∀ q, q < 8 → msg l (8 * i + q) = (BitVec.ofInt 8 l[i]).getLsbD q := by
    intro q hq
    have hx := hw l[i] (List.getElem_mem hi)
    have e : l.getD ((8 * i + q) / 8) 0 = l[i] := by
      rw [show (8 * i + q) / 8 = i by omega, List.getD_eq_getElem?_getD, List.getElem?_eq_getElem hi]; rfl
    unfold msg
    rw [e, show (8 * i + q) % 8 = q by omega]
    obtain ⟨m, hm⟩ := Int.eq_ofNat_of_zero_le hx.1
    rw [hm]
    rw [hm] at hx
    rw [BitVec.getLsbD, BitVec.ofInt_natCast, BitVec.toNat_ofNat, Nat.mod_eq_of_lt (by omega), Nat.testBit_eq_decide_div_mod_eq]
    rw [decide_eq_decide]
    have e2 : ((m : Int) / 2 ^ q) = ((m / 2 ^ q : Nat) : Int) := by
      rw [show ((2 : Int) ^ q) = ((2 ^ q : Nat) : Int) from by simp]; exact (Int.natCast_ediv _ _).symm
    rw [e2]; omega
  unfold spI
  rw [← byte_bits]
  show rg l (8 * i + 7 + 1) = _
  simp only [rg, bits8, List.foldl_cons, List.foldl_nil]
  have h0 := hm 0 (by omega); have h1 := hm 1 (by omega); have h2 := hm 2 (by omega); have h3 := hm 3 (by omega); have h4 := hm 4 (by omega); have h5 := hm 5 (by omega); have h6 := hm 6 (by omega); have h7 := hm 7 (by omega)
  rw [show 8 * i + 7 = 8 * i + 6 + 1 from rfl] at *
  rw [← h0, ← h1, ← h2, ← h3, ← h4, ← h5, ← h6, ← h7]
  rfl
theorem rg_end (l : List Int) (hw : ∀ x ∈ l, 0 ≤ x ∧ x ≤ 255) : ∀ i, i ≤ l.length → rg l (8 * i) = (l.take i).foldl spI 0xFFFFFFFF#32
  | 0, _ => rfl
  | i + 1, h => by rw [rg_byte l hw i (by omega), rg_end l hw i (by omega), take_snoc l i (by omega), List.foldl_append]; rfl
/-- What stands in the list when i bits are divided away. -/
def B4 (l : List Int) (i t : Nat) : Bool := if t < i then false else msg l t ^^ (decide (t < i + 32) && (rg l i).getLsbD (t - i))
def pol (k : Nat) : Bool := decide (k = 0) || (decide (k ≤ 32) && (0xEDB88320#32).getLsbD (k - 1))
theorem B4_at (l : List Int) (i : Nat) : B4 l i i = ((rg l i).getLsbD 0 ^^ msg l i) := by
  unfold B4
  rw [if_neg (by omega), decide_eq_true (show i < i + 32 by omega), Nat.sub_self, Bool.true_and, Bool.xor_comm]
theorem rg_bit (l : List Int) (i j : Nat) : (rg l (i + 1)).getLsbD j = ((rg l i).getLsbD (j + 1) ^^ (B4 l i i && (0xEDB88320#32).getLsbD j)) := by
  show (r1 (rg l i) (msg l i)).getLsbD j = _
  unfold r1 rr
  have hb : (rg l i ^^^ bt (msg l i)).getLsbD 0 = B4 l i i := by
    rw [B4_at, BitVec.getLsbD_xor]
    congr 1
    unfold bt; cases msg l i <;> decide
  have hs : ((rg l i ^^^ bt (msg l i)) >>> 1).getLsbD j = (rg l i).getLsbD (j + 1) := by
    rw [BitVec.getLsbD_ushiftRight, BitVec.getLsbD_xor, Nat.add_comm]
    have : (bt (msg l i)).getLsbD (j + 1) = false := by
      unfold bt
      cases msg l i
      · simp
      · simp only [if_true]
        rw [BitVec.getLsbD, Nat.testBit_eq_decide_div_mod_eq]
        have : (1 : Nat) / 2 ^ (j + 1) = 0 := Nat.div_eq_of_lt (Nat.one_lt_two_pow (by omega))
        show decide ((1#32).toNat / 2 ^ (j + 1) % 2 = 1) = false
        rw [show (1#32).toNat = 1 from rfl, this]; rfl
    rw [this, Bool.xor_false]
  rw [hb]
  cases hc : B4 l i i with
  | true => rw [if_pos rfl, BitVec.getLsbD_xor, hs, Bool.true_and]
  | false => rw [if_neg (by decide), hs, Bool.false_and, Bool.xor_false]
theorem B4_succ (l : List Int) (i t : Nat) (h : i ≤ t) : B4 l (i + 1) t = (B4 l i t ^^ (B4 l i i && pol (t - i))) := by
  by_cases e : t = i
  · subst e
    unfold pol
    rw [Nat.sub_self, show decide ((0 : Nat) = 0) = true from rfl, Bool.true_or, Bool.and_true, Bool.xor_self]
    unfold B4
    rw [if_pos (by omega)]
  · obtain ⟨j, rfl⟩ : ∃ j, t = i + (j + 1) := ⟨t - i - 1, by omega⟩
    have hp : pol (i + (j + 1) - i) = (decide (j < 32) && (0xEDB88320#32).getLsbD j) := by
      unfold pol
      rw [show i + (j + 1) - i = j + 1 by omega, show j + 1 - 1 = j by omega, show decide (j + 1 = 0) = false by simp, Bool.false_or]
      congr 1
    rw [hp]
    unfold B4
    rw [if_neg (by omega), if_neg (by omega), show i + (j + 1) - (i + 1) = j by omega, show i + (j + 1) - i = j + 1 by omega, rg_bit, show i + 1 + 32 = i + 33 by omega]
    rw [show (if i < i then false else msg l i ^^ (decide (i < i + 32) && (rg l i).getLsbD (i - i))) = B4 l i i from rfl]
    by_cases c : j < 32
    · rw [decide_eq_true (show i + (j + 1) < i + 33 by omega), decide_eq_true c, Bool.true_and, Bool.true_and]
      by_cases c2 : j + 1 < 32
      · rw [decide_eq_true (show i + (j + 1) < i + 32 by omega), Bool.true_and, Bool.xor_assoc]
      · rw [decide_eq_false (show ¬ i + (j + 1) < i + 32 by omega), Bool.false_and, Bool.xor_false, BitVec.getLsbD_of_ge _ (j + 1) (by omega), Bool.false_xor]
    · rw [decide_eq_false (show ¬ i + (j + 1) < i + 33 by omega), decide_eq_false c, decide_eq_false (show ¬ i + (j + 1) < i + 32 by omega)]
      simp
theorem B4_start (l : List Int) (t : Nat) : B4 l 0 t = (msg l t ^^ decide (t < 32)) := by
  unfold B4 rg
  rw [if_neg (by omega), Nat.zero_add, Nat.sub_zero]
  congr 1
  by_cases c : t < 32
  · have all : ∀ t : Fin 32, (0xFFFFFFFF#32).getLsbD t.val = true := by decide +kernel
    rw [decide_eq_true c, all ⟨t, c⟩]; rfl
  · rw [decide_eq_false c]; rfl
theorem B4_end (l : List Int) (j : Nat) (h : j < 32) : B4 l (8 * l.length) (8 * l.length + j) = (rg l (8 * l.length)).getLsbD j := by
  unfold B4
  rw [if_neg (by omega), msg_out l _ (by omega), decide_eq_true (by omega), Bool.true_and, Bool.false_xor, show 8 * l.length + j - 8 * l.length = j by omega]
theorem low_or (n : BitVec 32) (q : Nat) (h : q < 32) : Go.bits .or .u32 ((n.toNat % 2 ^ q : Nat) : Int) (bi (n.getLsbD q) * 2 ^ q % 4294967296) = ((n.toNat % 2 ^ (q + 1) : Nat) : Int) := by
  have hp : 2 ^ q < 2 ^ 32 := Nat.pow_lt_pow_right (by decide) h
  have h1 : n.toNat % 2 ^ q < 2 ^ q := Nat.mod_lt _ (Nat.two_pow_pos q)
  have e : (bi (n.getLsbD q) * 2 ^ q % 4294967296 : Int) = ((2 ^ q * (n.toNat / 2 ^ q % 2) : Nat) : Int) := by
    have hb : n.getLsbD q = decide (n.toNat / 2 ^ q % 2 = 1) := by rw [BitVec.getLsbD, Nat.testBit_eq_decide_div_mod_eq]
    rw [hb]
    unfold bi
    have h2 : n.toNat / 2 ^ q % 2 < 2 := Nat.mod_lt _ (by decide)
    by_cases c : n.toNat / 2 ^ q % 2 = 1
    · rw [c]
      simp only [decide_true, if_true, Int.one_mul, Nat.mul_one]
      rw [show ((2 : Int) ^ q) = ((2 ^ q : Nat) : Int) from by simp]
      omega
    · rw [show n.toNat / 2 ^ q % 2 = 0 by omega]; simp
  rw [e, Go.u32_or_nat _ _ (by omega) (by have : n.toNat / 2 ^ q % 2 < 2 := Nat.mod_lt _ (by decide); rcases (show n.toNat / 2 ^ q % 2 = 0 ∨ n.toNat / 2 ^ q % 2 = 1 by omega) with z | z <;> rw [z] <;> omega), Nat.or_comm, ← Nat.two_pow_add_eq_or_of_lt h1, Nat.mod_pow_succ, Nat.add_comm]
end Go.Proofs.Ytkhpgjojbdgkfaa.D
