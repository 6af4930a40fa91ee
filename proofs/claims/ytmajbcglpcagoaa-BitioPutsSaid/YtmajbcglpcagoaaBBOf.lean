/- bits.Of, its reference and bits.Bytes in plain words: the bytes come back. No condition. -/
import Derived.Test.YtmajbcglpcagoaaBBBit
import Derived.Test.YtmajbcglpcagoaaB15
import Derived.Test.YtmajbcglpcagoaaB22
import Derived.Test.YtmajbcglpcagoaaB6
import Derived.Test.YtmajbcglpcagoaaB8
namespace Go.Proofs.Ytmajbcglpcagoaa.B
open Go.RowKit Go.Proofs.YtmajbcglpcagoaaW.PrintWords Go.Proofs.YtmajbcglpcagoaaW.PrintLast Go.Proofs.YtmajbcglpcagoaaW.PrintMore
set_option linter.unusedVariables false

def bits8 (x : Int) : List Int := [x / 128 % 2, x / 64 % 2, x / 32 % 2, x / 16 % 2, x / 8 % 2, x / 4 % 2, x / 2 % 2, x / 1 % 2]
def ofl (l : List Int) : List Int := l.flatMap bits8
theorem ofl_cons (x : Int) (l : List Int) : ofl (x :: l) = bits8 x ++ ofl l := by simp [ofl]
theorem ofl_snoc (l : List Int) (x : Int) : ofl (l ++ [x]) = ofl l ++ bits8 x := by simp [ofl]
theorem ofl_length (l : List Int) : (ofl l).length = 8 * l.length := by
  induction l with
  | nil => rfl
  | cons x l ih => rw [ofl_cons, List.length_append, ih, List.length_cons]; show 8 + _ = _; omega
theorem ofl_bit (l : List Int) : ∀ x ∈ ofl l, 0 ≤ x ∧ x ≤ 1 := by
  intro x hx
  simp only [ofl, List.mem_flatMap] at hx
  obtain ⟨y, _, hy⟩ := hx
  simp only [bits8, List.mem_cons, List.not_mem_nil, or_false] at hy
  rcases hy with rfl | rfl | rfl | rfl | rfl | rfl | rfl | rfl <;> omega
def bv (x : Int) (s : Int) : Int := Go.bits .and .u8 (shr .u8 x s) 1
theorem bv_all : ∀ r : Fin 256, [bv (r.val : Int) 7, bv (r.val : Int) 6, bv (r.val : Int) 5, bv (r.val : Int) 4, bv (r.val : Int) 3, bv (r.val : Int) 2, bv (r.val : Int) 1, bv (r.val : Int) 0] = bits8 (r.val : Int) := by decide +kernel
theorem bv_eq (x : Int) (h : 0 ≤ x ∧ x ≤ 255) : [bv x 7, bv x 6, bv x 5, bv x 4, bv x 3, bv x 2, bv x 1, bv x 0] = bits8 x := by
  obtain ⟨n, rfl⟩ := Int.eq_ofNat_of_zero_le h.1
  exact bv_all ⟨n, by omega⟩
theorem bof_step (k : Nat) (acc : List Int) (x : Int) (l : List Int) (n i j s : Int) (hj : j < 8) (hs : wrap64 (7 - j) = s) (h0 : 0 ≤ s) (ha : acc.length < 140737488355328) :
    bits_Of.l1 (k + 1) acc x l n i j = bits_Of.l1 k (acc ++ [bv x s]) x l n i (wrap64 (j + 1)) := by
  rw [bits_Of.l1.eq_2, if_pos hj, hs, if_pos h0, if_pos ha]; rfl
theorem bof_l1 (k : Nat) (acc : List Int) (x : Int) (hx : 0 ≤ x ∧ x ≤ 255) (l : List Int) (n i : Int) (ha : acc.length < 100000) :
    bits_Of.l1 (k + 9) acc x l n i 0 = bits_Of.l0 k (acc ++ bits8 x) l n (wrap64 (i + 1)) := by
  rw [bof_step (k + 8) acc x l n i 0 7 (by omega) (by unfold wrap64; omega) (by omega) (by omega), show wrap64 (0 + 1) = 1 from by unfold wrap64; omega,
    bof_step (k + 7) _ x l n i 1 6 (by omega) (by unfold wrap64; omega) (by omega) (by simp; omega), show wrap64 (1 + 1) = 2 from by unfold wrap64; omega,
    bof_step (k + 6) _ x l n i 2 5 (by omega) (by unfold wrap64; omega) (by omega) (by simp; omega), show wrap64 (2 + 1) = 3 from by unfold wrap64; omega,
    bof_step (k + 5) _ x l n i 3 4 (by omega) (by unfold wrap64; omega) (by omega) (by simp; omega), show wrap64 (3 + 1) = 4 from by unfold wrap64; omega,
    bof_step (k + 4) _ x l n i 4 3 (by omega) (by unfold wrap64; omega) (by omega) (by simp; omega), show wrap64 (4 + 1) = 5 from by unfold wrap64; omega,
    bof_step (k + 3) _ x l n i 5 2 (by omega) (by unfold wrap64; omega) (by omega) (by simp; omega), show wrap64 (5 + 1) = 6 from by unfold wrap64; omega,
    bof_step (k + 2) _ x l n i 6 1 (by omega) (by unfold wrap64; omega) (by omega) (by simp; omega), show wrap64 (6 + 1) = 7 from by unfold wrap64; omega,
    bof_step (k + 1) _ x l n i 7 0 (by omega) (by unfold wrap64; omega) (by omega) (by simp; omega), show wrap64 (7 + 1) = 8 from by unfold wrap64; omega,
    bits_Of.l1.eq_2, if_neg (by omega), ← bv_eq x hx]
  simp only [List.append_assoc, List.cons_append, List.nil_append]
theorem bof_l0 (l : List Int) (hw : ∀ x ∈ l, 0 ≤ x ∧ x ≤ 255) (hl : l.length ≤ 10000) (d : Nat) : ∀ k i : Nat, i + d = l.length → 10 * d < k →
    bits_Of.l0 k (ofl (l.take i)) l (l.length : Int) (i : Int) = some (ofl l) := by
  induction d with
  | zero =>
    intro k i hi hk
    obtain ⟨k, rfl⟩ := pred (show 0 < k by omega)
    rw [bits_Of.l0.eq_2, if_neg (by omega), List.take_of_length_le (by omega)]
  | succ d ih =>
    intro k i hi hk
    obtain ⟨k, rfl⟩ : ∃ m, k = (m + 9) + 1 := ⟨k - 10, by omega⟩
    have hlt : i < l.length := by omega
    rw [bits_Of.l0.eq_2, if_pos (by omega), if_pos (by omega), if_pos (by omega), rd_get l i hlt,
      bof_l1 k _ _ (hw _ (List.getElem_mem hlt)) l _ _ (by rw [ofl_length, List.length_take]; omega), ← ofl_snoc, ← take_snoc l i hlt, wrap_succ i (by omega)]
    exact ih k (i + 1) (by omega) (by omega)
theorem bof_f (l : List Int) (hw : ∀ x ∈ l, 0 ≤ x ∧ x ≤ 255) (hl : l.length ≤ 10000) (k : Nat) (hk : 10 * l.length < k) : bits_Of.f k l = some (ofl l) :=
  bof_l0 l hw hl l.length k 0 (by omega) hk
-- the reference
theorem rof_step (k : Nat) (l acc : List Int) (i x p q v : Int) (hp : 0 < p) (hv : Int.tmod (wrap64 (Int.tdiv x p)) 2 % 256 = v) (hq : wrap64 (Int.tdiv p 2) = q) (ha : acc.length < 140737488355328) :
    shuttleref01_Of.l1 (k + 1) l acc i x p = shuttleref01_Of.l1 k l (acc ++ [v]) i x q := by
  rw [shuttleref01_Of.l1.eq_2, if_pos (by omega), if_neg (by omega), if_pos ha, hv, hq]
theorem rv (x p : Int) (hx : 0 ≤ x ∧ x ≤ 255) (hp : 0 < p) : Int.tmod (wrap64 (Int.tdiv x p)) 2 % 256 = x / p % 2 := by
  have h1 : 0 ≤ x / p := Int.ediv_nonneg hx.1 (by omega)
  have h2 : x / p ≤ x := Int.ediv_le_self p hx.1
  rw [Int.tdiv_eq_ediv_of_nonneg hx.1, wrap_in (by omega) (by omega), Int.tmod_eq_emod_of_nonneg h1]
  omega
theorem rof_l1 (k : Nat) (l acc : List Int) (i x : Int) (hx : 0 ≤ x ∧ x ≤ 255) (ha : acc.length < 100000) :
    shuttleref01_Of.l1 (k + 9) l acc i x 128 = shuttleref01_Of.l0 k l (acc ++ bits8 x) (wrap64 (i + 1)) := by
  rw [rof_step (k + 8) l acc i x 128 64 _ (by omega) (rv x 128 hx (by omega)) (by unfold wrap64; decide) (by omega),
    rof_step (k + 7) l _ i x 64 32 _ (by omega) (rv x 64 hx (by omega)) (by unfold wrap64; decide) (by simp; omega),
    rof_step (k + 6) l _ i x 32 16 _ (by omega) (rv x 32 hx (by omega)) (by unfold wrap64; decide) (by simp; omega),
    rof_step (k + 5) l _ i x 16 8 _ (by omega) (rv x 16 hx (by omega)) (by unfold wrap64; decide) (by simp; omega),
    rof_step (k + 4) l _ i x 8 4 _ (by omega) (rv x 8 hx (by omega)) (by unfold wrap64; decide) (by simp; omega),
    rof_step (k + 3) l _ i x 4 2 _ (by omega) (rv x 4 hx (by omega)) (by unfold wrap64; decide) (by simp; omega),
    rof_step (k + 2) l _ i x 2 1 _ (by omega) (rv x 2 hx (by omega)) (by unfold wrap64; decide) (by simp; omega),
    rof_step (k + 1) l _ i x 1 0 _ (by omega) (rv x 1 hx (by omega)) (by unfold wrap64; decide) (by simp; omega),
    shuttleref01_Of.l1.eq_2, if_neg (by omega)]
  simp only [List.append_assoc, List.cons_append, List.nil_append]
  rfl
theorem rof_l0 (l : List Int) (hw : ∀ x ∈ l, 0 ≤ x ∧ x ≤ 255) (hl : l.length ≤ 10000) (d : Nat) : ∀ k i : Nat, i + d = l.length → 10 * d < k →
    shuttleref01_Of.l0 k l (ofl (l.take i)) (i : Int) = some (ofl l) := by
  induction d with
  | zero =>
    intro k i hi hk
    obtain ⟨k, rfl⟩ := pred (show 0 < k by omega)
    rw [shuttleref01_Of.l0.eq_2, if_neg (by omega), List.take_of_length_le (by omega)]
  | succ d ih =>
    intro k i hi hk
    obtain ⟨k, rfl⟩ : ∃ m, k = (m + 9) + 1 := ⟨k - 10, by omega⟩
    have hlt : i < l.length := by omega
    have hx := hw _ (List.getElem_mem hlt)
    rw [shuttleref01_Of.l0.eq_2, if_pos (by omega), if_pos (by omega), rd_get l i hlt, wrap_in (n := l[i]) (by omega) (by omega),
      rof_l1 k l _ _ _ hx (by rw [ofl_length, List.length_take]; omega), ← ofl_snoc, ← take_snoc l i hlt, wrap_succ i (by omega)]
    exact ih k (i + 1) (by omega) (by omega)
theorem rof_f (l : List Int) (hw : ∀ x ∈ l, 0 ≤ x ∧ x ≤ 255) (hl : l.length ≤ 10000) (k : Nat) (hk : 10 * l.length < k) : shuttleref01_Of.f k l = some (ofl l) :=
  rof_l0 l hw hl l.length k 0 (by omega) hk
-- and back
theorem byOf_congr (l l' : List Int) (x y : Nat) : ∀ m, (∀ k, k < m → l.getD (8 * x + k) 0 = l'.getD (8 * y + k) 0) → byOf l x m = byOf l' y m
  | 0, _ => rfl
  | m + 1, h => by
    unfold byOf
    rw [byOf_congr l l' x y m (fun k hk => h k (by omega)), h m (by omega)]
theorem by_all : ∀ r : Fin 256, byOf (bits8 (r.val : Int)) 0 8 = (r.val : Int) := by decide +kernel
theorem ofl_getD : ∀ (l : List Int) (j : Nat) (h : j < l.length) (k : Nat), k < 8 → (ofl l).getD (8 * j + k) 0 = (bits8 l[j]).getD (8 * 0 + k) 0
  | [], _, h, _, _ => absurd h (Nat.not_lt_zero _)
  | x :: l, 0, _, k, hk => by
    rw [ofl_cons, List.getD_eq_getElem?_getD, List.getD_eq_getElem?_getD, List.getElem?_append_left (show _ < 8 by omega)]; rfl
  | x :: l, j + 1, h, k, hk => by
    have ih := ofl_getD l j (by simpa using h) k hk
    rw [ofl_cons, List.getD_eq_getElem?_getD, List.getElem?_append_right (show 8 ≤ _ by omega), show 8 * (j + 1) + k - (bits8 x).length = 8 * j + k from by show _ - 8 = _; omega, ← List.getD_eq_getElem?_getD, ih]
    rfl
theorem byte_ofl (l : List Int) (hw : ∀ x ∈ l, 0 ≤ x ∧ x ≤ 255) (j : Nat) (h : j < l.length) : byte (ofl l) j = l[j] := by
  unfold byte
  rw [ofl_length, show min 8 (8 * l.length - 8 * j) = 8 from by omega, byOf_congr (ofl l) (bits8 l[j]) j 0 8 (ofl_getD l j h)]
  have hx := hw _ (List.getElem_mem h)
  obtain ⟨n, hn⟩ := Int.eq_ofNat_of_zero_le hx.1
  rw [hn] at hx ⊢
  exact by_all ⟨n, by omega⟩
theorem ofl_right (l : List Int) : (ofl l).any big = false := by
  rw [List.any_eq_false]
  intro x hx
  have := ofl_bit l x hx
  unfold big
  rw [decide_eq_false (by omega)]; decide
theorem bytes_ofl (l : List Int) (hw : ∀ x ∈ l, 0 ≤ x ∧ x ≤ 255) (hl : l.length ≤ 10000) (k : Nat) (hk : 8 * l.length < k) : bits_Bytes.f k (ofl l) = some (l, 0) := by
  have hn := ofl_length l
  unfold bits_Bytes.f
  rw [right_f (ofl l) (by omega) k (by omega), ofl_right, Option.bind_some, if_pos (by decide), if_pos (by omega), hn, show (8 * l.length + 7) / 8 = l.length from by omega]
  have : (List.range l.length).map (byte (ofl l)) = l := by
    apply List.ext_getElem
    · simp
    · intro i h1 h2
      rw [List.getElem_map, List.getElem_range, byte_ofl l hw i h2]
  rw [this]

end Go.Proofs.Ytmajbcglpcagoaa.B
