/- Texts of this seat, one behind the other (merge.py): the walks of the functions that the law ShuttleHands uses, and plain words on what they come to. No condition. -/
import Derived.Maps.OwnSet
import Derived.Test.YtajiggmeappfaaaGreatDoorXMShuttleHands2
-- YtajiggmeappfaaaGreatDoorPKPlainA
namespace Go.Proofs.YtajiggmeappfaaaGreatDoor.P
open Go.RowKit Go.Proofs.YtajiggmeappfaaaGreatDoorW.PrintWords Go.Proofs.YtajiggmeappfaaaGreatDoorW.PrintLast Go.Proofs.YtajiggmeappfaaaGreatDoorW.PrintMore
set_option maxRecDepth 100000
set_option maxHeartbeats 8000000
set_option linter.unusedVariables false
set_option linter.unusedSimpArgs false
def bit (x : Int) : Prop := x = 0 ∨ x = 1
theorem getD_bit {l : List Int} (h : ∀ x ∈ l, bit x) (i : Nat) : bit (l.getD i 0) := by
 by_cases hi : i < l.length
 ·rw [List.getD_eq_getElem?_getD, List.getElem?_eq_getElem hi]; exact h _ (List.getElem_mem hi)
 ·rw [List.getD_eq_getElem?_getD, List.getElem?_eq_none (by omega)]; exact .inl rfl
def bits8a (x : Int) : List Int := [x / 128 % 2, x / 64 % 2, x / 32 % 2, x / 16 % 2, x / 8 % 2, x / 4 % 2, x / 2 % 2, x / 1 % 2]
def ofl (l : List Int) : List Int := l.flatMap bits8a
theorem ofl_cons (x : Int) (l : List Int) : ofl (x :: l) = bits8a x ++ ofl l := by simp [ofl]
theorem ofl_snoc (l : List Int) (x : Int) : ofl (l ++ [x]) = ofl l ++ bits8a x := by simp [ofl]
theorem ofl_length (l : List Int) : (ofl l).length = 8 * l.length := by
 induction l with
 | nil => rfl
 | cons x l ih => rw [ofl_cons, List.length_append, ih, List.length_cons]; show 8 + _ = _; omega
theorem ofl_bit (l : List Int) : ∀ x ∈ ofl l, 0 ≤ x ∧ x ≤ 1 := by
 intro x hx
 simp only [ofl, List.mem_flatMap] at hx
 obtain ⟨y, _, hy⟩ := hx
 simp only [bits8a, List.mem_cons, List.not_mem_nil, or_false] at hy
 rcases hy with rfl | rfl | rfl | rfl | rfl | rfl | rfl | rfl <;> omega
def bv (x : Int) (s : Int) : Int := Go.bits .and .u8 (shr .u8 x s) 1
theorem bv_all : ∀ r : Fin 256, [bv (r.val : Int) 7, bv (r.val : Int) 6, bv (r.val : Int) 5, bv (r.val : Int) 4, bv (r.val : Int) 3, bv (r.val : Int) 2, bv (r.val : Int) 1, bv (r.val : Int) 0] = bits8a (r.val : Int) := by decide +kernel
theorem bv_eq (x : Int) (h : 0 ≤ x ∧ x ≤ 255) : [bv x 7, bv x 6, bv x 5, bv x 4, bv x 3, bv x 2, bv x 1, bv x 0] = bits8a x := by
 obtain ⟨n, rfl⟩ := Int.eq_ofNat_of_zero_le h.1
 exact bv_all ⟨n, by omega⟩
theorem bof_step (k : Nat) (acc : List Int) (x : Int) (l : List Int) (n i j s : Int) (hj : j < 8) (hs : wrap64 (7 - j) = s) (h0 : 0 ≤ s) (ha : acc.length < 140737488355328) :
  bits_Of.l1 (k + 1) acc x l n i j = bits_Of.l1 k (acc ++ [bv x s]) x l n i (wrap64 (j + 1)) := by
 rw [bits_Of.l1.eq_2, if_pos hj, hs, if_pos h0, if_pos ha]; rfl
theorem bof_l1 (k : Nat) (acc : List Int) (x : Int) (hx : 0 ≤ x ∧ x ≤ 255) (l : List Int) (n i : Int) (ha : acc.length < 100000) :
  bits_Of.l1 (k + 9) acc x l n i 0 = bits_Of.l0 k (acc ++ bits8a x) l n (wrap64 (i + 1)) := by
 rw [bof_step (k + 8) acc x l n i 0 7 (by omega) (by unfold wrap64; omega) (by omega) (by omega), show wrap64 (0 + 1) = 1 from by unfold wrap64; omega,
  bof_step (k + 7) _ x l n i 1 6 (by omega) (by unfold wrap64; omega) (by omega) (by simp; omega), show wrap64 (1 + 1) = 2 from by unfold wrap64; omega,
  bof_step (k + 6) _ x l n i 2 5 (by omega) (by unfold wrap64; omega) (by omega) (by simp; omega), show wrap64 (2 + 1) = 3 from by unfold wrap64; omega,
  bof_step (k + 5) _ x l n i 3 4 (by omega) (by unfold wrap64; omega) (by omega) (by simp; omega), show wrap64 (3 + 1) = 4 from by unfold wrap64; omega,
  bof_step (k + 4) _ x l n i 4 3 (by omega) (by unfold wrap64; omega) (by omega) (by simp; omega), show wrap64 (4 + 1) = 5 from by unfold wrap64; omega,
  bof_step (k + 3) _ x l n i 5 2 (by omega) (by unfold wrap64; omega) (by omega) (by simp; omega), show wrap64 (5 + 1) = 6 from by unfold wrap64; omega,
  bof_step (k + 2) _ x l n i 6 1 (by omega) (by unfold wrap64; omega) (by omega) (by simp; omega), show wrap64 (6 + 1) = 7 from by unfold wrap64; omega,
  bof_step (k + 1) _ x l n i 7 0 (by omega) (by unfold wrap64; omega) (by omega) (by simp; omega), show wrap64 (7 + 1) = 8 from by unfold wrap64; omega,
  bits_Of.l1.eq_2, if_neg (by omega), ← bv_eq x hx]
 simp only [List.append_assoc, List.cons_append, List.nil_append]
theorem bof_l0 (l : List Int) (hw : ∀ x ∈ l, 0 ≤ x ∧ x ≤ 255) (hl : l.length ≤ 10000) (d : Nat) : ∀ k i : Nat, i + d = l.length → 10 * d < k →
  bits_Of.l0 k (ofl (l.take i)) l (l.length : Int) (i : Int) = some (ofl l) := by
 induction d with
 | zero =>
  intro k i hi hk
  obtain ⟨k, rfl⟩ := pred (show 0 < k by omega)
  rw [bits_Of.l0.eq_2, if_neg (by omega), List.take_of_length_le (by omega)]
 | succ d ih =>
  intro k i hi hk
  obtain ⟨k, rfl⟩ : ∃ m, k = (m + 9) + 1 := ⟨k - 10, by omega⟩
  have hlt : i < l.length := by omega
  rw [bits_Of.l0.eq_2, if_pos (by omega), if_pos (by omega), if_pos (by omega), rd_get l i hlt,
   bof_l1 k _ _ (hw _ (List.getElem_mem hlt)) l _ _ (by rw [ofl_length, List.length_take]; omega), ← ofl_snoc, ← take_snoc l i hlt, wrap_succ i (by omega)]
  exact ih k (i + 1) (by omega) (by omega)
theorem bof_f (l : List Int) (hw : ∀ x ∈ l, 0 ≤ x ∧ x ≤ 255) (hl : l.length ≤ 10000) (k : Nat) (hk : 10 * l.length < k) : bits_Of.f k l = some (ofl l) :=
 bof_l0 l hw hl l.length k 0 (by omega) hk
theorem byOf_congr (l l' : List Int) (x y : Nat) : ∀ m, (∀ k, k < m → l.getD (8 * x + k) 0 = l'.getD (8 * y + k) 0) → byOf l x m = byOf l' y m
 | 0, _ => rfl
 | m + 1, h => by
  unfold byOf
  rw [byOf_congr l l' x y m (fun k hk => h k (by omega)), h m (by omega)]
theorem by_all : ∀ r : Fin 256, byOf (bits8a (r.val : Int)) 0 8 = (r.val : Int) := by decide +kernel
theorem ofl_getD : ∀ (l : List Int) (j : Nat) (h : j < l.length) (k : Nat), k < 8 → (ofl l).getD (8 * j + k) 0 = (bits8a l[j]).getD (8 * 0 + k) 0
 | [], _, h, _, _ => absurd h (Nat.not_lt_zero _)
 | x :: l, 0, _, k, hk => by
  rw [ofl_cons, List.getD_eq_getElem?_getD, List.getD_eq_getElem?_getD, List.getElem?_append_left (show _ < 8 by omega)]; rfl
 | x :: l, j + 1, h, k, hk => by
  have ih := ofl_getD l j (by simpa using h) k hk
  rw [ofl_cons, List.getD_eq_getElem?_getD, List.getElem?_append_right (show 8 ≤ _ by omega), show 8 * (j + 1) + k - (bits8a x).length = 8 * j + k from by show _ - 8 = _; omega, ← List.getD_eq_getElem?_getD, ih]
  rfl
theorem byte_ofl (l : List Int) (hw : ∀ x ∈ l, 0 ≤ x ∧ x ≤ 255) (j : Nat) (h : j < l.length) : byte (ofl l) j = l[j] := by
 unfold byte
 rw [ofl_length, show min 8 (8 * l.length - 8 * j) = 8 from by omega, byOf_congr (ofl l) (bits8a l[j]) j 0 8 (ofl_getD l j h)]
 have hx := hw _ (List.getElem_mem h)
 obtain ⟨n, hn⟩ := Int.eq_ofNat_of_zero_le hx.1
 rw [hn] at hx ⊢
 exact by_all ⟨n, by omega⟩
theorem ofl_right (l : List Int) : (ofl l).any big = false := by
 rw [List.any_eq_false]
 intro x hx
 have := ofl_bit l x hx
 unfold big
 rw [decide_eq_false (by omega)]; decide
theorem bytes_ofl (l : List Int) (hw : ∀ x ∈ l, 0 ≤ x ∧ x ≤ 255) (hl : l.length ≤ 10000) (k : Nat) (hk : 8 * l.length < k) : bits_Bytes.f k (ofl l) = some (l, 0) := by
 have hn := ofl_length l
 unfold bits_Bytes.f
 rw [right_f (ofl l) (by omega) k (by omega), ofl_right, Option.bind_some, if_pos (by decide), if_pos (by omega), hn, show (8 * l.length + 7) / 8 = l.length from by omega]
 have : (List.range l.length).map (byte (ofl l)) = l := by
  apply List.ext_getElem
  ·simp
  ·intro i h1 h2
   rw [List.getElem_map, List.getElem_range, byte_ofl l hw i h2]
 rw [this]
def rb (l : List Int) (x : Nat) : Nat → Int
 | 0 => 0
 | m + 1 => 2 * rb l x m + l.getD (8 * x + m) 0
theorem bit01 {x : Int} (h : bit x) : 0 ≤ x ∧ x ≤ 1 := by unfold bit at h; omega
theorem rb_in (l : List Int) (h : ∀ x ∈ l, bit x) (x : Nat) (m : Nat) : 0 ≤ rb l x m ∧ rb l x m + 1 ≤ ((2 ^ m : Nat) : Int) := by
 induction m with
 | zero => simp [rb]
 | succ m ih =>
  have hb := getD_bit h (8 * x + m)
  unfold bit at hb
  unfold rb
  rw [Nat.pow_succ]
  omega
theorem rb_256 (l : List Int) (h : ∀ x ∈ l, bit x) (x : Nat) (m : Nat) (hm : m ≤ 8) : 0 ≤ rb l x m ∧ rb l x m ≤ 255 := by
 have h1 := rb_in l h x m
 have h2 : 2 ^ m ≤ 2 ^ 8 := Nat.pow_le_pow_right (by omega) hm
 omega
theorem rb_congr (l l' : List Int) (x y : Nat) : ∀ m, (∀ k, k < m → l.getD (8 * x + k) 0 = l'.getD (8 * y + k) 0) → rb l x m = rb l' y m
 | 0, _ => rfl
 | m + 1, h => by
  unfold rb
  rw [rb_congr l l' x y m (fun k hk => h k (by omega)), h m (by omega)]
theorem rb_all : ∀ r : Fin 256, rb (bits8a (r.val : Int)) 0 8 = (r.val : Int) := by decide +kernel
theorem by_short : ∀ r : Fin 256, ∀ m : Fin 9, (∀ k : Fin 8, m.val ≤ k.val → (bits8a (r.val : Int)).getD (8 * 0 + k.val) 0 = 0) → byOf (bits8a (r.val : Int)) 0 m.val = (r.val : Int) := by decide +kernel
theorem eight (l : List Int) (h : ∀ x ∈ l, bit x) (x : Nat) : ∃ r : Fin 256, ∀ k, k < 8 → l.getD (8 * x + k) 0 = (bits8a (r.val : Int)).getD (8 * 0 + k) 0 := by
 have b0 := getD_bit h (8 * x + 0)
 have b1 := getD_bit h (8 * x + 1)
 have b2 := getD_bit h (8 * x + 2)
 have b3 := getD_bit h (8 * x + 3)
 have b4 := getD_bit h (8 * x + 4)
 have b5 := getD_bit h (8 * x + 5)
 have b6 := getD_bit h (8 * x + 6)
 have b7 := getD_bit h (8 * x + 7)
 replace b0 := bit01 b0
 replace b1 := bit01 b1
 replace b2 := bit01 b2
 replace b3 := bit01 b3
 replace b4 := bit01 b4
 replace b5 := bit01 b5
 replace b6 := bit01 b6
 replace b7 := bit01 b7
 suffices hh : ∃ r : Fin 256, l.getD (8 * x + 0) 0 = (r.val : Int) / 128 % 2 ∧ l.getD (8 * x + 1) 0 = (r.val : Int) / 64 % 2 ∧ l.getD (8 * x + 2) 0 = (r.val : Int) / 32 % 2 ∧ l.getD (8 * x + 3) 0 = (r.val : Int) / 16 % 2 ∧ l.getD (8 * x + 4) 0 = (r.val : Int) / 8 % 2 ∧ l.getD (8 * x + 5) 0 = (r.val : Int) / 4 % 2 ∧ l.getD (8 * x + 6) 0 = (r.val : Int) / 2 % 2 ∧ l.getD (8 * x + 7) 0 = (r.val : Int) / 1 % 2 by
  obtain ⟨r, h0, h1, h2, h3, h4, h5, h6, h7⟩ := hh
  refine ⟨r, ?_⟩
  intro k hk
  have hk' : k = 0 ∨ k = 1 ∨ k = 2 ∨ k = 3 ∨ k = 4 ∨ k = 5 ∨ k = 6 ∨ k = 7 := by omega
  rcases hk' with rfl | rfl | rfl | rfl | rfl | rfl | rfl | rfl
  ·exact h0
  ·exact h1
  ·exact h2
  ·exact h3
  ·exact h4
  ·exact h5
  ·exact h6
  ·exact h7
 generalize l.getD (8 * x + 0) 0 = c0 at *
 generalize l.getD (8 * x + 1) 0 = c1 at *
 generalize l.getD (8 * x + 2) 0 = c2 at *
 generalize l.getD (8 * x + 3) 0 = c3 at *
 generalize l.getD (8 * x + 4) 0 = c4 at *
 generalize l.getD (8 * x + 5) 0 = c5 at *
 generalize l.getD (8 * x + 6) 0 = c6 at *
 generalize l.getD (8 * x + 7) 0 = c7 at *
 obtain ⟨n, hn⟩ := Int.eq_ofNat_of_zero_le (a := 128 * c0 + 64 * c1 + 32 * c2 + 16 * c3 + 8 * c4 + 4 * c5 + 2 * c6 + c7) (by omega)
 refine ⟨⟨n, by omega⟩, ?_, ?_, ?_, ?_, ?_, ?_, ?_, ?_⟩ <;> (show _ = (n : Int) / _ % 2; rw [show (n : Int) = 128 * c0 + 64 * c1 + 32 * c2 + 16 * c3 + 8 * c4 + 4 * c5 + 2 * c6 + c7 from hn.symm]; clear hn; omega)
theorem byte_rb (l : List Int) (h : ∀ x ∈ l, bit x) (x : Nat) : byte l x = rb l x 8 := by
 obtain ⟨r, hr⟩ := eight l h x
 rw [rb_congr l (bits8a (r.val : Int)) x 0 8 hr, rb_all r]
 unfold byte
 rw [byOf_congr l (bits8a (r.val : Int)) x 0 _ (fun k hk => hr k (by omega))]
 refine by_short r ⟨min 8 (l.length - 8 * x), by omega⟩ ?_
 intro k hk
 rw [← hr k.val k.isLt, List.getD_eq_getElem?_getD, List.getElem?_eq_none (by have := k.isLt; simp only at hk; omega)]
 rfl
section
open Go
theorem i64_and_nat (a b : Nat) (ha : a < 9223372036854775808) (hb : b < 9223372036854775808) : Go.bits .and .i64 (a : Int) (b : Int) = ((a &&& b : Nat) : Int) := by
 have hx : a &&& b < 2 ^ 63 := Nat.and_lt_two_pow _ (by omega)
 show IntKind.i64.wrap ((BitVec.ofInt 64 (a : Int) &&& BitVec.ofInt 64 (b : Int)).toNat : Int) = _
 rw [BitVec.toNat_and, Go.ofInt_u64 a (by omega), Go.ofInt_u64 b (by omega)]
 generalize hm : a &&& b = m at hx ⊢
 have hm2 : (m : Int) ≤ 9223372036854775807 := by omega
 rw [IntKind.wrap_i64]; omega
theorem i64_or_nat (a b : Nat) (ha : a < 9223372036854775808) (hb : b < 9223372036854775808) : Go.bits .or .i64 (a : Int) (b : Int) = ((a ||| b : Nat) : Int) := by
 have hx : a ||| b < 2 ^ 63 := Nat.or_lt_two_pow (by omega) (by omega)
 show IntKind.i64.wrap ((BitVec.ofInt 64 (a : Int) ||| BitVec.ofInt 64 (b : Int)).toNat : Int) = _
 rw [BitVec.toNat_or, Go.ofInt_u64 a (by omega), Go.ofInt_u64 b (by omega)]
 generalize hm : a ||| b = m at hx ⊢
 have hm2 : (m : Int) ≤ 9223372036854775807 := by omega
 rw [IntKind.wrap_i64]; omega
theorem bitv_nat (n i : Nat) (hn : n < 9223372036854775808) : bitv (n : Int) i = ((n / 2 ^ i % 2 : Nat) : Int) := by
 unfold bitv
 have h1 : n / 2 ^ i < 9223372036854775808 := Nat.lt_of_le_of_lt (Nat.div_le_self _ _) hn
 have e : ((n : Int) / 2 ^ i) = ((n / 2 ^ i : Nat) : Int) := by
  rw [show ((2 : Int) ^ i) = ((2 ^ i : Nat) : Int) from by simp]; exact (Int.natCast_ediv _ _).symm
 rw [e, show (1 : Int) = ((1 : Nat) : Int) from rfl, i64_and_nat _ 1 h1 (by decide), Go.nat_mask1, IntKind.wrap_u8]
 omega
theorem bitL_bit (n W r : Nat) (hn : n < 9223372036854775808) : ∀ x ∈ bitL (n : Int) W r, bit x := by
 intro x hx
 simp only [bitL, List.mem_map] at hx
 obtain ⟨j, _, rfl⟩ := hx
 rw [bitv_nat n _ hn]
 unfold bit; omega
theorem bitL_length (n : Int) (W r : Nat) : (bitL n W r).length = W - r := by simp [bitL]
theorem putE_ok (n W : Nat) (hW : 1 ≤ W) (hW2 : W ≤ 32) (hn : n < 2 ^ W) : putE (n : Int) (W : Int) = 0 := by
 unfold putE
 have h1 : bitioWidthF (W : Int) = true := by simp [bitioWidthF]; omega
 have h2 : (n : Int) / 2 ^ W = 0 := by
  rw [show ((2 : Int) ^ W) = ((2 ^ W : Nat) : Int) from by simp]
  have : ((n / 2 ^ W : Nat) : Int) = 0 := by rw [Nat.div_eq_of_lt hn]; rfl
  rw [← this]; exact (Int.natCast_ediv _ _).symm
 rw [if_pos h1, if_neg (by omega), Int.toNat_natCast, if_pos h2]
theorem bitL_two (n H L : Nat) (hn : n < 9223372036854775808) : bitL (n : Int) (H + L) 0 = bitL ((n / 2 ^ L : Nat) : Int) H 0 ++ bitL ((n % 2 ^ L : Nat) : Int) L 0 := by
 have hd : n / 2 ^ L < 9223372036854775808 := Nat.lt_of_le_of_lt (Nat.div_le_self _ _) hn
 have hm : n % 2 ^ L < 9223372036854775808 := Nat.lt_of_le_of_lt (Nat.mod_le _ _) hn
 apply List.ext_getElem
 ·rw [List.length_append, bitL_length, bitL_length, bitL_length]; omega
 ·intro i h1 h2
  rw [bitL_length] at h1
  have el : ∀ (m W : Nat) (hm : m < 9223372036854775808) (j : Nat) (hj : j < (bitL (m : Int) W 0).length), (bitL (m : Int) W 0)[j] = ((m / 2 ^ (W - 1 - j) % 2 : Nat) : Int) := by
   intro m W hm j hj
   simp only [bitL, List.getElem_map, List.getElem_range]
   exact bitv_nat m _ hm
  by_cases hi : i < H
  ·rw [List.getElem_append_left (by rw [bitL_length]; omega), el n _ hn, el _ _ hd]
   congr 2
   rw [Nat.div_div_eq_div_mul, ← Nat.pow_add]
   congr 2; omega
  ·rw [List.getElem_append_right (by rw [bitL_length]; omega), el n _ hn, el _ _ hm]
   have e : H + L - 1 - i = L - 1 - (i - (bitL ((n / 2 ^ L : Nat) : Int) H 0).length) := by rw [bitL_length]; omega
   rw [e]
   congr 1
   generalize hj : L - 1 - (i - (bitL ((n / 2 ^ L : Nat) : Int) H 0).length) = j
   have hjl : j + 1 ≤ L := by omega
   have : L = j + 1 + (L - j - 1) := by omega
   rw [this, Nat.pow_add]
   have hp : 2 ^ (j + 1) = 2 ^ j * 2 := rfl
   have hm1 : n % (2 ^ (j + 1) * 2 ^ (L - j - 1)) % 2 ^ (j + 1) = n % 2 ^ (j + 1) := Nat.mod_mul_right_mod _ _ _
   have q : ∀ m : Nat, m / 2 ^ j % 2 = m % 2 ^ (j + 1) / 2 ^ j := by
    intro m; rw [hp, Nat.mod_mul_right_div_self]
   rw [q n, q (n % _), hm1]
theorem bytes_some {l : List Int} (h : ∀ x ∈ l, bit x) (hl : l.length ≤ 10000) (k : Nat) (hk : l.length < k) : bits_Bytes.f k l = some ((List.range ((l.length + 7) / 8)).map (byte l), 0) := by
 unfold bits_Bytes.f
 have hb : l.any big = false := by
  rw [List.any_eq_false]; intro x hx
  have := h x hx
  unfold bit at this; unfold big; simp; omega
 rw [right_f l (by omega) k hk, hb, Option.bind_some, if_pos (by decide), if_pos (by omega)]
end
section
open Go
theorem snoc_ind {P : List Int → Prop} (h0 : P []) (h1 : ∀ l b, P l → P (l ++ [b])) : ∀ l, P l := by
 intro l
 rw [← List.reverse_reverse l]
 induction l.reverse with
 | nil => exact h0
 | cons a t ih => rw [List.reverse_cons]; exact h1 _ _ ih
def num (l : List Int) : Nat := l.foldl (fun n b => 2 * n + b.toNat) 0
theorem num_snoc (l : List Int) (b : Int) : num (l ++ [b]) = 2 * num l + b.toNat := by simp [num]
theorem num_lt (l : List Int) (h : ∀ x ∈ l, bit x) : num l < 2 ^ l.length := by
 revert h
 induction l using snoc_ind with
 | h0 => intro _; simp [num]
 | h1 l b ih =>
  intro h
  rw [num_snoc, List.length_append, show [b].length = 1 from rfl, Nat.pow_succ]
  have h1 := ih (fun x hx => h x (List.mem_append.2 (.inl hx)))
  have h2 := h b (by simp)
  unfold bit at h2
  omega
theorem tk_step (n : Nat) (hn : n < 2 ^ 32) (b : Int) (hb : bit b) : tkS (n : Int) b = ((2 * n + b.toNat : Nat) : Int) := by
 unfold tkS
 have hb2 : b.toNat < 2 := by unfold bit at hb; omega
 have e1 : wrap64 ((n : Int) * 2) = ((2 * n : Nat) : Int) := by rw [wrap_in (by omega) (by omega)]; omega
 have e2 : wrap64 b = ((b.toNat : Nat) : Int) := by
  unfold bit at hb; rw [wrap_in (by omega) (by omega)]; omega
 rw [e1, e2, i64_or_nat _ _ (by omega) (by omega)]
 have := Nat.two_pow_add_eq_or_of_lt (i := 1) (b := b.toNat) (by omega) n
 congr 1
 rw [show 2 ^ 1 * n = 2 * n by omega] at this
 exact this.symm
theorem tk_fold (l : List Int) (h : ∀ x ∈ l, bit x) (hl : l.length ≤ 32) : l.foldl tkS 0 = ((num l : Nat) : Int) := by
 revert h hl
 induction l using snoc_ind with
 | h0 => intro _ _; rfl
 | h1 l b ih =>
  intro h hl
  rw [List.length_append, show [b].length = 1 from rfl] at hl
  have hb : ∀ x ∈ l, bit x := fun x hx => h x (List.mem_append.2 (.inl hx))
  have := num_lt l hb
  have h2 : 2 ^ l.length ≤ 2 ^ 32 := Nat.pow_le_pow_right (by decide) (by omega)
  rw [List.foldl_append, ih hb (by omega), List.foldl_cons, List.foldl_nil, tk_step _ (by omega) b (h b (by simp)), num_snoc]
end
section
open Go
theorem num_bitL (W : Nat) : ∀ n : Nat, n < 2 ^ W → n < 9223372036854775808 → num (bitL (n : Int) W 0) = n := by
 induction W with
 | zero => intro n hn _; simp [bitL, num]; omega
 | succ W ih =>
  intro n hn h6
  have e := bitL_two n W 1 h6
  rw [show W + 1 = W + 1 from rfl, e]
  have hd : n / 2 ^ 1 < 2 ^ W := by rw [Nat.pow_succ] at hn; omega
  have h1 : bitL ((n % 2 ^ 1 : Nat) : Int) 1 0 = [((n % 2 : Nat) : Int)] := by
   have hm : n % 2 ^ 1 < 9223372036854775808 := by omega
   simp only [bitL, show (1 - 0 : Nat) = 1 from rfl, List.range_one, List.map_cons, List.map_nil]
   rw [bitv_nat _ _ hm]
   simp
  rw [h1, num_snoc, ih _ hd (by omega)]
  omega
theorem putE_val (n wd : Int) : putE n wd = 0 → 0 ≤ n ∧ 1 ≤ wd ∧ wd ≤ 32 ∧ n < 2 ^ wd.toNat := by
 intro h
 unfold putE at h
 by_cases hw : bitioWidthF wd = true
 ·rw [if_pos hw] at h
  have hw2 : 1 ≤ wd ∧ wd ≤ 32 := by simpa [bitioWidthF] using hw
  by_cases hn : n < 0
  ·rw [if_pos hn] at h; omega
  ·rw [if_neg hn] at h
   by_cases hz : n / 2 ^ wd.toNat = 0
   ·refine ⟨by omega, hw2.1, hw2.2, ?_⟩
    have hp : (0 : Int) < 2 ^ wd.toNat := Int.pow_pos (by decide)
    exact Int.lt_of_not_ge fun hge => by
     have := Int.le_ediv_of_mul_le hp (show 1 * 2 ^ wd.toNat ≤ n by rw [Int.one_mul]; exact hge)
     omega
   ·rw [if_neg hz] at h; omega
 ·rw [if_neg hw] at h; omega
theorem putL_bit (n wd : Int) (hb : -9223372036854775808 ≤ n ∧ n ≤ 9223372036854775807) : ∀ x ∈ putL n wd, bit x := by
 intro x hx
 unfold putL at hx
 by_cases h : putE n wd = 0
 ·rw [if_pos h] at hx
  have hv := putE_val n wd h
  obtain ⟨m, rfl⟩ := Int.eq_ofNat_of_zero_le hv.1
  exact bitL_bit m _ 0 (by omega) x hx
 ·rw [if_neg h] at hx; cases hx
theorem putL_len (n wd : Int) (h : putE n wd = 0) : ((putL n wd).length : Int) = wd := by
 have hv := putE_val n wd h
 unfold putL
 rw [if_pos h, bitL_length]; omega
theorem take_put (n wd : Int) (r : List Int) (h : putE n wd = 0) : tkE (putL n wd ++ r) wd = 0 ∧ tkN (putL n wd ++ r) wd = n ∧ tkL (putL n wd ++ r) wd = r := by
 have hv := putE_val n wd h
 have hl := putL_len n wd h
 have hw : bitioWidthF wd = true := by unfold bitioWidthF; rw [Bool.and_eq_true]; exact ⟨decide_eq_true hv.2.1, decide_eq_true hv.2.2.1⟩
 have e : tkE (putL n wd ++ r) wd = 0 := by
  unfold tkE; rw [hw, if_pos rfl, if_neg (by rw [List.length_append]; omega)]
 obtain ⟨m, rfl⟩ := Int.eq_ofNat_of_zero_le hv.1
 obtain ⟨W, rfl⟩ := Int.eq_ofNat_of_zero_le (show 0 ≤ wd by omega)
 have hlW : (putL (m : Int) (W : Int)).length = W := by omega
 have e3 : ((2 : Int) ^ W) = ((2 ^ W : Nat) : Int) := by simp
 have hm : m < 2 ^ W := by have := hv.2.2.2; rw [Int.toNat_natCast, e3] at this; omega
 have hp : 2 ^ W ≤ 2 ^ 32 := Nat.pow_le_pow_right (by decide) (by omega)
 refine ⟨e, ?_, ?_⟩
 ·unfold tkN
  rw [if_pos e, Int.toNat_natCast, List.take_append_of_le_length (by omega), List.take_of_length_le (by omega)]
  unfold putL
  rw [if_pos h, Int.toNat_natCast, tk_fold _ (bitL_bit m W 0 (by omega)) (by rw [bitL_length]; omega), num_bitL W m hm (by omega)]
 ·unfold tkL
  rw [if_pos e, Int.toNat_natCast, List.drop_append_of_le_length (by omega), List.drop_of_length_le (by omega)]; rfl
theorem bits8_byte (l : List Int) (h : ∀ x ∈ l, bit x) (x : Nat) : ∀ k, k < 8 → (bits8a (byte l x)).getD k 0 = l.getD (8 * x + k) 0 := by
 intro k hk
 obtain ⟨r, hr⟩ := eight l h x
 have e : byte l x = (r.val : Int) := by
  rw [byte_rb l h x, rb_congr l (bits8a (r.val : Int)) x 0 8 hr]; exact rb_all r
 rw [e, hr k hk]
 simp
theorem ofl_bytes (l : List Int) (h : ∀ x ∈ l, bit x) : ∃ z : Nat, z < 8 ∧ ofl ((List.range ((l.length + 7) / 8)).map (byte l)) = l ++ List.replicate z 0 := by
 refine ⟨8 * ((l.length + 7) / 8) - l.length, by omega, ?_⟩
 apply List.ext_getElem
 ·rw [ofl_length, List.length_map, List.length_range, List.length_append, List.length_replicate]; omega
 ·intro i h1 h2
  rw [ofl_length, List.length_map, List.length_range] at h1
  have hx : i / 8 < (l.length + 7) / 8 := by omega
  have e := ofl_getD ((List.range ((l.length + 7) / 8)).map (byte l)) (i / 8) (by simpa using hx) (i % 8) (Nat.mod_lt _ (by decide))
  rw [show 8 * (i / 8) + i % 8 = i by omega, List.getElem_map, List.getElem_range, show 8 * 0 + i % 8 = i % 8 by omega, bits8_byte l h _ _ (Nat.mod_lt _ (by decide)), show 8 * (i / 8) + i % 8 = i by omega] at e
  rw [List.getD_eq_getElem?_getD, List.getElem?_eq_getElem (by rw [ofl_length, List.length_map, List.length_range]; exact h1)] at e
  simp only [Option.getD_some] at e
  rw [e]
  by_cases hi : i < l.length
  ·rw [List.getElem_append_left hi, List.getD_eq_getElem?_getD, List.getElem?_eq_getElem hi]; rfl
  ·rw [List.getElem_append_right (by omega), List.getElem_replicate, List.getD_eq_getElem?_getD, List.getElem?_eq_none (by omega)]; rfl
end
def rnd (n : BitVec 16) : BitVec 16 := if n.msb then (n <<< 1) ^^^ 0x1021#16 else n <<< 1
def stp (n : BitVec 16) (c : BitVec 8) : BitVec 16 := it rnd 8 (n ^^^ (c.setWidth 16 <<< 8))
def stpI (n : BitVec 16) (c : Int) : BitVec 16 := stp n (BitVec.ofInt 8 c)
def sum16 (l : List Int) : BitVec 16 := l.foldl stpI 0xFFFF#16
theorem and_top (n : BitVec 16) : (Go.bits .and .u16 (n.toNat : Int) 32768 = 0) ↔ n.msb = false := by
 have h := Go.u16_and_nat n.toNat 32768 n.isLt (by decide)
 have e : ((32768 : Nat) : Int) = 32768 := rfl
 rw [e] at h
 rw [h, show (32768 : Nat) = 2 ^ 15 from rfl, Go.nat_bit, BitVec.msb_eq_decide]
 have := n.isLt
 simp only [decide_eq_false_iff_not]
 omega
theorem dbl16 (n : BitVec 16) : IntKind.u16.wrap ((n.toNat : Int) * 2) = ((n <<< 1).toNat : Int) := by
 rw [IntKind.wrap_u16, BitVec.toNat_shiftLeft, Nat.shiftLeft_eq]
 omega
theorem xor16 (a b : BitVec 16) : Go.bits .xor .u16 (a.toNat : Int) (b.toNat : Int) = ((a ^^^ b).toNat : Int) := by
 rw [Go.u16_xor_nat _ _ a.isLt b.isLt, BitVec.toNat_xor]
theorem step_l0 (d : Nat) : ∀ (k : Nat) (n : BitVec 16) (i : Int), i = 8 - (d : Int) → d ≤ 8 → d < k →
  crc16_step.l0 k (n.toNat : Int) i = some ((it rnd d n).toNat : Int) := by
 induction d with
 | zero =>
  intro k n i hi _ hk
  obtain ⟨k, rfl⟩ := pred hk
  simp only [crc16_step.l0]
  rw [if_neg (by omega)]; rfl
 | succ d ih =>
  intro k n i hi hd hk
  obtain ⟨k, rfl⟩ := pred hk
  simp only [crc16_step.l0]
  rw [if_pos (by omega), dbl16, show wrap64 (i + 1) = i + 1 from wrap_in (by omega) (by omega)]
  by_cases hm : n.msb = true
  ·have hx : Go.bits .xor .u16 ((n <<< 1).toNat : Int) 4129 = (((n <<< 1) ^^^ 0x1021#16).toNat : Int) := xor16 (n <<< 1) 0x1021#16
   rw [if_neg (fun h => by rw [(and_top n).1 h] at hm; cases hm), hx, it_succ, show rnd n = (n <<< 1) ^^^ 0x1021#16 from if_pos hm]
   exact ih k _ (i + 1) (by omega) (by omega) (by omega)
  ·have hm' : n.msb = false := by simpa using hm
   rw [if_pos ((and_top n).2 hm'), it_succ, show rnd n = n <<< 1 from if_neg hm]
   exact ih k _ (i + 1) (by omega) (by omega) (by omega)
theorem step_f (k : Nat) (n : BitVec 16) (c : Int) (hc : 0 ≤ c ∧ c ≤ 255) (hk : 8 < k) : crc16_step.f k (n.toNat : Int) c = some ((stpI n c).toNat : Int) := by
 unfold crc16_step.f
 have e : IntKind.u16.wrap ((IntKind.u16.wrap c) * 256) = ((((BitVec.ofInt 8 c).setWidth 16) <<< 8).toNat : Int) := by
  obtain ⟨m, rfl⟩ := Int.eq_ofNat_of_zero_le hc.1
  rw [IntKind.wrap_u16, IntKind.wrap_u16, BitVec.toNat_shiftLeft, BitVec.toNat_setWidth, Nat.shiftLeft_eq, BitVec.ofInt_natCast, BitVec.toNat_ofNat]
  omega
 rw [e, xor16]
 exact step_l0 8 k _ 0 rfl (by omega) hk
theorem sum_l0 (l : List Int) (hlen : l.length ≤ 140737488355328) (hw : ∀ x ∈ l, 0 ≤ x ∧ x ≤ 255) (d : Nat) : ∀ (k : Nat) (n : BitVec 16) (i : Nat), i + d = l.length → d + 10 ≤ k →
  crc16_Sum.l0 k (n.toNat : Int) l (l.length : Int) (i : Int) = some (((l.drop i).foldl stpI n).toNat : Int) := by
 induction d with
 | zero =>
  intro k n i hi hk
  obtain ⟨k, rfl⟩ := pred (show 0 < k by omega)
  simp only [crc16_Sum.l0]
  rw [if_neg (by omega), List.drop_eq_nil_of_le (by omega)]; rfl
 | succ d ih =>
  intro k n i hi hk
  obtain ⟨k, rfl⟩ := pred (show 0 < k by omega)
  have hlt : i < l.length := by omega
  simp only [crc16_Sum.l0]
  rw [if_pos (by omega), if_pos (by omega), if_pos (by omega), rd_get l i hlt, step_f k n _ (hw _ (List.getElem_mem hlt)) (by omega)]
  simp only [Option.bind_some]
  rw [wrap_succ i (by omega), drop_cons l i hlt]
  exact ih k _ (i + 1) (by omega) (by omega)
theorem sum_f (l : List Int) (hlen : l.length ≤ 140737488355328) (hw : ∀ x ∈ l, 0 ≤ x ∧ x ≤ 255) (k : Nat) (hk : l.length + 10 ≤ k) : crc16_Sum.f k l = some ((sum16 l).toNat : Int) := by
 have := sum_l0 l hlen hw l.length k 0xFFFF#16 0 (by omega) hk
 exact this
theorem rnd_xor (a b : BitVec 16) : rnd (a ^^^ b) = rnd a ^^^ rnd b := by
 unfold rnd
 rw [BitVec.msb_xor, BitVec.shiftLeft_xor_distrib]
 cases ha : a.msb <;> cases hb : b.msb <;> simp
 ·ac_rfl
 ·ac_rfl
 ·generalize a <<< 1 = x
  generalize b <<< 1 = y
  rw [show x ^^^ 4129#16 ^^^ (y ^^^ 4129#16) = (x ^^^ y) ^^^ (4129#16 ^^^ 4129#16) by ac_rfl]
  simp
theorem it_xor (d : Nat) : ∀ a b : BitVec 16, it rnd d (a ^^^ b) = it rnd d a ^^^ it rnd d b := by
 induction d with
 | zero => intro a b; rfl
 | succ d ih => intro a b; rw [it_succ, it_succ, it_succ, rnd_xor, ih]
def two (s : BitVec 16) : List Int := [(s.toNat : Int) / 256, (s.toNat : Int) % 256]
theorem two_in (s : BitVec 16) : ∀ x ∈ two s, 0 ≤ x ∧ x ≤ 255 := by
 have := s.isLt
 intro x hx
 simp only [two, List.mem_cons, List.not_mem_nil, or_false] at hx
 rcases hx with rfl | rfl <;> omega
theorem seal_f (l : List Int) (hl : l.length ≤ 1000) (hw : ∀ x ∈ l, 0 ≤ x ∧ x ≤ 255) (k : Nat) (hk : l.length + 10 ≤ k) : crc16_Seal.f k l = some (l ++ two (sum16 l)) := by
 unfold crc16_Seal.f slices_Clone_byte_byte.f
 have := (sum16 l).isLt
 rw [sum_f l (by omega) hw k hk, if_pos (by omega)]
 simp only [Option.bind_some, List.length_cons, List.length_nil]
 rw [if_pos (by omega), two, show ((sum16 l).toNat : Int) / 256 % 256 = ((sum16 l).toNat : Int) / 256 by omega]
theorem rnd_zero {z : BitVec 16} (h : rnd z = 0) : z = 0 := by
 have hz := z.isLt
 have hm : z.msb = decide (2 ^ 15 ≤ z.toNat) := BitVec.msb_eq_decide z
 unfold rnd at h
 by_cases c : z.msb = true
 ·rw [if_pos c] at h
  have h2 : z <<< 1 = 0x1021#16 := by
   have e : (z <<< 1 ^^^ 0x1021#16) ^^^ 0x1021#16 = 0 ^^^ 0x1021#16 := by rw [h]
   rw [BitVec.xor_assoc, BitVec.xor_self, BitVec.xor_zero] at e
   rw [e]; decide
  have h3 := congrArg BitVec.toNat h2
  rw [BitVec.toNat_shiftLeft, Nat.shiftLeft_eq] at h3
  have : (0x1021#16).toNat = 4129 := rfl
  omega
 ·rw [if_neg c] at h
  have h3 := congrArg BitVec.toNat h
  rw [BitVec.toNat_shiftLeft, Nat.shiftLeft_eq] at h3
  have h0 : (0 : BitVec 16).toNat = 0 := rfl
  have hlt : ¬ 2 ^ 15 ≤ z.toNat := by rw [hm] at c; simpa using c
  apply BitVec.eq_of_toNat_eq
  omega
theorem it_zero (d : Nat) : ∀ {z : BitVec 16}, it rnd d z = 0 → z = 0 := by
 induction d with
 | zero => intro z h; exact h
 | succ d ih => intro z h; rw [it_succ] at h; exact rnd_zero (ih h)
theorem it_z (d : Nat) : it rnd d 0 = 0 := by
 induction d with
 | zero => rfl
 | succ d ih => rw [it_succ, show rnd 0 = 0 from by decide]; exact ih
theorem it_low : ∀ y : BitVec 8, it rnd 8 (y.setWidth 16) = y.setWidth 16 <<< 8 := by decide +kernel
theorem stp_two (s : BitVec 16) (x y : BitVec 8) : stp (stp s x) y = it rnd 16 (s ^^^ (x.setWidth 16 <<< 8) ^^^ y.setWidth 16) := by
 unfold stp
 rw [← it_low y, ← it_xor, ← it_add rnd 8 8]
theorem stp_end (s : BitVec 16) (x y : Int) (hx : 0 ≤ x ∧ x ≤ 255) (hy : 0 ≤ y ∧ y ≤ 255) : stpI (stpI s x) y = 0 ↔ [x, y] = two s := by
 have hs := s.isLt
 unfold stpI
 rw [stp_two]
 obtain ⟨a, rfl⟩ := Int.eq_ofNat_of_zero_le hx.1
 obtain ⟨b, rfl⟩ := Int.eq_ofNat_of_zero_le hy.1
 have ea : ((BitVec.ofInt 8 (a : Int)).setWidth 16 <<< 8).toNat = a * 256 := by
  rw [BitVec.toNat_shiftLeft, BitVec.toNat_setWidth, Nat.shiftLeft_eq, BitVec.ofInt_natCast, BitVec.toNat_ofNat]; omega
 have eb : ((BitVec.ofInt 8 (b : Int)).setWidth 16).toNat = b := by
  rw [BitVec.toNat_setWidth, BitVec.ofInt_natCast, BitVec.toNat_ofNat]; omega
 have eab : ((BitVec.ofInt 8 (a : Int)).setWidth 16 <<< 8 ^^^ (BitVec.ofInt 8 (b : Int)).setWidth 16).toNat = a * 256 + b := by
  rw [BitVec.toNat_xor, ea, eb, show a * 256 = 2 ^ 8 * a by omega]
  have hb : b < 2 ^ 8 := by omega
  have h1 := Nat.two_pow_add_eq_or_of_lt hb a
  have h2 : 2 ^ 8 * a &&& b = 0 := by
   apply Nat.eq_of_testBit_eq
   intro i
   rw [Nat.testBit_and, Nat.zero_testBit, Nat.testBit_two_pow_mul]
   by_cases hi : i < 8
   ·simp; intro h8; omega
   ·rw [Nat.testBit_lt_two_pow (Nat.lt_of_lt_of_le hb (Nat.pow_le_pow_right (by decide) (by omega)))]; simp
  have h3 : ∀ p q : Nat, p &&& q = 0 → p ^^^ q = p ||| q := by
   intro p q h
   apply Nat.eq_of_testBit_eq
   intro i
   have := congrArg (fun z => Nat.testBit z i) h
   simp only [Nat.testBit_and, Nat.zero_testBit] at this
   rw [Nat.testBit_xor, Nat.testBit_or]
   cases hp : p.testBit i <;> cases hq : q.testBit i <;> simp_all
  rw [h3 _ _ h2, ← h1]
 constructor
 ·intro h
  have h0 := it_zero 16 h
  have e : s = (BitVec.ofInt 8 (a : Int)).setWidth 16 <<< 8 ^^^ (BitVec.ofInt 8 (b : Int)).setWidth 16 := by
   rw [BitVec.xor_assoc] at h0
   exact BitVec.xor_eq_zero_iff.1 h0
  have := congrArg BitVec.toNat e
  rw [eab] at this
  unfold two
  rw [this]
  congr 1
  ·omega
  ·congr 1; omega
 ·intro h
  simp only [two, List.cons.injEq, and_true] at h
  have e : s = (BitVec.ofInt 8 (a : Int)).setWidth 16 <<< 8 ^^^ (BitVec.ofInt 8 (b : Int)).setWidth 16 := by
   apply BitVec.eq_of_toNat_eq
   rw [eab]; omega
  rw [BitVec.xor_assoc, ← e, BitVec.xor_self]
  exact it_z 16
theorem sum_end (l : List Int) (hw : ∀ x ∈ l, 0 ≤ x ∧ x ≤ 255) (h2 : 2 ≤ l.length) : sum16 l = 0 ↔ l.take (l.length - 2) ++ two (sum16 (l.take (l.length - 2))) = l := by
 obtain ⟨x, y, e⟩ : ∃ x y, l.drop (l.length - 2) = [x, y] := by
  have hl : (l.drop (l.length - 2)).length = 2 := by rw [List.length_drop]; omega
  generalize l.drop (l.length - 2) = m at hl
  match m, hl with
  | [x, y], _ => exact ⟨x, y, rfl⟩
 have hx : x ∈ l.drop (l.length - 2) := by rw [e]; exact List.mem_cons_self
 have hy : y ∈ l.drop (l.length - 2) := by rw [e]; exact List.mem_cons_of_mem _ List.mem_cons_self
 have hs : l = l.take (l.length - 2) ++ [x, y] := by rw [← e, List.take_append_drop]
 have key : sum16 l = stpI (stpI (sum16 (l.take (l.length - 2))) x) y := by
  conv => lhs; rw [hs]
  unfold sum16
  rw [List.foldl_append]; rfl
 rw [key, stp_end _ x y (hw x (List.mem_of_mem_drop hx)) (hw y (List.mem_of_mem_drop hy))]
 constructor
 ·intro h; rw [← h]; exact hs.symm
 ·intro h
  have := h.trans hs
  exact (List.append_cancel_left this).symm
theorem rightc_f (l : List Int) (hl : l.length ≤ 1000) (hw : ∀ x ∈ l, 0 ≤ x ∧ x ≤ 255) (k : Nat) (hk : l.length + 10 ≤ k) : crc16_Right.f k l = some (decide (2 ≤ l.length ∧ sum16 l = 0)) := by
 unfold crc16_Right.f
 by_cases h : 2 ≤ l.length
 ·rw [if_pos (by omega), sum_f l (by omega) hw k hk]
  simp only [Option.bind_some, h, true_and]
  congr 1
  by_cases z : sum16 l = 0
  ·rw [z]; rfl
  ·rw [decide_eq_false z]
   refine beq_eq_false_iff_ne.2 fun e => z (BitVec.eq_of_toNat_eq ?_)
   have : (0 : BitVec 16).toNat = 0 := rfl
   omega
 ·rw [if_neg (by omega), decide_eq_false (fun z => h z.1)]
end Go.Proofs.YtajiggmeappfaaaGreatDoor.P
namespace Go.Proofs.YtajiggmeappfaaaGreatDoor.P
open Go.RowKit Go.Proofs.YtajiggmeappfaaaGreatDoorW.PrintWords Go.Proofs.YtajiggmeappfaaaGreatDoorW.PrintLast Go.Proofs.YtajiggmeappfaaaGreatDoorW.PrintMore
set_option maxRecDepth 100000
set_option maxHeartbeats 8000000
set_option linter.unusedVariables false
set_option linter.unusedSimpArgs false
-- YtajiggmeappfaaaGreatDoorP11
section
attribute [local go_sem] max2_int min2_int max_two min_two max_three min_three max_four min_four
def crc32_bytes.l0 : Nat → Int → List Int → Int → Option (List Int)
 | 0, _, _, _ => none
 | k + 1, x0, x3, x4 => if x4 < 4 then (if x3.length < 140737488355328 then (crc32_bytes.l0 k (x0 / 256) (x3 ++ [(x0) % 256]) (wrap64 (x4 + 1))) else (none)) else (some x3)
def crc32_bytes.f (k : Nat) (a0 : Int) : Option (List Int) := crc32_bytes.l0 k a0 ([] : List Int) 0
theorem crc32_bytes.mono_l : ∀ k, (∀ y0 y1 y2, LeO (crc32_bytes.l0 k y0 y1 y2) (crc32_bytes.l0 (k + 1) y0 y1 y2))
 | 0 => fun _ _ _ r h => by simp [crc32_bytes.l0] at h
 | k + 1 => by
  have ih0 := crc32_bytes.mono_l k
  ·intro y0 y1 y2
   unfold crc32_bytes.l0
   repeat' first
   | (with_reducible exact ih0 _ _ _)
   | (with_reducible exact LeO.refl _)
   | (with_reducible exact LeO.none _)
   | (with_reducible refine LeO.ite ?_ ?_)
   | (with_reducible refine LeO.bind ?_ (fun _ => ?_))
   | exact ih0 _ _ _
   | exact LeO.none _
   | refine LeO.ite ?_ ?_
   | refine LeO.bind ?_ (fun _ => ?_)
theorem crc32_bytes.mono : ∀ a0 k, LeO (crc32_bytes.f k a0) (crc32_bytes.f (k + 1) a0) := by
 intro a0 k
 have ih0 := crc32_bytes.mono_l k
 unfold crc32_bytes.f
 repeat' first
   | (with_reducible exact ih0 _ _ _)
   | (with_reducible exact LeO.refl _)
   | (with_reducible exact LeO.none _)
   | (with_reducible refine LeO.ite ?_ ?_)
   | (with_reducible refine LeO.bind ?_ (fun _ => ?_))
   | exact ih0 _ _ _
   | exact LeO.none _
   | refine LeO.ite ?_ ?_
   | refine LeO.bind ?_ (fun _ => ?_)
theorem crc32_bytes.calls (k : Nat) (a0 : Int) (r : List Int) (w : World) (h : crc32_bytes.f k a0 = some r) :
  Calls Tryz.prog 113 #[.int .u32 a0] w fun e w' => ∃ v0_ : Value, e = .returned (v0_) ∧ Kd.R (Kd.int .u8) 5 w' w.heap.size (fun _ => True) v0_ r ∧ Below w.heap.size w w' := by
 have HB := ax (Below.refl w.heap.size w)
 have H : (crc32_bytes.l0 k a0 ([] : List Int) 0) = some r := h
 clear h
 have H' := ax H
 clear H
 go_enter Tryz.func113, Tryz.ntmps113
 go_wp2
 go_loopg [0, 3, 4] k (fun kq v0 v3 v4 w' => ∃ (x0_1 : Int) (x3_1 : List Int) (x4_1 : Int), v0 = .int .u32 x0_1 ∧ v4 = .int .i64 x4_1 ∧ Aside0 (crc32_bytes.l0 kq x0_1 x3_1 x4_1 = some r) ∧ Aside0 (kq ≤ k) ∧ Aside0 (Kd.R (Kd.int .u8) 5 w' w.heap.size (fun _ => True) v3 x3_1) ∧ Aside0 (Below w.heap.size w w'))
 case atStart => exact ⟨(a0), (([] : List Int)), (0), rs_, rs_, H', ⟨Nat.le_refl _⟩, ⟨by first | exact Kd.R_nil _ _ _ _ _ | exact Kd.N_nil _ _ _ _ _ | exact Kd.V_nil _ _ _ _ _ | exact Kd.Q_nil _ _ _ _ _ | exact Kd.S_nil _ _ _ _ _⟩, ⟨bl_⟩⟩
 case round =>
  clear H'
  try clear c1
  obtain ⟨x0_1, x3_1, x4_1, rfl, rfl, HA, HK1, HO_3, HB⟩ := hrel
  cases gk with
  | zero => exact absurd HA.out (by simp [crc32_bytes.l0])
  | succ k1 =>
   have H := HA.out
   clear HA
   simp only [crc32_bytes.l0] at H
   by_cases c2 : x4_1 < 4
   ·rw [if_pos c2] at H
    have c2b0 : decide (x4_1 < 4) = true := decide_eq_true c2
    clear c2
    by_cases c3 : x3_1.length < 140737488355328
    ·rw [if_pos c3] at H
     have LMc3 := ax c3
     clear c3
     obtain ⟨y105, hy105⟩ : ∃ y_ : List Int, y_ = (x3_1 ++ [(x0_1) % 256]) := ⟨_, rfl⟩
     replace H : (crc32_bytes.l0 k1 (x0_1 / 256) y105 (wrap64 (x4_1 + 1))) = some r := by first | (rw [hy105]; with_reducible exact H) | (have H2_ := (Option.bind_some _ _).symm.trans H; rw [hy105]; with_reducible exact H2_) | (have H2_ := (Option.bind_some _ _).symm.trans H; with_reducible exact H2_) | with_reducible exact H | (rw [hy105]; exact H) | exact H
     have Ny105 := ax hy105
     clear hy105
     have H' := ax H
     clear H
     go_wp2_with (first | ((with_reducible refine gate_builtin (b := .append) (xs := #[.tmp 6, .tmp 9]) rfl ?_); at_builtin; refine Kd.R_append (Kd.int .u8) (w0 := w) w.heap.size rfl (.tmp 6) (.tmp 9) 37 5 (.int .u8 0) 1 rfl Tryz.underlying37 info5 rfl (by decide) (by omega) u3 x3_1 ((x0_1) % 256) [.int .u8 ((x0_1) % 256)] (fun _ => True) (fun _ => False) rfl rfl ?aP (fun _ hk => hk.elim) ?aF ?aO ?aB ?aS ?aL ?_; (case aP => exact rfl); (case aB => exact bl_); (case aF => exact (fun _ _ => trivial)); (case aO => exact (kR_ HO_3.out)); (case aS => exact (below_size bl_)); (case aL => have := LMc3.out; omega); intro v106 w4 ho hb hg hat; rw [← Ny105.out] at ho; have n0_ := ax (hb); have n1_ := ax (ho); clear HB; clear HO_3; have HB := n0_; have HO107 := n1_; clear n0_ n1_; clear ho hb hg hat))
     go_roundg k1
     case measure => have := HK1.out; omega
     case rel => exact ⟨(x0_1 / 256), (y105), (wrap64 (x4_1 + 1)), rs_, rs_, H', ⟨by have := HK1.out; omega⟩, ⟨by (with_reducible repeat (first | apply Kd.R_alloc | apply Kd.R_drewN | apply Kd.R_drew)); exact HO107.out⟩, ⟨bl_⟩⟩
    ·rw [if_neg c3] at H
     exact absurd H (by simp)
   ·rw [if_neg c2] at H
    have c2b0 : decide (x4_1 < 4) = false := decide_eq_false c2
    clear c2
    obtain rfl := Option.some.inj H
    go_wp2
    go_ret
    exact ⟨_, by first | rfl | (simp [errW_none, errW_some] <;> rfl) | (simp [*, errW_none, errW_some] <;> rfl), by (with_reducible repeat (first | apply Kd.R_alloc | apply Kd.R_drewN | apply Kd.R_drew)); exact HO_3.out, bl_⟩
end
-- YtajiggmeappfaaaGreatDoorP12
section
attribute [local go_sem] max2_int min2_int max_two min_two max_three min_three max_four min_four
def crc32_Close.f (k : Nat) (l0 : List Int) : Option (List Int) := (slices_Clone_byte_byte.f l0).bind fun t108 => ((crc32_Sum.f l0).bind fun t111 => ((crc32_bytes.f k t111).bind fun t112 => (if t108.length + t112.length < 140737488355328 then (some (t108 ++ t112)) else (none))))
theorem crc32_Close.mono : ∀ a0 k, LeO (crc32_Close.f k a0) (crc32_Close.f (k + 1) a0) := by
 intro a0 k
 unfold crc32_Close.f
 repeat' first
   | (with_reducible exact crc32_bytes.mono _ _)
   | (with_reducible exact LeO.refl _)
   | (with_reducible exact LeO.none _)
   | (with_reducible refine LeO.ite ?_ ?_)
   | (with_reducible refine LeO.bind ?_ (fun _ => ?_))
   | exact crc32_bytes.mono _ _
   | exact LeO.none _
   | refine LeO.ite ?_ ?_
   | refine LeO.bind ?_ (fun _ => ?_)
theorem crc32_Close.calls (k : Nat) (A0 : Option Addr) (c0 : Nat) (l0 : List Int) (r : List Int) (w : World) (hr0 : Kd.C (Kd.int .u8) w A0 l0.length l0) (hc0 : l0.length ≤ c0) (h : crc32_Close.f k l0 = some r) :
  Calls Tryz.prog 58 #[.slice A0 l0.length c0] w fun e w' => ∃ v0_ : Value, e = .returned (v0_) ∧ Kd.R (Kd.int .u8) 5 w' w.heap.size (fun _ => True) v0_ r ∧ Below w.heap.size w w' := by
 have HR0 := ax hr0
 have HC0 := ax hc0
 clear hr0 hc0
 have HB := ax (Below.refl w.heap.size w)
 have H : ((slices_Clone_byte_byte.f l0).bind fun t108 => ((crc32_Sum.f l0).bind fun t111 => ((crc32_bytes.f k t111).bind fun t112 => (if t108.length + t112.length < 140737488355328 then (some (t108 ++ t112)) else (none))))) = some r := h
 clear h
 replace H := Option.bind_eq_some_iff.mp H
 obtain ⟨t108, A20, H⟩ := H
 replace H : ((crc32_Sum.f l0).bind fun t111 => ((crc32_bytes.f k t111).bind fun t112 => (if t108.length + t112.length < 140737488355328 then (some (t108 ++ t112)) else (none)))) = some r := H
 have A2 := ax A20
 clear A20
 replace H := Option.bind_eq_some_iff.mp H
 obtain ⟨t111, A30, H⟩ := H
 replace H : ((crc32_bytes.f k t111).bind fun t112 => (if t108.length + t112.length < 140737488355328 then (some (t108 ++ t112)) else (none))) = some r := H
 have A3 := ax A30
 clear A30
 replace H := Option.bind_eq_some_iff.mp H
 obtain ⟨t112, A40, H⟩ := H
 replace H : (if t108.length + t112.length < 140737488355328 then (some (t108 ++ t112)) else (none)) = some r := H
 have A4 := ax A40
 clear A40
 by_cases c5 : t108.length + t112.length < 140737488355328
 ·rw [if_pos c5] at H
  have LMc5 := ax c5
  clear c5
  obtain ⟨y115, hy115⟩ : ∃ y_ : List Int, y_ = (t108 ++ t112) := ⟨_, rfl⟩
  replace H : (some y115) = some r := by first | (rw [hy115]; with_reducible exact H) | (have H2_ := (Option.bind_some _ _).symm.trans H; rw [hy115]; with_reducible exact H2_) | (have H2_ := (Option.bind_some _ _).symm.trans H; with_reducible exact H2_) | with_reducible exact H | (rw [hy115]; exact H) | exact H
  have Ny115 := ax hy115
  clear hy115
  obtain rfl := Option.some.inj H
  go_enter Tryz.func58, Tryz.ntmps58
  go_wp2_with (first | ((with_reducible refine gate_callee (f := 112) rfl ?_); refine goesL_ (some 4) rfl rfl Tryz.func112 kr rfl #[.slice A0 l0.length c0] rfl gl_ ?_; (with_reducible refine (slices_Clone_byte_byte.calls _ _ l0 t108 _ ?side1 ?side2 A2.out).mono ?_); (case side1 => repeat (first | exact HR0.out | (with_reducible refine Kd.C_alloc ?_ _) | (with_reducible refine Kd.C_drewN ?_ _) | (with_reducible refine Kd.C_drew ?_))); (case side2 => exact HC0.out); rintro e w6 ⟨v109, rfl, ho0, hb⟩; refine ⟨_, rfl, ?_⟩; have n0_ := ax (Kd.R_lower ho0 (below_size bl_)); have n1_ := ax (below_step bl_ hb); clear HB; have HO110 := n0_; have HB := n1_; clear n0_ n1_; (try clear hb); (try clear hb2); (try clear hk); (try clear hi); (try clear ho0)) | ((with_reducible refine gate_callee (f := 28) rfl ?_); refine goesL_ (some 6) rfl rfl Tryz.func28 kr rfl #[.slice A0 l0.length c0] rfl gl_ ?_; (with_reducible refine (crc32_Sum.calls _ _ l0 t111 _ ?side1 ?side2 A3.out).mono ?_); (case side1 => repeat (first | exact (Kd.C_below HR0.out HB.out) | (with_reducible refine Kd.C_alloc ?_ _) | (with_reducible refine Kd.C_drewN ?_ _) | (with_reducible refine Kd.C_drew ?_))); (case side2 => exact HC0.out); rintro e w7 ⟨rfl, hb⟩; refine ⟨_, rfl, ?_⟩; have n0_ := ax (Kd.R_below (kR_ HO110.out) hb); have n1_ := ax (below_step bl_ hb); clear HO110; clear HB; have HO110 := n0_; have HB := n1_; clear n0_ n1_; (try clear hb); (try clear hb2); (try clear hk); (try clear hi)) | ((with_reducible refine gate_callee (f := 113) rfl ?_); refine goesL_ (some 7) rfl rfl Tryz.func113 kr rfl #[.int .u32 t111] rfl gl_ ?_; (with_reducible refine (crc32_bytes.calls k t111 t112 _ A4.out).mono ?_); rintro e w8 ⟨v113, rfl, ho0, hb⟩; refine ⟨_, rfl, ?_⟩; have n0_ := ax (Kd.R_elder' (kR_ HO110.out) (Kd.R_base ho0) hb); have n1_ := ax (Kd.R_lower (Kd.R_new' ho0 (Kd.R_lt (kR_ HO110.out))) (below_size bl_)); have n2_ := ax (below_step bl_ hb); clear HO110; clear HB; have HO110 := n0_; have HO114 := n1_; have HB := n2_; clear n0_ n1_ n2_; (try clear hb); (try clear hb2); (try clear hk); (try clear hi); (try clear ho0); obtain ⟨Ao10, co10, eo10⟩ := Kd.R_slice HO114.out; subst eo10) | ((with_reducible refine gate_builtin (b := .append) (xs := #[.tmp 4, .tmp 7]) rfl ?_); at_builtin; refine Kd.R_append_rows (Kd.int .u8) (w0 := w) w.heap.size rfl (.tmp 4) (.tmp 7) 37 5 (.int .u8 0) 1 rfl Tryz.underlying37 info5 rfl (by decide) (by omega) v109 t108 t112 _ _ _ (fun k_ => some k_ ≠ (.slice Ao10 t112.length co10 : Value).ownBlock) (fun _ => False) rfl rfl ?aO ?aR (fun _ _ h => h) (fun _ h => h.elim) ?aF ?aB ?aS ?aL ?_; (case aR => repeat (first | exact (Kd.R_reads' HO114.out).2.2 | (with_reducible refine Kd.C_alloc ?_ _) | (with_reducible refine Kd.C_drewN ?_ _) | (with_reducible refine Kd.C_drew ?_))); (case aB => exact bl_); (case aF => exact (fun k_ hk => Kd.fresh' (Kd.R_lt (kR_ HO114.out)) k_ hk)); (case aO => exact (by (with_reducible repeat (first | apply Kd.R_alloc | apply Kd.R_drewN | apply Kd.R_drew)); exact Kd.R_mono HO110.out (fun _ hk => hk.2))); (case aS => exact (below_size bl_)); (case aL => have := LMc5.out; omega); intro v116 w9 ho hb hg hat; rw [← Ny115.out] at ho; have n0_ := ax (Kd.R_after (ok := (fun _ => True)) (kR_ HO114.out) hg hat); have n1_ := ax (hb); have n2_ := ax (ho); clear HO114; clear HB; clear HO110; have HO114 := n0_; have HB := n1_; have HO117 := n2_; clear n0_ n1_ n2_; clear ho hb hg hat))
  go_ret
  exact ⟨_, by first | rfl | (simp [errW_none, errW_some] <;> rfl) | (simp [*, errW_none, errW_some] <;> rfl), by (with_reducible repeat (first | apply Kd.R_alloc | apply Kd.R_drewN | apply Kd.R_drew)); exact Kd.R_mono HO117.out (fun _ hk => trivial), bl_⟩
 ·rw [if_neg c5] at H
  exact absurd H (by simp)
end
-- YtajiggmeappfaaaGreatDoorP145
section
attribute [local go_sem] max2_int min2_int max_two min_two max_three min_three max_four min_four
def slices_Equal_byte_byte.l0 : Nat → List Int → List Int → Int → Int → Option (Bool)
 | 0, _, _, _, _ => none
 | k + 1, x0, x1, x12, x13 => if x13 < x12 then (if 0 ≤ x13 then (if x13 < (x0.length : Int) then (if x13 < (x1.length : Int) then (if (rd x0 x13) = (rd x1 x13) then (slices_Equal_byte_byte.l0 k x0 x1 x12 (wrap64 (x13 + 1))) else (some false)) else (none)) else (none)) else (none)) else (some true)
def slices_Equal_byte_byte.f (k : Nat) (l0 : List Int) (l1 : List Int) : Option (Bool) := if (l0.length : Int) = (l1.length : Int) then (slices_Equal_byte_byte.l0 k l0 l1 (l0.length : Int) 0) else (some false)
theorem slices_Equal_byte_byte.mono_l : ∀ k, (∀ y0 y1 y2 y3, LeO (slices_Equal_byte_byte.l0 k y0 y1 y2 y3) (slices_Equal_byte_byte.l0 (k + 1) y0 y1 y2 y3))
 | 0 => fun _ _ _ _ r h => by simp [slices_Equal_byte_byte.l0] at h
 | k + 1 => by
  have ih0 := slices_Equal_byte_byte.mono_l k
  ·intro y0 y1 y2 y3
   unfold slices_Equal_byte_byte.l0
   repeat' first
   | (with_reducible exact ih0 _ _ _ _)
   | (with_reducible exact LeO.refl _)
   | (with_reducible exact LeO.none _)
   | (with_reducible refine LeO.ite ?_ ?_)
   | (with_reducible refine LeO.bind ?_ (fun _ => ?_))
   | exact ih0 _ _ _ _
   | exact LeO.none _
   | refine LeO.ite ?_ ?_
   | refine LeO.bind ?_ (fun _ => ?_)
theorem slices_Equal_byte_byte.mono : ∀ a0 a1 k, LeO (slices_Equal_byte_byte.f k a0 a1) (slices_Equal_byte_byte.f (k + 1) a0 a1) := by
 intro a0 a1 k
 have ih0 := slices_Equal_byte_byte.mono_l k
 unfold slices_Equal_byte_byte.f
 repeat' first
   | (with_reducible exact ih0 _ _ _ _)
   | (with_reducible exact LeO.refl _)
   | (with_reducible exact LeO.none _)
   | (with_reducible refine LeO.ite ?_ ?_)
   | (with_reducible refine LeO.bind ?_ (fun _ => ?_))
   | exact ih0 _ _ _ _
   | exact LeO.none _
   | refine LeO.ite ?_ ?_
   | refine LeO.bind ?_ (fun _ => ?_)
theorem slices_Equal_byte_byte.calls (k : Nat) (A0 : Option Addr) (c0 : Nat) (l0 : List Int) (A1 : Option Addr) (c1 : Nat) (l1 : List Int) (r : Bool) (w : World) (hr0 : Kd.C (Kd.int .u8) w A0 l0.length l0) (hc0 : l0.length ≤ c0) (hr1 : Kd.C (Kd.int .u8) w A1 l1.length l1) (hc1 : l1.length ≤ c1) (h : slices_Equal_byte_byte.f k l0 l1 = some r) :
  Calls Tryz.prog 189 #[.slice A0 l0.length c0, .slice A1 l1.length c1] w fun e w' => e = .returned (.bool r) ∧ Drawn0 w w' := by
 have HR0 := ax hr0
 have HC0 := ax hc0
 clear hr0 hc0
 have HR1 := ax hr1
 have HC1 := ax hc1
 clear hr1 hc1
 have H : (if (l0.length : Int) = (l1.length : Int) then (slices_Equal_byte_byte.l0 k l0 l1 (l0.length : Int) 0) else (some false)) = some r := h
 clear h
 by_cases c3 : (l0.length : Int) = (l1.length : Int)
 ·rw [if_pos c3] at H
  have c3b0 : ((l0.length : Int) == (l1.length : Int)) = true := beq_iff_eq.mpr c3
  have c3b1 : ((l0.length : Int) != (l1.length : Int)) = false := bne_eq_false_iff_eq.mpr c3
  have c3b2 : (l0.length == l1.length) = true := by first | simpa using c3 | (simp at c3 ⊢; omega)
  clear c3
  have H' := ax H
  clear H
  go_enter Tryz.func189, Tryz.ntmps189
  go_wp2
  repeat ((with_reducible refine gate_quiet ?_); go_quiet (fail); try go_wp2)
  go_loopg [13] k (fun kq v13 w' => ∃ (x13_1 : Int), v13 = .int .i64 x13_1 ∧ Aside0 (slices_Equal_byte_byte.l0 kq l0 l1 (l0.length : Int) x13_1 = some r) ∧ Aside0 (kq ≤ k) ∧ Drawn0 w w')
  case atStart => exact ⟨(0), rs_, H', ⟨Nat.le_refl _⟩, dr_⟩
  case round =>
   clear H'
   try clear c1
   try clear p2
   try clear c3
   try clear c3b0
   try clear c3b1
   try clear c3b2
   obtain ⟨x13_1, rfl, HA, HK1, ⟨m1, rfl⟩⟩ := hrel
   cases gk with
   | zero => exact absurd HA.out (by simp [slices_Equal_byte_byte.l0])
   | succ k1 =>
    have H := HA.out
    clear HA
    simp only [slices_Equal_byte_byte.l0] at H
    by_cases c4 : x13_1 < (l0.length : Int)
    ·rw [if_pos c4] at H
     have c4b0 : decide (x13_1 < (l0.length : Int)) = true := decide_eq_true c4
     clear c4
     by_cases c5 : 0 ≤ x13_1
     ·rw [if_pos c5] at H
      have c5b0 : decide (0 ≤ x13_1) = true := decide_eq_true c5
      clear c5
      by_cases c6 : x13_1 < (l0.length : Int)
      ·rw [if_pos c6] at H
       have c6b0 : decide (x13_1 < (l0.length : Int)) = true := decide_eq_true c6
       clear c6
       by_cases c7 : x13_1 < (l1.length : Int)
       ·rw [if_pos c7] at H
        have c7b0 : decide (x13_1 < (l1.length : Int)) = true := decide_eq_true c7
        clear c7
        by_cases c8 : (rd l0 x13_1) = (rd l1 x13_1)
        ·rw [if_pos c8] at H
         have c8b0 : ((rd l0 x13_1) == (rd l1 x13_1)) = true := beq_iff_eq.mpr c8
         have c8b1 : ((rd l0 x13_1) != (rd l1 x13_1)) = false := bne_eq_false_iff_eq.mpr c8
         clear c8
         have H' := ax H
         clear H
         have p408 : 0 ≤ (x13_1 : Int) := of_decide_eq_true as_
         have q408 : x13_1 < (l0.length : Int) := of_decide_eq_true as_
         obtain ⟨ad408, e408, hx408_0⟩ := Kd.at_int HR0.out x13_1 p408 q408
         cases e408
         replace p408 := eq_true p408
         replace q408 := eq_true q408
         have p409 : 0 ≤ (x13_1 : Int) := of_decide_eq_true as_
         have q409 : x13_1 < (l1.length : Int) := of_decide_eq_true as_
         obtain ⟨ad409, e409, hx409_0⟩ := Kd.at_int HR1.out x13_1 p409 q409
         cases e409
         replace p409 := eq_true p409
         replace q409 := eq_true q409
         go_wp2
         repeat ((with_reducible refine gate_quiet ?_); go_quiet (fail); try go_wp2)
         go_roundg k1
         case measure => have := HK1.out; omega
         case rel => exact ⟨(wrap64 (x13_1 + 1)), rs_, H', ⟨by have := HK1.out; omega⟩, dr_⟩
        ·rw [if_neg c8] at H
         have c8b0 : ((rd l0 x13_1) == (rd l1 x13_1)) = false := beq_eq_false_iff_ne.mpr c8
         have c8b1 : ((rd l0 x13_1) != (rd l1 x13_1)) = true := bne_iff_ne.mpr c8
         obtain rfl := Option.some.inj H
         have p408 : 0 ≤ (x13_1 : Int) := of_decide_eq_true as_
         have q408 : x13_1 < (l0.length : Int) := of_decide_eq_true as_
         obtain ⟨ad408, e408, hx408_0⟩ := Kd.at_int HR0.out x13_1 p408 q408
         cases e408
         replace p408 := eq_true p408
         replace q408 := eq_true q408
         have p409 : 0 ≤ (x13_1 : Int) := of_decide_eq_true as_
         have q409 : x13_1 < (l1.length : Int) := of_decide_eq_true as_
         obtain ⟨ad409, e409, hx409_0⟩ := Kd.at_int HR1.out x13_1 p409 q409
         cases e409
         replace p409 := eq_true p409
         replace q409 := eq_true q409
         go_wp2
         repeat ((with_reducible refine gate_quiet ?_); go_quiet (fail); try go_wp2)
         go_ret
         exact ⟨rs_, dr_⟩
       ·rw [if_neg c7] at H
        exact absurd H (by simp)
      ·rw [if_neg c6] at H
       exact absurd H (by simp)
     ·rw [if_neg c5] at H
      exact absurd H (by simp)
    ·rw [if_neg c4] at H
     have c4b0 : decide (x13_1 < (l0.length : Int)) = false := decide_eq_false c4
     clear c4
     obtain rfl := Option.some.inj H
     go_wp2
     repeat ((with_reducible refine gate_quiet ?_); go_quiet (fail); try go_wp2)
     go_ret
     exact ⟨rs_, dr_⟩
 ·rw [if_neg c3] at H
  have c3b0 : ((l0.length : Int) == (l1.length : Int)) = false := beq_eq_false_iff_ne.mpr c3
  have c3b1 : ((l0.length : Int) != (l1.length : Int)) = true := bne_iff_ne.mpr c3
  have c3b2 : (l0.length == l1.length) = false := by first | simpa using c3 | (simp at c3 ⊢; omega)
  obtain rfl := Option.some.inj H
  go_enter Tryz.func189, Tryz.ntmps189
  go_wp2
  repeat ((with_reducible refine gate_quiet ?_); go_quiet (fail); try go_wp2)
  go_ret
  exact ⟨rs_, dr_⟩
end
-- YtajiggmeappfaaaGreatDoorP146
section
attribute [local go_sem] max2_int min2_int max_two min_two max_three min_three max_four min_four
def crc32_Open.f (k : Nat) (l0 : List Int) : Option (List Int × Bool) := if (wrap64 ((l0.length : Int) - 4)) < 0 then (some (([] : List Int), false)) else (if 0 ≤ (wrap64 ((l0.length : Int) - 4)) then (if (wrap64 ((l0.length : Int) - 4)) ≤ (l0.length : Int) then ((crc32_Sum.f (l0.take ((wrap64 ((l0.length : Int) - 4)) : Int).toNat)).bind fun t411 => ((crc32_bytes.f k t411).bind fun t412 => ((slices_Equal_byte_byte.f k t412 (l0.drop ((wrap64 ((l0.length : Int) - 4)) : Int).toNat)).bind fun t416 => (if t416 = true then ((slices_Clone_byte_byte.f (l0.take ((wrap64 ((l0.length : Int) - 4)) : Int).toNat)).bind fun t418 => (some (t418, true))) else (some (([] : List Int), false)))))) else (none)) else (none))
theorem crc32_Open.mono : ∀ a0 k, LeO (crc32_Open.f k a0) (crc32_Open.f (k + 1) a0) := by
 intro a0 k
 unfold crc32_Open.f
 repeat' first
   | (with_reducible exact crc32_bytes.mono _ _)
   | (with_reducible exact slices_Equal_byte_byte.mono _ _ _)
   | (with_reducible exact LeO.refl _)
   | (with_reducible exact LeO.none _)
   | (with_reducible refine LeO.ite ?_ ?_)
   | (with_reducible refine LeO.bind ?_ (fun _ => ?_))
   | exact crc32_bytes.mono _ _
   | exact slices_Equal_byte_byte.mono _ _ _
   | exact LeO.none _
   | refine LeO.ite ?_ ?_
   | refine LeO.bind ?_ (fun _ => ?_)
def crc32_Open.T2 : Bool × List (List Nat × List Nat) := (true, [([], []), ([0], [0]), ([1], [1]), ([2], [2]), ([2], [2]), ([3, 4, 2], [2, 3, 4]), ([5, 2, 2], [2, 5]), ([6, 6, 2], [2, 6]), ([2], [2]), ([2], [2]), ([8, 9, 2], [2, 8, 9]), ([7, 10, 7, 2], [2, 7, 10]), ([11, 2], [2, 11]), ([2, 12], [2, 12])])
def crc32_Open.B2 : List Nat := [0, 1, 3, 7, 7, 31, 63, 127, 7, 7, 775, 2047, 4095, 8191]
theorem crc32_Open.tab2 : rtab .any (opsOf Tryz.f142 2) = crc32_Open.T2 := by kernel_rfl
theorem crc32_Open.bits2 : waitsOk crc32_Open.T2.2 crc32_Open.B2 = true := by kernel_rfl
theorem crc32_Open.calls (k : Nat) (A0 : Option Addr) (c0 : Nat) (l0 : List Int) (r1 : List Int) (r2 : Bool) (w : World) (hr0 : Kd.C (Kd.int .u8) w A0 l0.length l0) (hc0 : l0.length ≤ c0) (h : crc32_Open.f k l0 = some (r1, r2)) :
  Calls Tryz.prog 142 #[.slice A0 l0.length c0] w fun e w' => ∃ v0_ : Value, e = .returned (.tuple #[v0_, .bool r2]) ∧ Kd.R (Kd.int .u8) 5 w' w.heap.size (fun _ => True) v0_ r1 ∧ Below w.heap.size w w' := by
 have HR0 := ax hr0
 have HC0 := ax hc0
 clear hr0 hc0
 have HB := ax (Below.refl w.heap.size w)
 have H : (if (wrap64 ((l0.length : Int) - 4)) < 0 then (some (([] : List Int), false)) else (if 0 ≤ (wrap64 ((l0.length : Int) - 4)) then (if (wrap64 ((l0.length : Int) - 4)) ≤ (l0.length : Int) then ((crc32_Sum.f (l0.take ((wrap64 ((l0.length : Int) - 4)) : Int).toNat)).bind fun t411 => ((crc32_bytes.f k t411).bind fun t412 => ((slices_Equal_byte_byte.f k t412 (l0.drop ((wrap64 ((l0.length : Int) - 4)) : Int).toNat)).bind fun t416 => (if t416 = true then ((slices_Clone_byte_byte.f (l0.take ((wrap64 ((l0.length : Int) - 4)) : Int).toNat)).bind fun t418 => (some (t418, true))) else (some (([] : List Int), false)))))) else (none)) else (none))) = some (r1, r2) := h
 clear h
 by_cases c2 : (wrap64 ((l0.length : Int) - 4)) < 0
 ·rw [if_pos c2] at H
  have c2b0 : decide ((wrap64 ((l0.length : Int) - 4)) < 0) = true := decide_eq_true c2
  clear c2
  simp only [Option.some.injEq, Prod.mk.injEq] at H
  obtain ⟨rfl, rfl⟩ := H
  go_enter Tryz.func142, Tryz.ntmps142
  try go_wp2
  have n0_ := ax (below_drew1 HB.out)
  clear HB
  have HB := n0_
  clear n0_
  refine start_ (n := 14) (S := fun w' => True) (ds := []) #[false, false, false, false, false, false, false, false, false, false, false, false, false, false] kr rfl rfl trivial (fun hHeld => ?_); refine with_tabW crc32_Open.tab2 crc32_Open.bits2 (fun HT_ HW_ => ?_)
  generalize w.drew = w3 at HB hHeld ⊢
  refine pu_ 0 8 HT_ ?_; refine pu_ 1 9 HT_ ?_; refine pu_ 2 10 HT_ ?_; refine pn_ 3 11 HT_ ?_; refine pn_ 4 12 HT_ ?_; refine pn_ 5 13 HT_ ?_; refine pn_ 6 14 HT_ ?_; refine pn_ 7 15 HT_ ?_; refine pn_ 8 16 HT_ ?_; refine pn_ 9 17 HT_ ?_; refine pn_ 10 18 HT_ ?_; refine pn_ 11 19 HT_ ?_; refine pn_ 12 20 HT_ ?_; refine pu_ 13 21 HT_ ?_
  refine done_ (done_of HT_.out kr) ?_
  try go_wp2
  go_ret2
  exact ⟨_, by first | rfl | (simp [errW_none, errW_some] <;> rfl) | (simp [*, errW_none, errW_some] <;> rfl), by first | exact Kd.R_nil _ _ _ _ _ | exact Kd.N_nil _ _ _ _ _ | exact Kd.V_nil _ _ _ _ _ | exact Kd.Q_nil _ _ _ _ _ | exact Kd.S_nil _ _ _ _ _, bl_⟩
 ·rw [if_neg c2] at H
  have c2b0 : decide ((wrap64 ((l0.length : Int) - 4)) < 0) = false := decide_eq_false c2
  clear c2
  obtain ⟨ji4, hji4⟩ : ∃ j_ : Int, (wrap64 ((l0.length : Int) - 4)) = j_ := ⟨_, rfl⟩
  replace H : (if 0 ≤ (ji4) then (if (ji4) ≤ (l0.length : Int) then ((crc32_Sum.f (l0.take ((ji4) : Int).toNat)).bind fun t411 => ((crc32_bytes.f k t411).bind fun t412 => ((slices_Equal_byte_byte.f k t412 (l0.drop ((ji4) : Int).toNat)).bind fun t416 => (if t416 = true then ((slices_Clone_byte_byte.f (l0.take ((ji4) : Int).toNat)).bind fun t418 => (some (t418, true))) else (some (([] : List Int), false)))))) else (none)) else (none)) = some (r1, r2) := by first | (rw [hji4] at H; exact H) | (simp only [hji4] at H ⊢; exact H)
  (try rw [hji4] at c2b0)
  have hji4w : (IntKind.i64.wrap ((l0.length : Int) - 4)) = ji4 := (i64_w _).trans hji4
  by_cases c5 : 0 ≤ (ji4)
  ·rw [if_pos c5] at H
   have c5b0 := eq_true c5
   have c5b1 : decide (0 ≤ (ji4)) = true := decide_eq_true c5
   clear c5
   by_cases c6 : (ji4) ≤ (l0.length : Int)
   ·rw [if_pos c6] at H
    have c6b0 := eq_true c6
    have c6b1 : decide ((ji4) ≤ (l0.length : Int)) = true := decide_eq_true c6
    clear c6
    replace H := Option.bind_eq_some_iff.mp H
    obtain ⟨t411, A70, H⟩ := H
    replace H : ((crc32_bytes.f k t411).bind fun t412 => ((slices_Equal_byte_byte.f k t412 (l0.drop ((ji4) : Int).toNat)).bind fun t416 => (if t416 = true then ((slices_Clone_byte_byte.f (l0.take ((ji4) : Int).toNat)).bind fun t418 => (some (t418, true))) else (some (([] : List Int), false))))) = some (r1, r2) := H
    have A7 := ax A70
    clear A70
    replace H := Option.bind_eq_some_iff.mp H
    obtain ⟨t412, A80, H⟩ := H
    replace H : ((slices_Equal_byte_byte.f k t412 (l0.drop ((ji4) : Int).toNat)).bind fun t416 => (if t416 = true then ((slices_Clone_byte_byte.f (l0.take ((ji4) : Int).toNat)).bind fun t418 => (some (t418, true))) else (some (([] : List Int), false)))) = some (r1, r2) := H
    have A8 := ax A80
    clear A80
    have c9b0 := eq_true (of_decide_eq_true as_ : 0 ≤ (ji4))
    have c10b0 := eq_true (of_decide_eq_true as_ : (ji4) ≤ (l0.length : Int))
    replace H := Option.bind_eq_some_iff.mp H
    obtain ⟨t416, A110, H⟩ := H
    replace H : (if t416 = true then ((slices_Clone_byte_byte.f (l0.take ((ji4) : Int).toNat)).bind fun t418 => (some (t418, true))) else (some (([] : List Int), false))) = some (r1, r2) := H
    have A11 := ax A110
    clear A110
    by_cases c12 : t416 = true
    ·subst c12
     have H1 : ((slices_Clone_byte_byte.f (l0.take ((ji4) : Int).toNat)).bind fun t418 => (some (t418, true))) = some (r1, r2) := by rw [if_pos rfl] at H; exact H
     clear H
     have H := H1
     clear H1
     have c13b0 := eq_true (of_decide_eq_true as_ : 0 ≤ (ji4))
     have c14b0 := eq_true (of_decide_eq_true as_ : (ji4) ≤ (l0.length : Int))
     replace H := Option.bind_eq_some_iff.mp H
     obtain ⟨t418, A150, H⟩ := H
     replace H : (some (t418, true)) = some (r1, r2) := H
     have A15 := ax A150
     clear A150
     simp only [Option.some.injEq, Prod.mk.injEq] at H
     obtain ⟨rfl, rfl⟩ := H
     go_enter Tryz.func142, Tryz.ntmps142
     try go_wp2
     have n0_ := ax (below_drew1 HB.out)
     clear HB
     have HB := n0_
     clear n0_
     obtain ⟨i017, hi017, _, hsz17, _⟩ := info_parts info5
     obtain ⟨hcut17, hA17, hC17⟩ := print_take_of (P := Tryz.prog) (Value.int .u8) 0 37 5 .i64 Tryz.underlying37 hi017 hsz17 A0 c0 l0 (ji4) (of_decide_eq_true as_) (of_decide_eq_true as_) HC0.out
     have HR410 := ax (Kd.C_of_reads (h1 := fun _ => rfl) (hA17 _ (Kd.reads_of_C HR0.out)))
     have HC410 := ax hC17
     clear hA17 hC17 hi017 hsz17
     obtain ⟨i018, hi018, _, hsz18, _⟩ := info_parts info5
     obtain ⟨A18, hcut18, hA18, hC18⟩ := print_drop_of (P := Tryz.prog) (Value.int .u8) 0 37 5 .i64 Tryz.underlying37 hi018 hsz18 A0 c0 l0 (ji4) (of_decide_eq_true as_) (of_decide_eq_true as_) HC0.out
     have HR415 := ax (Kd.C_of_reads (h1 := fun _ => rfl) (hA18 _ (Kd.reads_of_C HR0.out)))
     have HC415 := ax hC18
     clear hA18 hC18 hi018 hsz18
     refine start_ (n := 14) (S := fun w' => True) (ds := []) #[false, false, false, false, false, false, false, false, false, false, false, false, false, false] kr rfl rfl trivial (fun hHeld => ?_); refine with_tabW crc32_Open.tab2 crc32_Open.bits2 (fun HT_ HW_ => ?_)
     generalize w.drew = w16 at HB HR410 HR415 hHeld ⊢
     refine pu_ 0 8 HT_ ?_; refine pu_ 1 9 HT_ ?_; refine pu_ 2 10 HT_ ?_; refine pu_ 3 11 HT_ ?_; refine pu_ 4 12 HT_ ?_; refine pu_ 5 13 HT_ ?_; refine pu_ 8 16 HT_ ?_; refine pu_ 9 17 HT_ ?_; refine pu_ 10 18 HT_ ?_
     refine on_ 6 HT_ fun K hK => ?_
     refine goes_ Tryz.func28 kr rfl #[.slice A0 (l0.take ((ji4) : Int).toNat).length c0] (by rfl) rfl rfl (by (try simp only [List.map_toArray, List.map_cons, List.map_nil]); first | done | (rw [show (l0.take ((ji4) : Int).toNat).length = (ji4).toNat from (by rw [List.length_take]; have h_ : ((ji4) : Int) ≤ (l0.length : Int) := of_decide_eq_true as_; omega)] <;> rfl) | (simp only [hji4]; rfl) | rfl | (simp only [List.length_drop, List.length_take]; rfl)) ?_
     with_reducible refine (crc32_Sum.calls _ _ (l0.take ((ji4) : Int).toNat) t411 _ ?side1 ?side2 A7.out).mono ?_
     (case side1 => repeat (first | exact (Kd.C_below HR410.out HB.out) | (with_reducible refine Kd.C_alloc ?_ _) | (with_reducible refine Kd.C_drewN ?_ _) | (with_reducible refine Kd.C_drew ?_)))
     (case side2 => exact HC410.out)
     rintro e w19 ⟨rfl, hb⟩
     refine ⟨_, rfl, ?_⟩
     have n0_ := ax (below_step bl_ hb)
     clear HB
     have HB := n0_
     clear n0_
     (try clear hb)
     (try clear hb2)
     (try clear hk)
     (try clear hi)
     refine hK.out _ _ trivial (fun hHeld => ?_)
     clear hK K
     refine norm_ (a' := ?_) ?_ ?_
     rotate_left
     ·show Act.put _ (some 14) _ = _
      simp only [Act.put, List.setIfInBounds_toArray, List.set_cons_zero, List.set_cons_succ, i64_w, i32_w]
      rfl
     refine on_ 7 HT_ fun K hK => ?_
     refine goes_ Tryz.func113 kr rfl #[.int .u32 t411] (by rfl) rfl rfl gl_ ?_
     with_reducible refine (crc32_bytes.calls k t411 t412 _ A8.out).mono ?_
     rintro e w20 ⟨v413, rfl, ho0, hb⟩
     refine ⟨_, rfl, ?_⟩
     have n0_ := ax (Kd.R_lower ho0 (below_size bl_))
     have n1_ := ax (below_step bl_ hb)
     clear HB
     have HO414 := n0_
     have HB := n1_
     clear n0_ n1_
     (try clear hb)
     (try clear hb2)
     (try clear hk)
     (try clear hi)
     (try clear ho0)
     obtain ⟨Ao21, co21, eo21⟩ := Kd.R_slice HO414.out
     (first | subst eo21 | (injection eo21 with f1_ f2_ f3_; have f4_ := f1_.symm; have f5_ := f3_.symm; clear f1_ f2_ f3_; subst f4_; subst f5_))
     refine hK.out _ _ trivial (fun hHeld => ?_)
     clear hK K
     refine norm_ (a' := ?_) ?_ ?_
     rotate_left
     ·show Act.put _ (some 15) _ = _
      simp only [Act.put, List.setIfInBounds_toArray, List.set_cons_zero, List.set_cons_succ, i64_w, i32_w]
      rfl
     refine on_ 11 HT_ fun K hK => ?_
     refine goes_ Tryz.func189 kr rfl #[.slice Ao21 t412.length co21, .slice A18 (l0.drop ((ji4) : Int).toNat).length (c0 - (ji4).toNat)] (by rfl) rfl rfl (by (try simp only [List.map_toArray, List.map_cons, List.map_nil]); first | done | (rw [show (l0.drop ((ji4) : Int).toNat).length = (l0.length - (ji4).toNat) from List.length_drop] <;> rfl) | (simp only [hji4]; rfl) | rfl | (simp only [List.length_drop, List.length_take]; rfl)) ?_
     with_reducible refine (slices_Equal_byte_byte.calls k _ _ t412 _ _ (l0.drop ((ji4) : Int).toNat) true _ ?side1 ?side2 ?side3 ?side4 A11.out).mono ?_
     (case side1 => repeat (first | exact (Kd.R_reads' HO414.out).2.2 | (with_reducible refine Kd.C_alloc ?_ _) | (with_reducible refine Kd.C_drewN ?_ _) | (with_reducible refine Kd.C_drew ?_)))
     (case side2 => exact (Kd.R_reads' HO414.out).2.1)
     (case side3 => repeat (first | exact (Kd.C_below HR415.out HB.out) | (with_reducible refine Kd.C_alloc ?_ _) | (with_reducible refine Kd.C_drewN ?_ _) | (with_reducible refine Kd.C_drew ?_)))
     (case side4 => exact HC415.out)
     rintro e w' ⟨rfl, ⟨nd, rfl⟩⟩
     refine ⟨_, rfl, ?_⟩
     refine hK.out _ _ trivial (fun hHeld => ?_)
     clear hK K
     refine norm_ (a' := ?_) ?_ ?_
     rotate_left
     ·show Act.put _ (some 19) _ = _
      simp only [Act.put, List.setIfInBounds_toArray, List.set_cons_zero, List.set_cons_succ, i64_w, i32_w]
      rfl
     refine pu_ 12 20 HT_ ?_; refine pu_ 13 21 HT_ ?_
     refine done_ (done_of HT_.out kr) ?_
     obtain ⟨i022, hi022, _, hsz22, _⟩ := info_parts info5
     obtain ⟨hcut22, hA22, hC22⟩ := print_take_of (P := Tryz.prog) (Value.int .u8) 0 37 5 .i64 Tryz.underlying37 hi022 hsz22 A0 c0 l0 (ji4) (of_decide_eq_true as_) (of_decide_eq_true as_) HC0.out
     have HR417 := ax (Kd.C_of_reads (h1 := fun _ => rfl) (hA22 _ (Kd.reads_of_C HR0.out)))
     have HC417 := ax hC22
     clear hA22 hC22 hi022 hsz22
     try go_wp2_with (first | ((with_reducible refine gate_callee (f := 112) rfl ?_); refine goesL_ (some 25) rfl rfl Tryz.func112 kr rfl #[.slice A0 (l0.take ((ji4) : Int).toNat).length c0] rfl (by (try simp only [List.map_toArray, List.map_cons, List.map_nil]); first | done | (rw [show (l0.take ((ji4) : Int).toNat).length = (ji4).toNat from (by rw [List.length_take]; have h_ : ((ji4) : Int) ≤ (l0.length : Int) := of_decide_eq_true as_; omega)] <;> rfl) | (simp only [hji4]; rfl) | rfl | (simp only [List.length_drop, List.length_take]; rfl)) ?_; (with_reducible refine (slices_Clone_byte_byte.calls _ _ (l0.take ((ji4) : Int).toNat) t418 _ ?side1 ?side2 A15.out).mono ?_); (case side1 => repeat (first | exact (Kd.C_below HR417.out bl_) | (with_reducible refine Kd.C_alloc ?_ _) | (with_reducible refine Kd.C_drewN ?_ _) | (with_reducible refine Kd.C_drew ?_))); (case side2 => exact HC417.out); rintro e w23 ⟨v419, rfl, ho0, hb⟩; refine ⟨_, rfl, ?_⟩; have n0_ := ax (Kd.R_elder' (kR_ HO414.out) (Kd.R_base ho0) hb); have n1_ := ax (Kd.R_lower (Kd.R_new' ho0 (Kd.R_lt (kR_ HO414.out))) (below_size bl_)); have n2_ := ax (below_step bl_ hb); clear HO414; clear HB; have HO414 := n0_; have HO420 := n1_; have HB := n2_; clear n0_ n1_ n2_; (try clear hb); (try clear hb2); (try clear hk); (try clear hi); (try clear ho0)))
     go_ret2
     exact ⟨_, by first | rfl | (simp [errW_none, errW_some] <;> rfl) | (simp only [← hji4]; first | rfl | (simp [errW_none, errW_some] <;> rfl)) | (simp [*, errW_none, errW_some] <;> rfl), by (with_reducible repeat (first | apply Kd.R_alloc | apply Kd.R_drewN | apply Kd.R_drew)); exact Kd.R_mono HO420.out (fun _ hk => trivial), bl_⟩
    ·replace c12 := Bool.eq_false_iff.mpr c12
     subst c12
     have H1 : (some (([] : List Int), false)) = some (r1, r2) := by rw [if_neg (show ¬ (false = true) by decide)] at H; exact H
     clear H
     have H := H1
     clear H1
     simp only [Option.some.injEq, Prod.mk.injEq] at H
     obtain ⟨rfl, rfl⟩ := H
     go_enter Tryz.func142, Tryz.ntmps142
     try go_wp2
     have n0_ := ax (below_drew1 HB.out)
     clear HB
     have HB := n0_
     clear n0_
     obtain ⟨i025, hi025, _, hsz25, _⟩ := info_parts info5
     obtain ⟨hcut25, hA25, hC25⟩ := print_take_of (P := Tryz.prog) (Value.int .u8) 0 37 5 .i64 Tryz.underlying37 hi025 hsz25 A0 c0 l0 (ji4) (of_decide_eq_true as_) (of_decide_eq_true as_) HC0.out
     have HR410 := ax (Kd.C_of_reads (h1 := fun _ => rfl) (hA25 _ (Kd.reads_of_C HR0.out)))
     have HC410 := ax hC25
     clear hA25 hC25 hi025 hsz25
     obtain ⟨i026, hi026, _, hsz26, _⟩ := info_parts info5
     obtain ⟨A26, hcut26, hA26, hC26⟩ := print_drop_of (P := Tryz.prog) (Value.int .u8) 0 37 5 .i64 Tryz.underlying37 hi026 hsz26 A0 c0 l0 (ji4) (of_decide_eq_true as_) (of_decide_eq_true as_) HC0.out
     have HR415 := ax (Kd.C_of_reads (h1 := fun _ => rfl) (hA26 _ (Kd.reads_of_C HR0.out)))
     have HC415 := ax hC26
     clear hA26 hC26 hi026 hsz26
     refine start_ (n := 14) (S := fun w' => True) (ds := []) #[false, false, false, false, false, false, false, false, false, false, false, false, false, false] kr rfl rfl trivial (fun hHeld => ?_); refine with_tabW crc32_Open.tab2 crc32_Open.bits2 (fun HT_ HW_ => ?_)
     generalize w.drew = w24 at HB HR410 HR415 hHeld ⊢
     refine pu_ 0 8 HT_ ?_; refine pu_ 1 9 HT_ ?_; refine pu_ 2 10 HT_ ?_; refine pu_ 3 11 HT_ ?_; refine pu_ 4 12 HT_ ?_; refine pu_ 5 13 HT_ ?_; refine pu_ 8 16 HT_ ?_; refine pu_ 9 17 HT_ ?_; refine pu_ 10 18 HT_ ?_
     refine on_ 6 HT_ fun K hK => ?_
     refine goes_ Tryz.func28 kr rfl #[.slice A0 (l0.take ((ji4) : Int).toNat).length c0] (by rfl) rfl rfl (by (try simp only [List.map_toArray, List.map_cons, List.map_nil]); first | done | (rw [show (l0.take ((ji4) : Int).toNat).length = (ji4).toNat from (by rw [List.length_take]; have h_ : ((ji4) : Int) ≤ (l0.length : Int) := of_decide_eq_true as_; omega)] <;> rfl) | (simp only [hji4]; rfl) | rfl | (simp only [List.length_drop, List.length_take]; rfl)) ?_
     with_reducible refine (crc32_Sum.calls _ _ (l0.take ((ji4) : Int).toNat) t411 _ ?side1 ?side2 A7.out).mono ?_
     (case side1 => repeat (first | exact (Kd.C_below HR410.out HB.out) | (with_reducible refine Kd.C_alloc ?_ _) | (with_reducible refine Kd.C_drewN ?_ _) | (with_reducible refine Kd.C_drew ?_)))
     (case side2 => exact HC410.out)
     rintro e w27 ⟨rfl, hb⟩
     refine ⟨_, rfl, ?_⟩
     have n0_ := ax (below_step bl_ hb)
     clear HB
     have HB := n0_
     clear n0_
     (try clear hb)
     (try clear hb2)
     (try clear hk)
     (try clear hi)
     refine hK.out _ _ trivial (fun hHeld => ?_)
     clear hK K
     refine norm_ (a' := ?_) ?_ ?_
     rotate_left
     ·show Act.put _ (some 14) _ = _
      simp only [Act.put, List.setIfInBounds_toArray, List.set_cons_zero, List.set_cons_succ, i64_w, i32_w]
      rfl
     refine on_ 7 HT_ fun K hK => ?_
     refine goes_ Tryz.func113 kr rfl #[.int .u32 t411] (by rfl) rfl rfl gl_ ?_
     with_reducible refine (crc32_bytes.calls k t411 t412 _ A8.out).mono ?_
     rintro e w28 ⟨v413, rfl, ho0, hb⟩
     refine ⟨_, rfl, ?_⟩
     have n0_ := ax (Kd.R_lower ho0 (below_size bl_))
     have n1_ := ax (below_step bl_ hb)
     clear HB
     have HO414 := n0_
     have HB := n1_
     clear n0_ n1_
     (try clear hb)
     (try clear hb2)
     (try clear hk)
     (try clear hi)
     (try clear ho0)
     obtain ⟨Ao29, co29, eo29⟩ := Kd.R_slice HO414.out
     (first | subst eo29 | (injection eo29 with f1_ f2_ f3_; have f4_ := f1_.symm; have f5_ := f3_.symm; clear f1_ f2_ f3_; subst f4_; subst f5_))
     refine hK.out _ _ trivial (fun hHeld => ?_)
     clear hK K
     refine norm_ (a' := ?_) ?_ ?_
     rotate_left
     ·show Act.put _ (some 15) _ = _
      simp only [Act.put, List.setIfInBounds_toArray, List.set_cons_zero, List.set_cons_succ, i64_w, i32_w]
      rfl
     refine on_ 11 HT_ fun K hK => ?_
     refine goes_ Tryz.func189 kr rfl #[.slice Ao29 t412.length co29, .slice A26 (l0.drop ((ji4) : Int).toNat).length (c0 - (ji4).toNat)] (by rfl) rfl rfl (by (try simp only [List.map_toArray, List.map_cons, List.map_nil]); first | done | (rw [show (l0.drop ((ji4) : Int).toNat).length = (l0.length - (ji4).toNat) from List.length_drop] <;> rfl) | (simp only [hji4]; rfl) | rfl | (simp only [List.length_drop, List.length_take]; rfl)) ?_
     with_reducible refine (slices_Equal_byte_byte.calls k _ _ t412 _ _ (l0.drop ((ji4) : Int).toNat) false _ ?side1 ?side2 ?side3 ?side4 A11.out).mono ?_
     (case side1 => repeat (first | exact (Kd.R_reads' HO414.out).2.2 | (with_reducible refine Kd.C_alloc ?_ _) | (with_reducible refine Kd.C_drewN ?_ _) | (with_reducible refine Kd.C_drew ?_)))
     (case side2 => exact (Kd.R_reads' HO414.out).2.1)
     (case side3 => repeat (first | exact (Kd.C_below HR415.out HB.out) | (with_reducible refine Kd.C_alloc ?_ _) | (with_reducible refine Kd.C_drewN ?_ _) | (with_reducible refine Kd.C_drew ?_)))
     (case side4 => exact HC415.out)
     rintro e w' ⟨rfl, ⟨nd, rfl⟩⟩
     refine ⟨_, rfl, ?_⟩
     refine hK.out _ _ trivial (fun hHeld => ?_)
     clear hK K
     refine norm_ (a' := ?_) ?_ ?_
     rotate_left
     ·show Act.put _ (some 19) _ = _
      simp only [Act.put, List.setIfInBounds_toArray, List.set_cons_zero, List.set_cons_succ, i64_w, i32_w]
      rfl
     refine pu_ 12 20 HT_ ?_; refine pu_ 13 21 HT_ ?_
     refine done_ (done_of HT_.out kr) ?_
     try go_wp2
     go_ret2
     exact ⟨_, by first | rfl | (simp [errW_none, errW_some] <;> rfl) | (simp only [← hji4]; first | rfl | (simp [errW_none, errW_some] <;> rfl)) | (simp [*, errW_none, errW_some] <;> rfl), by first | exact Kd.R_nil _ _ _ _ _ | exact Kd.N_nil _ _ _ _ _ | exact Kd.V_nil _ _ _ _ _ | exact Kd.Q_nil _ _ _ _ _ | exact Kd.S_nil _ _ _ _ _, bl_⟩
   ·rw [if_neg c6] at H
    exact absurd H (by simp)
  ·rw [if_neg c5] at H
   exact absurd H (by simp)
end
-- YtajiggmeappfaaaGreatDoorPK32
def byt (l : List Int) : Prop := ∀ x ∈ l, 0 ≤ x ∧ x ≤ 255
theorem byt_all {l : List Int} (h : byt l) : l.all (fun x => decide (0 ≤ x ∧ x ≤ 255)) = true := by
 rw [List.all_eq_true]; intro x hx; exact decide_eq_true (h x hx)
theorem csum_f {l : List Int} (h : byt l) (hl : l.length ≤ 1000) : crc32_Sum.f l = some ((sum32 l).toNat : Int) := by
 unfold crc32_Sum.f; rw [if_pos ⟨byt_all h, by omega⟩]
def four (n : Nat) : List Int := [((n % 256 : Nat) : Int), ((n / 256 % 256 : Nat) : Int), ((n / 65536 % 256 : Nat) : Int), ((n / 16777216 % 256 : Nat) : Int)]
theorem four_byt (n : Nat) : byt (four n) := by
 intro x hx
 simp only [four, List.mem_cons, List.not_mem_nil, or_false] at hx
 rcases hx with rfl | rfl | rfl | rfl <;> omega
theorem bytes_f (n : Nat) (k : Nat) (hk : 5 ≤ k) : crc32_bytes.f k (n : Int) = some (four n) := by
 obtain ⟨k, rfl⟩ : ∃ m, k = m + 5 := ⟨k - 5, by omega⟩
 unfold crc32_bytes.f
 have e1 : wrap64 (0 + 1) = 1 := by decide +kernel
 have e2 : wrap64 (1 + 1) = 2 := by decide +kernel
 have e3 : wrap64 (2 + 1) = 3 := by decide +kernel
 have e4 : wrap64 (3 + 1) = 4 := by decide +kernel
 rw [show k + 5 = (k + 4) + 1 from rfl, crc32_bytes.l0.eq_2, if_pos (by decide), if_pos (by decide), e1]
 rw [show k + 4 = (k + 3) + 1 from rfl, crc32_bytes.l0.eq_2, if_pos (by decide), if_pos (by simp only [List.length_append, List.length_cons, List.length_nil]; decide), e2]
 rw [show k + 3 = (k + 2) + 1 from rfl, crc32_bytes.l0.eq_2, if_pos (by decide), if_pos (by simp only [List.length_append, List.length_cons, List.length_nil]; decide), e3]
 rw [show k + 2 = (k + 1) + 1 from rfl, crc32_bytes.l0.eq_2, if_pos (by decide), if_pos (by simp only [List.length_append, List.length_cons, List.length_nil]; decide), e4]
 rw [crc32_bytes.l0.eq_2, if_neg (by decide)]
 unfold four
 simp only [List.nil_append, List.cons_append]
 refine congrArg some ?_
 have t1 : (n : Int) % 256 = ((n % 256 : Nat) : Int) := by omega
 have t2 : (n : Int) / 256 % 256 = ((n / 256 % 256 : Nat) : Int) := by omega
 have t3 : (n : Int) / 256 / 256 % 256 = ((n / 65536 % 256 : Nat) : Int) := by omega
 have t4 : (n : Int) / 256 / 256 / 256 % 256 = ((n / 16777216 % 256 : Nat) : Int) := by omega
 rw [t1, t2, t3, t4]
theorem close_f {l : List Int} (h : byt l) (hl : l.length ≤ 1000) (k : Nat) (hk : 5 ≤ k) : crc32_Close.f k l = some (l ++ four (sum32 l).toNat) := by
 unfold crc32_Close.f slices_Clone_byte_byte.f
 rw [if_pos (by omega), Option.bind_some, csum_f h hl, Option.bind_some, bytes_f _ k hk, Option.bind_some, if_pos (by show l.length + 4 < _; omega)]
theorem equal_l0 (a b : List Int) (hl : a.length = b.length) (hm : a.length ≤ 1000) (d : Nat) : ∀ k i : Nat, i + d = a.length → d < k → slices_Equal_byte_byte.l0 k a b (a.length : Int) (i : Int) = some (decide (a.drop i = b.drop i)) := by
 induction d with
 | zero =>
  intro k i hi hk
  obtain ⟨k, rfl⟩ := pred hk
  rw [slices_Equal_byte_byte.l0.eq_2, if_neg (by omega), List.drop_eq_nil_of_le (by omega), List.drop_eq_nil_of_le (by omega)]; rfl
 | succ d ih =>
  intro k i hi hk
  obtain ⟨k, rfl⟩ := pred hk
  have hn := ih k (i + 1) (by omega) (by omega)
  rw [slices_Equal_byte_byte.l0.eq_2, if_pos (by omega), if_pos (by omega), if_pos (by omega), if_pos (by omega), rd_get a i (by omega), rd_get b i (by omega), drop_cons a i (by omega), drop_cons b i (by omega)]
  by_cases e : a[i] = b[i]
  ·rw [if_pos e, wrap_succ i (by omega), hn]
   refine congrArg some (decide_eq_decide.2 ?_)
   rw [← e]
   exact ⟨fun h => by rw [h], fun h => by injection h⟩
  ·rw [if_neg e, decide_eq_false]
   intro h; injection h with h1 _; exact e h1
theorem equal_f (a b : List Int) (hm : a.length ≤ 1000) (k : Nat) (hk : a.length < k) : slices_Equal_byte_byte.f k a b = some (decide (a = b)) := by
 unfold slices_Equal_byte_byte.f
 by_cases e : a.length = b.length
 ·rw [if_pos (by omega)]
  have := equal_l0 a b e hm a.length k 0 (by omega) hk
  simpa using this
 ·rw [if_neg (by omega), decide_eq_false]
  intro h; exact e (by rw [h])
def closed (l : List Int) : Prop := 4 ≤ l.length ∧ four (sum32 (l.take (l.length - 4))).toNat = l.drop (l.length - 4)
instance (l : List Int) : Decidable (closed l) := by unfold closed; infer_instance
theorem open_f {l : List Int} (h : byt l) (hl : l.length ≤ 1000) (k : Nat) (hk : 5 ≤ k) : crc32_Open.f k l = some (if closed l then (l.take (l.length - 4), true) else ([], false)) := by
 unfold crc32_Open.f
 rw [wrap_in (by omega) (by omega)]
 by_cases h4 : 4 ≤ l.length
 ·have e : ((l.length : Int) - 4).toNat = l.length - 4 := by omega
  have ht : byt (l.take (l.length - 4)) := fun x hx => h x (List.mem_of_mem_take hx)
  rw [if_neg (by omega), if_pos (by omega), if_pos (by omega), e, csum_f ht (by rw [List.length_take]; omega), Option.bind_some, bytes_f _ k hk, Option.bind_some, equal_f _ _ (by show 4 ≤ _; omega) k (by show 4 < _; omega), Option.bind_some]
  by_cases c : four (sum32 (l.take (l.length - 4))).toNat = l.drop (l.length - 4)
  ·rw [decide_eq_true c, if_pos rfl, if_pos ⟨h4, c⟩]
   unfold slices_Clone_byte_byte.f
   rw [if_pos (by rw [List.length_take]; omega), Option.bind_some]
  ·rw [decide_eq_false c, if_neg (by decide), if_neg (fun z => c z.2)]
 ·rw [if_pos (by omega), if_neg (fun z => h4 z.1)]
-- YtajiggmeappfaaaGreatDoorP115
section
attribute [local go_sem] max2_int min2_int max_two min_two max_three min_three max_four min_four
def harq_within.f (a0 : Int) : Option (Bool) := if a0 ≥ 0 then (some (decide (a0 ≤ 64))) else (some false)
theorem harq_within.calls (a0 : Int) (r : Bool) (w : World) (h : harq_within.f a0 = some r) :
  Calls Tryz.prog 134 #[.int .i64 a0] w fun e w' => e = .returned (.bool r) ∧ Drawn0 w w' := by
 have H : (if a0 ≥ 0 then (some (decide (a0 ≤ 64))) else (some false)) = some r := h
 clear h
 by_cases c2 : a0 ≥ 0
 ·rw [if_pos c2] at H
  have c2b0 : decide (0 ≤ a0) = true := decide_eq_true c2
  clear c2
  obtain rfl := Option.some.inj H
  go_enter Tryz.func134, Tryz.ntmps134
  go_wp2
  go_ret
  exact ⟨rs_, dr_⟩
 ·rw [if_neg c2] at H
  have c2b0 : decide (0 ≤ a0) = false := decide_eq_false c2
  clear c2
  obtain rfl := Option.some.inj H
  go_enter Tryz.func134, Tryz.ntmps134
  go_wp2
  go_ret
  exact ⟨rs_, dr_⟩
end
-- YtajiggmeappfaaaGreatDoorP138
section
attribute [local go_sem] max2_int min2_int max_two min_two max_three min_three max_four min_four
def harq_right.j0 : Nat → Int → List Int → Bool → Option (Int)
 | 0, _, _, _ => none
 | k + 1, x0, x2, x11 => if x11 = true then (some 1) else ((bits_Right.f k x2).bind fun t385 => (if t385 = true then ((frame_Bits.f x0).bind fun t386 => (if (x2.length : Int) = t386 then (some 0) else (some 13))) else (some 5)))
def harq_right.f (k : Nat) (a0 : Int) (a1 : Int) (l2 : List Int) : Option (Int) := (harq_within.f a0).bind fun t384 => (if t384 = true then (if a1 < 0 then (harq_right.j0 k a0 l2 true) else (harq_right.j0 k a0 l2 (decide (a1 ≥ 4)))) else (some 7))
theorem harq_right.mono_l : ∀ k, (∀ y0 y1 y2, LeO (harq_right.j0 k y0 y1 y2) (harq_right.j0 (k + 1) y0 y1 y2))
 | 0 => fun _ _ _ r h => by simp [harq_right.j0] at h
 | k + 1 => by
  have ih0 := harq_right.mono_l k
  ·intro y0 y1 y2
   unfold harq_right.j0
   repeat' first
   | (with_reducible exact ih0 _ _ _)
   | (with_reducible exact bits_Right.mono _ _)
   | (with_reducible exact LeO.refl _)
   | (with_reducible exact LeO.none _)
   | (with_reducible refine LeO.ite ?_ ?_)
   | (with_reducible refine LeO.bind ?_ (fun _ => ?_))
   | exact ih0 _ _ _
   | exact bits_Right.mono _ _
   | exact LeO.none _
   | refine LeO.ite ?_ ?_
   | refine LeO.bind ?_ (fun _ => ?_)
theorem harq_right.mono : ∀ a0 a1 a2 k, LeO (harq_right.f k a0 a1 a2) (harq_right.f (k + 1) a0 a1 a2) := by
 intro a0 a1 a2 k
 have ih0 := harq_right.mono_l k
 unfold harq_right.f
 repeat' first
   | (with_reducible exact ih0 _ _ _)
   | (with_reducible exact bits_Right.mono _ _)
   | (with_reducible exact LeO.refl _)
   | (with_reducible exact LeO.none _)
   | (with_reducible refine LeO.ite ?_ ?_)
   | (with_reducible refine LeO.bind ?_ (fun _ => ?_))
   | exact ih0 _ _ _
   | exact bits_Right.mono _ _
   | exact LeO.none _
   | refine LeO.ite ?_ ?_
   | refine LeO.bind ?_ (fun _ => ?_)
theorem harq_right.calls (k : Nat) (a0 : Int) (a1 : Int) (A2 : Option Addr) (c2 : Nat) (l2 : List Int) (r : Int) (w : World) (hr2 : Kd.C (Kd.int .u8) w A2 l2.length l2) (hc2 : l2.length ≤ c2) (h : harq_right.f k a0 a1 l2 = some r) :
  Calls Tryz.prog 85 #[.int .i64 a0, .int .i64 a1, .slice A2 l2.length c2] w fun e w' => e = .returned (.int .i64 r) ∧ Drawn0 w w' := by
 have HR2 := ax hr2
 have HC2 := ax hc2
 clear hr2 hc2
 have H : ((harq_within.f a0).bind fun t384 => (if t384 = true then (if a1 < 0 then (harq_right.j0 k a0 l2 true) else (harq_right.j0 k a0 l2 (decide (a1 ≥ 4)))) else (some 7))) = some r := h
 clear h
 replace H := Option.bind_eq_some_iff.mp H
 obtain ⟨t384, A40, H⟩ := H
 replace H : (if t384 = true then (if a1 < 0 then (harq_right.j0 k a0 l2 true) else (harq_right.j0 k a0 l2 (decide (a1 ≥ 4)))) else (some 7)) = some r := H
 have A4 := ax A40
 clear A40
 by_cases c5 : t384 = true
 ·subst c5
  have H1 : (if a1 < 0 then (harq_right.j0 k a0 l2 true) else (harq_right.j0 k a0 l2 (decide (a1 ≥ 4)))) = some r := by rw [if_pos rfl] at H; exact H
  clear H
  have H := H1
  clear H1
  have HC6 := ax H
  clear H
  go_enter Tryz.func85, Tryz.ntmps85
  go_upto_region 3 with (first | ((with_reducible refine gate_callee (f := 134) rfl ?_); refine goesL_ (some 9) rfl rfl Tryz.func134 kr rfl #[.int .i64 a0] rfl gl_ ?_; (with_reducible refine (harq_within.calls a0 true _ A4.out).mono ?_); rintro e w' ⟨rfl, ⟨nd, rfl⟩⟩; refine ⟨_, rfl, ?_⟩))
  (try simp only [Act.put, List.setIfInBounds_toArray, List.set_cons_zero, List.set_cons_succ])
  go_cut [11] (fun v11 wc => ∃ (kq : Nat) (x11_5 : Bool), v11 = .bool x11_5 ∧ Aside0 (harq_right.j0 kq a0 l2 x11_5 = some r) ∧ Aside0 (kq ≤ k) ∧ Drawn0 w wc)
  case first =>
   have H := HC6.out
   clear HC6
   by_cases c7 : a1 < 0
   ·rw [if_pos c7] at H
    have c7b0 : decide (a1 < 0) = true := decide_eq_true c7
    clear c7
    (first | rw [c7b0] | (simp only [i64_w, i32_w]; rw [c7b0]) | skip)
    have H' := ax H
    clear H
    go_wp2
    go_meet
    case rel => exact ⟨_, (true), rs_, H', ⟨by first | omega | exact Nat.le_refl _⟩, dr_⟩
   ·rw [if_neg c7] at H
    have c7b0 : decide (a1 < 0) = false := decide_eq_false c7
    clear c7
    (first | rw [c7b0] | (simp only [i64_w, i32_w]; rw [c7b0]) | skip)
    have H' := ax H
    clear H
    go_wp2
    go_meet
    case rel => exact ⟨_, (decide (a1 ≥ 4)), rs_, H', ⟨by first | omega | exact Nat.le_refl _⟩, dr_⟩
  case rest =>
   clear HC6
   try clear c1
   try clear c2
   try clear p2
   try clear c5
   try clear c7
   try clear c7b0
   obtain ⟨kq, x11_5, rfl, HA, HJ5, ⟨mc5, rfl⟩⟩ := hcut
   cases kq with
   | zero => exact absurd HA.out (by simp [harq_right.j0])
   | succ kj5 =>
    have H := HA.out
    clear HA
    simp only [harq_right.j0] at H
    by_cases c8 : x11_5 = true
    ·subst c8
     have H1 : (some 1) = some r := by rw [if_pos rfl] at H; exact H
     clear H
     have H := H1
     clear H1
     obtain rfl := Option.some.inj H
     go_wp2
     go_ret
     exact ⟨rs_, dr_⟩
    ·replace c8 := Bool.eq_false_iff.mpr c8
     subst c8
     have H1 : ((bits_Right.f kj5 l2).bind fun t385 => (if t385 = true then ((frame_Bits.f a0).bind fun t386 => (if (l2.length : Int) = t386 then (some 0) else (some 13))) else (some 5))) = some r := by rw [if_neg (show ¬ (false = true) by decide)] at H; exact H
     clear H
     have H := H1
     clear H1
     replace H := Option.bind_eq_some_iff.mp H
     obtain ⟨t385, A90, H⟩ := H
     replace H : (if t385 = true then ((frame_Bits.f a0).bind fun t386 => (if (l2.length : Int) = t386 then (some 0) else (some 13))) else (some 5)) = some r := H
     have A9 := ax A90
     clear A90
     by_cases c10 : t385 = true
     ·subst c10
      have H1 : ((frame_Bits.f a0).bind fun t386 => (if (l2.length : Int) = t386 then (some 0) else (some 13))) = some r := by rw [if_pos rfl] at H; exact H
      clear H
      have H := H1
      clear H1
      replace H := Option.bind_eq_some_iff.mp H
      obtain ⟨t386, A110, H⟩ := H
      replace H : (if (l2.length : Int) = t386 then (some 0) else (some 13)) = some r := H
      have A11 := ax A110
      clear A110
      by_cases c12 : (l2.length : Int) = t386
      ·rw [if_pos c12] at H
       have c12b0 : ((l2.length : Int) == t386) = true := beq_iff_eq.mpr c12
       have c12b1 : ((l2.length : Int) != t386) = false := bne_eq_false_iff_eq.mpr c12
       clear c12
       obtain rfl := Option.some.inj H
       go_wp2_with (first | ((with_reducible refine gate_callee (f := 136) rfl ?_); refine goesL_ (some 20) rfl rfl Tryz.func136 kr rfl #[.slice A2 l2.length c2] rfl gl_ ?_; (with_reducible refine (bits_Right.calls kj5 _ _ l2 true _ ?side1 ?side2 A9.out).mono ?_); (case side1 => repeat (first | exact HR2.out | (with_reducible refine Kd.C_alloc ?_ _) | (with_reducible refine Kd.C_drewN ?_ _) | (with_reducible refine Kd.C_drew ?_))); (case side2 => exact HC2.out); rintro e w' ⟨rfl, ⟨nd, rfl⟩⟩; refine ⟨_, rfl, ?_⟩) | ((with_reducible refine gate_callee (f := 78) rfl ?_); refine goesL_ (some 26) rfl rfl Tryz.func78 kr rfl #[.int .i64 a0] rfl gl_ ?_; (with_reducible refine (frame_Bits.calls a0 t386 _ A11.out).mono ?_); rintro e w' ⟨rfl, ⟨nd, rfl⟩⟩; refine ⟨_, rfl, ?_⟩))
       go_ret
       exact ⟨rs_, dr_⟩
      ·rw [if_neg c12] at H
       have c12b0 : ((l2.length : Int) == t386) = false := beq_eq_false_iff_ne.mpr c12
       have c12b1 : ((l2.length : Int) != t386) = true := bne_iff_ne.mpr c12
       obtain rfl := Option.some.inj H
       go_wp2_with (first | ((with_reducible refine gate_callee (f := 136) rfl ?_); refine goesL_ (some 20) rfl rfl Tryz.func136 kr rfl #[.slice A2 l2.length c2] rfl gl_ ?_; (with_reducible refine (bits_Right.calls kj5 _ _ l2 true _ ?side1 ?side2 A9.out).mono ?_); (case side1 => repeat (first | exact HR2.out | (with_reducible refine Kd.C_alloc ?_ _) | (with_reducible refine Kd.C_drewN ?_ _) | (with_reducible refine Kd.C_drew ?_))); (case side2 => exact HC2.out); rintro e w' ⟨rfl, ⟨nd, rfl⟩⟩; refine ⟨_, rfl, ?_⟩) | ((with_reducible refine gate_callee (f := 78) rfl ?_); refine goesL_ (some 26) rfl rfl Tryz.func78 kr rfl #[.int .i64 a0] rfl gl_ ?_; (with_reducible refine (frame_Bits.calls a0 t386 _ A11.out).mono ?_); rintro e w' ⟨rfl, ⟨nd, rfl⟩⟩; refine ⟨_, rfl, ?_⟩))
       go_ret
       exact ⟨rs_, dr_⟩
     ·replace c10 := Bool.eq_false_iff.mpr c10
      subst c10
      have H1 : (some 5) = some r := by rw [if_neg (show ¬ (false = true) by decide)] at H; exact H
      clear H
      have H := H1
      clear H1
      obtain rfl := Option.some.inj H
      go_wp2_with (first | ((with_reducible refine gate_callee (f := 136) rfl ?_); refine goesL_ (some 20) rfl rfl Tryz.func136 kr rfl #[.slice A2 l2.length c2] rfl gl_ ?_; (with_reducible refine (bits_Right.calls kj5 _ _ l2 false _ ?side1 ?side2 A9.out).mono ?_); (case side1 => repeat (first | exact HR2.out | (with_reducible refine Kd.C_alloc ?_ _) | (with_reducible refine Kd.C_drewN ?_ _) | (with_reducible refine Kd.C_drew ?_))); (case side2 => exact HC2.out); rintro e w' ⟨rfl, ⟨nd, rfl⟩⟩; refine ⟨_, rfl, ?_⟩))
      go_ret
      exact ⟨rs_, dr_⟩
 ·replace c5 := Bool.eq_false_iff.mpr c5
  subst c5
  have H1 : (some 7) = some r := by rw [if_neg (show ¬ (false = true) by decide)] at H; exact H
  clear H
  have H := H1
  clear H1
  obtain rfl := Option.some.inj H
  go_enter Tryz.func85, Tryz.ntmps85
  go_wp2_with (first | ((with_reducible refine gate_callee (f := 134) rfl ?_); refine goesL_ (some 9) rfl rfl Tryz.func134 kr rfl #[.int .i64 a0] rfl gl_ ?_; (with_reducible refine (harq_within.calls a0 false _ A4.out).mono ?_); rintro e w' ⟨rfl, ⟨nd, rfl⟩⟩; refine ⟨_, rfl, ?_⟩))
  go_ret
  exact ⟨rs_, dr_⟩
end
-- YtajiggmeappfaaaGreatDoorP147
section
attribute [local go_sem] max2_int min2_int max_two min_two max_three min_three max_four min_four
def harq_open.f (k : Nat) (l0 : List Int) (a1 : Int) : Option (List Int × Bool) := if a1 = 0 then ((bits_Bytes.f k l0).bind fun bt421 => (if bt421.2 = 0 then ((crc32_Open.f k bt421.1).bind fun bt425 => (some (bt425.1, bt425.2))) else (some (([] : List Int), false)))) else (some (([] : List Int), false))
theorem harq_open.mono : ∀ a0 a1 k, LeO (harq_open.f k a0 a1) (harq_open.f (k + 1) a0 a1) := by
 intro a0 a1 k
 unfold harq_open.f
 repeat' first
   | (with_reducible exact bits_Bytes.mono _ _)
   | (with_reducible exact crc32_Open.mono _ _)
   | (with_reducible exact LeO.refl _)
   | (with_reducible exact LeO.none _)
   | (with_reducible refine LeO.ite ?_ ?_)
   | (with_reducible refine LeO.bind ?_ (fun _ => ?_))
   | exact bits_Bytes.mono _ _
   | exact crc32_Open.mono _ _
   | exact LeO.none _
   | refine LeO.ite ?_ ?_
   | refine LeO.bind ?_ (fun _ => ?_)
theorem harq_open.calls (k : Nat) (A0 : Option Addr) (c0 : Nat) (l0 : List Int) (a1 : Int) (r1 : List Int) (r2 : Bool) (w : World) (hr0 : Kd.C (Kd.int .u8) w A0 l0.length l0) (hc0 : l0.length ≤ c0) (h : harq_open.f k l0 a1 = some (r1, r2)) :
  Calls Tryz.prog 88 #[.slice A0 l0.length c0, .int .i64 a1] w fun e w' => ∃ v0_ : Value, e = .returned (.tuple #[v0_, .bool r2]) ∧ Kd.R (Kd.int .u8) 5 w' w.heap.size (fun _ => True) v0_ r1 ∧ Below w.heap.size w w' := by
 have HR0 := ax hr0
 have HC0 := ax hc0
 clear hr0 hc0
 have HB := ax (Below.refl w.heap.size w)
 have H : (if a1 = 0 then ((bits_Bytes.f k l0).bind fun bt421 => (if bt421.2 = 0 then ((crc32_Open.f k bt421.1).bind fun bt425 => (some (bt425.1, bt425.2))) else (some (([] : List Int), false)))) else (some (([] : List Int), false))) = some (r1, r2) := h
 clear h
 by_cases c3 : a1 = 0
 ·rw [if_pos c3] at H
  have c3b0 : (a1 == 0) = true := beq_iff_eq.mpr c3
  have c3b1 : (a1 != 0) = false := bne_eq_false_iff_eq.mpr c3
  clear c3
  replace H := Option.bind_eq_some_iff.mp H
  obtain ⟨⟨t421, t422⟩, A40, H⟩ := H
  replace H : (if t422 = 0 then ((crc32_Open.f k t421).bind fun bt425 => (some (bt425.1, bt425.2))) else (some (([] : List Int), false))) = some (r1, r2) := H
  have A4 := ax A40
  clear A40
  by_cases c5 : t422 = 0
  ·rw [if_pos c5] at H
   have c5b0 : (t422 == 0) = true := beq_iff_eq.mpr c5
   have c5b1 : (t422 != 0) = false := bne_eq_false_iff_eq.mpr c5
   clear c5
   replace H := Option.bind_eq_some_iff.mp H
   obtain ⟨⟨t425, t426⟩, A60, H⟩ := H
   replace H : (some (t425, t426)) = some (r1, r2) := H
   have A6 := ax A60
   clear A60
   simp only [Option.some.injEq, Prod.mk.injEq] at H
   obtain ⟨rfl, rfl⟩ := H
   go_enter Tryz.func88, Tryz.ntmps88
   go_wp2_with (first | ((with_reducible refine gate_callee (f := 141) rfl ?_); refine goesL_ (some 11) rfl rfl Tryz.func141 kr rfl #[.slice A0 l0.length c0] rfl gl_ ?_; (with_reducible refine (bits_Bytes.calls k _ _ l0 t421 t422 _ ?side1 ?side2 A4.out).mono ?_); (case side1 => repeat (first | exact HR0.out | (with_reducible refine Kd.C_alloc ?_ _) | (with_reducible refine Kd.C_drewN ?_ _) | (with_reducible refine Kd.C_drew ?_))); (case side2 => exact HC0.out); rintro e w7 ⟨v423, rfl, ho0, hb⟩; refine ⟨_, rfl, ?_⟩; have n0_ := ax (Kd.R_lower ho0 (below_size bl_)); have n1_ := ax (below_step bl_ hb); clear HB; have HO424 := n0_; have HB := n1_; clear n0_ n1_; (try clear hb); (try clear hb2); (try clear hk); (try clear hi); (try clear ho0); obtain ⟨Ao8, co8, eo8⟩ := Kd.R_slice HO424.out; subst eo8) | ((with_reducible refine gate_callee (f := 142) rfl ?_); refine goesL_ (some 17) rfl rfl Tryz.func142 kr rfl #[.slice Ao8 t421.length co8] rfl gl_ ?_; (with_reducible refine (crc32_Open.calls k _ _ t421 t425 t426 _ ?side1 ?side2 A6.out).mono ?_); (case side1 => repeat (first | exact (Kd.R_reads' HO424.out).2.2 | (with_reducible refine Kd.C_alloc ?_ _) | (with_reducible refine Kd.C_drewN ?_ _) | (with_reducible refine Kd.C_drew ?_))); (case side2 => exact (Kd.R_reads' HO424.out).2.1); rintro e w9 ⟨v427, rfl, ho0, hb⟩; refine ⟨_, rfl, ?_⟩; have n0_ := ax (Kd.R_elder' (kR_ HO424.out) (Kd.R_base ho0) hb); have n1_ := ax (Kd.R_lower (Kd.R_new' ho0 (Kd.R_lt (kR_ HO424.out))) (below_size bl_)); have n2_ := ax (below_step bl_ hb); clear HO424; clear HB; have HO424 := n0_; have HO428 := n1_; have HB := n2_; clear n0_ n1_ n2_; (try clear hb); (try clear hb2); (try clear hk); (try clear hi); (try clear ho0)))
   go_ret2
   exact ⟨_, by first | rfl | (simp [errW_none, errW_some] <;> rfl) | (simp [*, errW_none, errW_some] <;> rfl), by (with_reducible repeat (first | apply Kd.R_alloc | apply Kd.R_drewN | apply Kd.R_drew)); exact Kd.R_mono HO428.out (fun _ hk => trivial), bl_⟩
  ·rw [if_neg c5] at H
   have c5b0 : (t422 == 0) = false := beq_eq_false_iff_ne.mpr c5
   have c5b1 : (t422 != 0) = true := bne_iff_ne.mpr c5
   simp only [Option.some.injEq, Prod.mk.injEq] at H
   obtain ⟨rfl, rfl⟩ := H
   go_enter Tryz.func88, Tryz.ntmps88
   go_wp2_with (first | ((with_reducible refine gate_callee (f := 141) rfl ?_); refine goesL_ (some 11) rfl rfl Tryz.func141 kr rfl #[.slice A0 l0.length c0] rfl gl_ ?_; (with_reducible refine (bits_Bytes.calls k _ _ l0 t421 t422 _ ?side1 ?side2 A4.out).mono ?_); (case side1 => repeat (first | exact HR0.out | (with_reducible refine Kd.C_alloc ?_ _) | (with_reducible refine Kd.C_drewN ?_ _) | (with_reducible refine Kd.C_drew ?_))); (case side2 => exact HC0.out); rintro e w10 ⟨v423, rfl, ho0, hb⟩; refine ⟨_, rfl, ?_⟩; have n0_ := ax (Kd.R_lower ho0 (below_size bl_)); have n1_ := ax (below_step bl_ hb); clear HB; have HO424 := n0_; have HB := n1_; clear n0_ n1_; (try clear hb); (try clear hb2); (try clear hk); (try clear hi); (try clear ho0)))
   go_ret2
   exact ⟨_, by first | rfl | (simp [errW_none, errW_some] <;> rfl) | (simp [*, errW_none, errW_some] <;> rfl), by first | exact Kd.R_nil _ _ _ _ _ | exact Kd.N_nil _ _ _ _ _ | exact Kd.V_nil _ _ _ _ _ | exact Kd.Q_nil _ _ _ _ _ | exact Kd.S_nil _ _ _ _ _, bl_⟩
 ·rw [if_neg c3] at H
  have c3b0 : (a1 == 0) = false := beq_eq_false_iff_ne.mpr c3
  have c3b1 : (a1 != 0) = true := bne_iff_ne.mpr c3
  simp only [Option.some.injEq, Prod.mk.injEq] at H
  obtain ⟨rfl, rfl⟩ := H
  go_enter Tryz.func88, Tryz.ntmps88
  go_wp2
  go_ret2
  exact ⟨_, by first | rfl | (simp [errW_none, errW_some] <;> rfl) | (simp [*, errW_none, errW_some] <;> rfl), by first | exact Kd.R_nil _ _ _ _ _ | exact Kd.N_nil _ _ _ _ _ | exact Kd.V_nil _ _ _ _ _ | exact Kd.Q_nil _ _ _ _ _ | exact Kd.S_nil _ _ _ _ _, bl_⟩
end
-- YtajiggmeappfaaaGreatDoorPKProc
def prc (n : Nat) (b : Option Addr) (came : Int) (done : Bool) : Array Value := #[.int .i64 (n : Int), .pointer b, .int .i64 came, .bool done]
theorem hwithin_f (n : Nat) (hn : n ≤ 64) : harq_within.f (n : Int) = some true := by
 unfold harq_within.f
 have h1 : (decide ((n : Int) ≥ 0)) = true := decide_eq_true (by omega)
 have h2 : (decide ((n : Int) ≤ 64)) = true := decide_eq_true (by omega)
 simp [h1, h2]
theorem Fg.of_put {q : Nat} {w w' : World} (p : Put1 q w w') : Fg q w w' := ⟨p.os, p.tape, p.output, Nat.le_of_eq p.size.symm, fun k _ hk _ => p.block k hk⟩
theorem BU.keep {w w' : World} {S g h n : Nat} {σ : List Int} (b : BU w S g h n σ) (hg : w'.heap[g]? = w.heap[g]?) (hh : w'.heap[h]? = w.heap[h]?) : BU w' S g h n σ := by
 obtain ⟨C, hC, r⟩ := b.box
 exact ⟨⟨C, hg.trans hC, r⟩, hh.trans b.row, b.len, b.lo⟩
theorem BU.putq {w w' : World} {S g h n q : Nat} {σ : List Int} (b : BU w S g h n σ) (p : Put1 q w w') (hq : q ≠ g ∧ q ≠ h) : BU w' S g h n σ := b.keep (p.block g (by omega)) (p.block h (by omega))
theorem begin_calls {w : World} {q n N : Nat} (hn : n ≤ 64) (hN : N = 8 * (n + 4)) (hq : w.heap[q]? = some (.cells (prc 0 none 0 false) 181 (0, 0))) :
  Calls Tryz.prog 86 #[.pointer (some ⟨q, 0, none⟩), .int .i64 (n : Int)] w fun e w' => e = .returned (.int .i64 0) ∧ ∃ g h, w'.heap[q]? = some (.cells (prc n (some ⟨g, 0, none⟩) 0 false) 181 (0, 0)) ∧ BU w' w.heap.size g h N (List.replicate (4 * (N + 6)) 0) ∧ Fg q w w' := by
 have HQ := ax hq
 have HNW := ax (new_calls (w := w) (n := N) (by omega))
 have h1 : (n : Int) ≤ 64 := by omega
 have h0 : (0 : Int) ≤ (n : Int) := by omega
 have h8 : 8 * ((n : Int) + 4) = (N : Int) := by omega
 clear hn hN hq
 go_enter Tryz.func86, Tryz.ntmps86
 go_wp2_with (first
  | (go_at_call 137; refine Aside0.out ?_)
  | fail)
 refine ax ?_
 refine HNW.out.mono ?_
 rintro e w1 ⟨g, h, rfl, hbu, hb⟩
 have HBU := ax hbu
 have HB1 := ax hb
 have HQ1 := ax ((hb.block q (blk_lt HQ.out)).trans HQ.out)
 have HL := ax (show q ≠ g ∧ q ≠ h by have := hbu.lo; have := blk_lt HQ.out; omega)
 clear hbu hb HNW
 have hc0 : w1.cell? ⟨q, 0, none⟩ = some (.int .i64 0) := blk_cell HQ1.out 0
 have hc1 : w1.cell? ⟨q, 1, none⟩ = some (.pointer none) := blk_cell HQ1.out 1
 have hc2 : w1.cell? ⟨q, 2, none⟩ = some (.int .i64 0) := blk_cell HQ1.out 2
 have hf0 := blk_frozen HQ1.out 0
 have hf1 := blk_frozen HQ1.out 1
 have hf2 := blk_frozen HQ1.out 2
 go_wp2_with fail
 have hrs : (Tryz.f86).results = #[.tmp 4] := by kernel_rfl
 refine bodyPost_ret (results_tmp hrs _ _ _) rfl ?_
 have p0 := Put1.set q 0 w1 (.int .i64 (n : Int))
 have p1 := p0.trans (Put1.set q 1 (w1.setCell ⟨q, 0, none⟩ (.int .i64 (n : Int))) (.pointer (some ⟨g, 0, none⟩)))
 have p2 := p1.trans (Put1.set q 2 ((w1.setCell ⟨q, 0, none⟩ (.int .i64 (n : Int))).setCell ⟨q, 1, none⟩ (.pointer (some ⟨g, 0, none⟩))) (.int .i64 0))
 exact ⟨rfl, g, h, blk_put (blk_put (blk_put HQ1.out 0 _ rfl) 1 _ rfl) 2 _ rfl, HBU.out.putq p2 HL.out, Fg.trans (Fg.of_below HB1.out) (Fg.of_put p2)⟩
theorem harqNew_calls {w : World} {n N : Nat} (hn : n ≤ 64) (hN : N = 8 * (n + 4)) :
  Calls Tryz.prog 83 #[.int .i64 (n : Int)] w fun e w' => ∃ q g h, e = .returned (.tuple #[.pointer (some ⟨q, 0, none⟩), .int .i64 0]) ∧ w'.heap[q]? = some (.cells (prc n (some ⟨g, 0, none⟩) 0 false) 181 (0, 0)) ∧ BU w' w.heap.size g h N (List.replicate (4 * (N + 6)) 0) ∧ w.heap.size ≤ q ∧ q ≠ g ∧ q ≠ h ∧ Below w.heap.size w w' := by
 have HWI := ax (fun w => harq_within.calls (n : Int) _ w (hwithin_f n hn))
 have HN := ax (And.intro hn hN)
 clear hn hN
 go_enter Tryz.func83, Tryz.ntmps83
 go_wp2_with (first
  | (go_at_call 134; refine Aside0.out ?_)
  | fail)
 refine ax ?_
 have hba := below_alloc (Below.refl w.heap.size w) (.cells (prc 0 none 0 false) 181)
 have hbb := blk_new w (.cells (prc 0 none 0 false) 181)
 obtain ⟨w1, hw1⟩ : ∃ w1, w1 = w.alloc (.cells (prc 0 none 0 false) 181) := ⟨_, rfl⟩
 obtain ⟨q, hq⟩ : ∃ q, q = w.heap.size := ⟨_, rfl⟩
 have HQ := ax hq
 rw [← hw1] at hba hbb
 rw [← hq] at hbb
 show Calls _ _ _ (w.alloc (.cells (prc 0 none 0 false) 181)) _
 rw [← hw1, ← hq]
 clear hw1 hq
 refine (HWI.out w1).mono ?_
 rintro e w2 ⟨rfl, hd⟩
 have HB2 := ax (below_step hba hd.below)
 have HQ2 := ax ((hd.below.block q (blk_lt hbb)).trans hbb)
 clear hba hbb hd HWI
 go_wp2_with (first
  | (go_at_call 86; refine Aside0.out ?_)
  | fail)
 refine ax ?_
 refine (begin_calls HN.out.1 HN.out.2 HQ2.out).mono ?_
 rintro e w3 ⟨rfl, g, h, hq3, hbu, hf⟩
 have HF := ax (show w3.heap[q]? = some (.cells (prc n (some ⟨g, 0, none⟩) 0 false) 181 (0, 0)) ∧ BU w3 w.heap.size g h N (List.replicate (4 * (N + 6)) 0) ∧ w.heap.size ≤ q ∧ q ≠ g ∧ q ≠ h ∧ Below w.heap.size w w3 from by
  have h1 := hbu.lo
  have h2 := HB2.out.size
  have h3 := blk_lt HQ2.out
  have h4 := HQ.out
  exact ⟨hq3, ⟨hbu.box, hbu.row, hbu.len, by omega, by omega, h1.2.2⟩, by omega, by omega, by omega, HB2.out.trans ⟨hf.os, hf.tape, hf.output, hf.size, fun k hk => hf.at k (by omega) (by omega)⟩⟩)
 clear hq3 hbu hf HB2 HQ2 HQ
 go_wp2_with fail
 have hrs : (Tryz.f83).results = #[.tmp 2, .tmp 3] := by kernel_rfl
 refine bodyPost_ret (results_tmp2 hrs _ _ _) rfl ?_
 exact ⟨q, g, h, rfl, HF.out⟩
def closeB (M : List Int) : List Int := M ++ four (sum32 M).toNat
def bitsM (M : List Int) : List Int := ofl (closeB M)
theorem closeB_byt {M : List Int} (h : byt M) : byt (closeB M) := fun x hx => (List.mem_append.1 hx).elim (h x) (four_byt _ x)
theorem closeB_len (M : List Int) : (closeB M).length = M.length + 4 := by unfold closeB; rw [List.length_append]; rfl
theorem bitsM_len (M : List Int) : (bitsM M).length = 8 * (M.length + 4) := by unfold bitsM; rw [ofl_length, closeB_len]
theorem bitsM_isb (M : List Int) : ∀ x ∈ bitsM M, isb x := fun x hx => by
 have := ofl_bit _ x hx
 exact isb_of this.1 this.2
theorem open_ok {M : List Int} (h : byt M) (hl : M.length ≤ 64) : harq_open.f 2000 (bitsM M) 0 = some (M, true) := by
 have hc := closeB_len M
 unfold harq_open.f bitsM
 rw [if_pos rfl, bytes_ofl _ (closeB_byt h) (by omega) 2000 (by omega), Option.bind_some, if_pos rfl, open_f (closeB_byt h) (by omega) 2000 (by omega), Option.bind_some]
 have ht : (closeB M).take ((closeB M).length - 4) = M := by
  rw [hc, show M.length + 4 - 4 = M.length by omega]; unfold closeB; rw [List.take_left]
 have hd : (closeB M).drop ((closeB M).length - 4) = four (sum32 M).toNat := by
  rw [hc, show M.length + 4 - 4 = M.length by omega]; unfold closeB; rw [List.drop_left]
 rw [if_pos ⟨by omega, by rw [ht, hd]⟩, ht]
theorem hright_f (n v : Nat) (hn : n ≤ 64) (hv : v < 4) {P : List Int} (hP : ∀ x ∈ P, isb x) (hl : P.length = nb n) : harq_right.f 2000 (n : Int) (v : Int) P = some 0 := by
 have hb : nb n ≤ 600 := by unfold nb; omega
 unfold harq_right.f
 rw [hwithin_f n hn, Option.bind_some, if_pos rfl, if_neg (by omega)]
 have hd : (decide ((v : Int) ≥ 4)) = false := decide_eq_false (by omega)
 rw [hd]
 show harq_right.j0 (1999 + 1) _ _ _ = _
 rw [harq_right.j0.eq_2, if_neg (by decide), right_f P (by omega) 1999 (by omega), (big_isb (fun x hx => (isb01 (hP x hx)).1)).2 hP, Option.bind_some, if_pos (show (!false) = true from rfl), fbits_f n hn, Option.bind_some, hl, if_pos rfl]
theorem TP.low {w w' : World} {S : Nat} (h : TP w) (hS : 2 < S) (hb : Below S w w') : TP w' :=
 have e : ∀ i, w'.cell? ⟨2, i, none⟩ = w.cell? ⟨2, i, none⟩ := fun _ => hb.cell (p := ⟨2, _, none⟩) hS
 ⟨(e 0).trans h.c0, (e 1).trans h.c1, (e 2).trans h.c2, (e 3).trans h.c3⟩
theorem offer_calls {w : World} (hT : TP w) {S q g h : Nat} (hTS : 2 < S) (hSw : S ≤ w.heap.size) {M : List Int} (hM : byt M) (hl : M.length ≤ 64) (hq : w.heap[q]? = some (.cells (prc M.length (some ⟨g, 0, none⟩) 0 false) 181 (0, 0))) (b : BU w S g h (8 * (M.length + 4)) (List.replicate (4 * (8 * (M.length + 4) + 6)) 0)) (hS : S ≤ q ∧ q ≠ g ∧ q ≠ h)
  (v : Nat) (hv : v < 4) {A : Option Addr} {P : List Int} {c : Nat} (hP : Kd.C (Kd.int .u8) w A P.length P) (hc : P.length ≤ c) (hPv : P = vp (code (bitsM M)) v (nb M.length)) (hA : ∀ d, A = some d → d.block ≠ g ∧ d.block ≠ h) :
  Calls Tryz.prog 39 #[.pointer (some ⟨q, 0, none⟩), .int .i64 (M.length : Int), .int .i64 (v : Int), .slice A (nb M.length) c] w fun e w' => ∃ u, e = .returned (.tuple #[u, .int .i64 0]) ∧ Kd.R (Kd.int .u8) 5 w' w.heap.size (fun _ => True) u M ∧ Below S w w' := by
 have hN := bitsM_len M
 have hLb := bitsM_isb M
 obtain ⟨L, hL⟩ : ∃ L, L = bitsM M := ⟨_, rfl⟩
 rw [← hL] at hN hLb hPv
 obtain ⟨N, hNd⟩ : ∃ N, N = 8 * (M.length + 4) := ⟨_, rfl⟩
 rw [← hNd] at b hN
 have hnb : nb M.length = N + 6 := by unfold nb; omega
 have hPl : P.length = nb M.length := by rw [hPv, vp_len]
 have hci : ∀ x ∈ code L, isb x := codeN_isb hLb _
 have hPb : ∀ x ∈ P, isb x := by rw [hPv]; exact vp_isb hci v _
 have hPg : ∀ t, t < N + 6 → P.getD t 0 = (code L).getD (plc v t) 0 := fun t ht => by rw [hPv]; exact vp_get _ v _ t (by omega)
 have hal := alone_clean hLb hv (P := P) (by rw [hN]; exact hPg)
 rw [hN] at hal
 have hti := toI_inp hLb
 rw [hN] at hti
 have HRT := ax (harq_right.calls 2000 (M.length : Int) (v : Int) A c P 0 w hP hc (hright_f _ v hl hv hPb hPl))
 have HAD := ax (fun w' (hb : Below w.heap.size w w') => add_calls (b.below hb) (by omega) v hv (A := A) (P := P) (c := c) (Kd.C_below hP hb) hc (by rw [hPl, hnb]) hPb hA (fun j => by rw [rep_getD]; omega))
 have HOP := ax (open_ok hM hl)
 rw [← hL] at HOP
 have HB := ax b
 have HQ := ax hq
 have HS := ax hS
 have HAL := ax hal
 have HT := ax hT
 have HNN := ax (And.intro hN (show N ≤ 900 by omega))
 have HTI := ax hti
 rw [hPl, hnb] at HRT
 rw [hnb]
 obtain ⟨m, hm⟩ : ∃ m, m = N + 6 := ⟨_, rfl⟩
 obtain ⟨n, hn⟩ : ∃ n, n = M.length := ⟨_, rfl⟩
 rw [← hm] at HRT HAD ⊢
 rw [← hn] at HRT HQ ⊢
 have HM := ax hm
 have hc0 : w.cell? ⟨q, 0, none⟩ = some (.int .i64 (n : Int)) := blk_cell HQ.out 0
 have hc1 : w.cell? ⟨q, 1, none⟩ = some (.pointer (some ⟨g, 0, none⟩)) := blk_cell HQ.out 1
 have hc2 : w.cell? ⟨q, 2, none⟩ = some (.int .i64 0) := blk_cell HQ.out 2
 have hc3 : w.cell? ⟨q, 3, none⟩ = some (.bool false) := blk_cell HQ.out 3
 have HTS := ax (And.intro hTS hSw)
 clear hTS hSw hT hM hl hq b hS hv hP hc hPv hA hN hLb hL hNd hnb hPl hci hPb hPg hal hn hm hti
 go_enter Tryz.func39, Tryz.ntmps39
 go_wp2_with (first
  | (go_at_call 85; refine Aside0.out ?_)
  | fail)
 refine ax ?_
 refine HRT.out.mono ?_
 rintro e w1 ⟨rfl, hd⟩
 have HB1 := ax hd.below
 have HQ1 := ax ((hd.below.block q (blk_lt HQ.out)).trans HQ.out)
 clear hd HRT hc0 hc1 hc2 hc3
 have hc0 : w1.cell? ⟨q, 0, none⟩ = some (.int .i64 (n : Int)) := blk_cell HQ1.out 0
 have hc1 : w1.cell? ⟨q, 1, none⟩ = some (.pointer (some ⟨g, 0, none⟩)) := blk_cell HQ1.out 1
 have hc2 : w1.cell? ⟨q, 2, none⟩ = some (.int .i64 0) := blk_cell HQ1.out 2
 go_wp2_with (first
  | (go_at_call 87; refine Aside0.out ?_)
  | fail)
 refine ax ?_
 refine (HAD.out w1 HB1.out).mono ?_
 rintro e w2 ⟨rfl, hbu, htw⟩
 have HBU2 := ax hbu
 have HQ2 := ax ((htw.block q (blk_lt HQ1.out) HS.out.2.1 HS.out.2.2).trans HQ1.out)
 have HW2 := ax ((Two.of_below (g := g) (h := h) HB1.out).trans htw)
 clear hbu htw hc0 hc1 hc2 HAD HB1 HQ1
 have hc2 : w2.cell? ⟨q, 2, none⟩ = some (.int .i64 0) := blk_cell HQ2.out 2
 have hf2 := blk_frozen HQ2.out 2
 have hc1 : w2.cell? ⟨q, 1, none⟩ = some (.pointer (some ⟨g, 0, none⟩)) := blk_cell HQ2.out 1
 go_wp2_with (first
  | (go_at_call 89; refine Aside0.out ?_)
  | fail)
 refine ax ?_
 have hpt := Put1.set q 2 w2 (.int .i64 1)
 have HBU3 := ax (HBU2.out.putq hpt HS.out.2)
 have HQ3 := ax (show (w2.setCell ⟨q, 2, none⟩ (.int .i64 1)).heap[q]? = some (.cells (prc n (some ⟨g, 0, none⟩) 1 false) 181 (0, 0)) from blk_put HQ2.out 2 _ rfl)
 have HB3 := ax (show Below S w (w2.setCell ⟨q, 2, none⟩ (.int .i64 1)) from (HW2.out.below HTS.out.2 HBU2.out.lo.1 HBU2.out.lo.2.1).trans (hpt.below HS.out.1))
 obtain ⟨w3, hw3⟩ : ∃ w3, w3 = w2.setCell ⟨q, 2, none⟩ (.int .i64 1) := ⟨_, rfl⟩
 have HW3 := ax (show w.heap.size ≤ w3.heap.size by rw [hw3, hpt.size]; exact HW2.out.size)
 rw [← hw3] at HBU3 HQ3 HB3 ⊢
 have hcd := cdecode_calls (HT.out.low HTS.out.1 HB3.out) HBU3.out (by have := HNN.out.2; omega) (fun j => by have := HAL.out.2 j; rw [← HM.out] at this; omega) _ (by have := HAL.out.1; rw [← HM.out] at this ⊢; exact this)
 rw [HM.out, HTI.out] at hcd
 have HCD := ax hcd
 clear hpt hw3 hcd HBU2 HQ2 HW2 hc1 hc2 hf2
 refine HCD.out.mono ?_
 rintro e w4 ⟨u4, rfl, hu, hb⟩
 obtain ⟨A4, c4, rfl⟩ := Kd.R_slice hu
 have HO := ax (harq_open.calls 2000 A4 c4 L 0 M true w4 (Kd.R_reads' hu).2.2 (Kd.R_reads' hu).2.1 HOP.out)
 have HQ4 := ax ((hb.block q (blk_lt HQ3.out)).trans HQ3.out)
 have HB4 := ax (HB3.out.trans (below_less hb (Nat.le_trans HTS.out.2 HW3.out)))
 have HW4 := ax (Nat.le_trans HW3.out hb.size)
 clear hu hb HCD HBU3 HQ3 HB3 HW3
 go_wp2_with (first
  | (go_at_call 88; refine Aside0.out ?_)
  | fail)
 refine ax ?_
 refine HO.out.mono ?_
 rintro e w5 ⟨u5, rfl, hu, hb⟩
 have HU5 := ax (Kd.R_mono (Kd.R_bound hu) (ok' := fun k => k ≠ q) (fun k ok => by have := ok.2.1; have := blk_lt HQ4.out; omega))
 have HQ5 := ax ((hb.block q (blk_lt HQ4.out)).trans HQ4.out)
 have HB5 := ax (HB4.out.trans (below_less hb (Nat.le_trans HTS.out.2 HW4.out)))
 clear hu hb HO HQ4 HB4
 have hc3 : w5.cell? ⟨q, 3, none⟩ = some (.bool false) := blk_cell HQ5.out 3
 have hf3 := blk_frozen HQ5.out 3
 go_wp2_with fail
 have hrs : (Tryz.f39).results = #[.tmp 8, .tmp 9] := by kernel_rfl
 refine bodyPost_ret (results_tmp2 hrs _ _ _) rfl ?_
 have hpt := Put1.set q 3 w5 (.bool true)
 exact ⟨u5, rfl, Kd.R_lower (Kd.R_mono (Kd.R_step HU5.out (fun k hk _ => hpt.block k hk)) (fun _ _ => trivial)) HW4.out, HB5.out.trans (hpt.below HS.out.1)⟩
-- YtajiggmeappfaaaGreatDoorPKVersions
theorem kversions_calls {w : World} (hT : TP w) {A : Option Addr} {c : Nat} {M : List Int} (hM : Kd.C (Kd.int .u8) w A M.length M) (hc : M.length ≤ c) (hb : byt M) (hl : M.length ≤ 64) :
  Calls Tryz.prog 29 #[.slice A M.length c] w fun e w' => ∃ vs : Nat → Value, e = .returned (.tuple #[.agg (q4 vs), .int .i64 0]) ∧ (∀ u, u < 4 → Kd.R (Kd.int .u8) 5 w' w.heap.size (fun _ => True) (vs u) (vp (code (bitsM M)) u (nb M.length))) ∧ Below w.heap.size w w' := by
 have HT := ax hT
 have HCL := ax (fun w' (hb' : Below w.heap.size w w') => crc32_Close.calls 4000 A c M (closeB M) w' (Kd.C_below hM hb') hc (close_f hb (by omega) 4000 (by omega)))
 have hcl := closeB_len M
 have HOF := ax (show bits_Of.f 4000 (closeB M) = some (bitsM M) from bof_f _ (closeB_byt hb) (by omega) 4000 (by omega))
 have HLM := ax (And.intro (bitsM_len M) (And.intro (bitsM_isb M) hl))
 obtain ⟨n, hn⟩ : ∃ n, n = M.length := ⟨_, rfl⟩
 have hnb : (n : Int) ≤ 64 := by omega
 have HN := ax hn
 rw [← hn] at HCL ⊢
 clear hT hM hc hb hl hcl hn
 go_enter Tryz.func29, Tryz.ntmps29
 go_wp2_with (first
  | (go_at_call 58; refine Aside0.out ?_)
  | fail)
 refine ax ?_
 have hba := below_alloc (Below.refl w.heap.size w) (.cells (q4 fun _ => .slice none 0 0) 90)
 have hbb := blk_new w (.cells (q4 fun _ => .slice none 0 0) 90)
 obtain ⟨w1, hw1⟩ : ∃ w1, w1 = w.alloc (.cells (q4 fun _ => .slice none 0 0) 90) := ⟨_, rfl⟩
 obtain ⟨a2, ha2⟩ : ∃ a2, a2 = w.heap.size := ⟨_, rfl⟩
 have HA0 := ax (show w.heap.size ≤ a2 by rw [ha2]; exact Nat.le_refl _)
 rw [← hw1] at hba hbb
 rw [← ha2] at hbb
 have hsz : w1.heap.size = a2 + 1 := by rw [hw1, ha2, World.size_alloc]
 have hbc := below_alloc (Below.refl w1.heap.size w1) (.cells (q4 fun _ => .slice none 0 0) 90)
 have hbd := blk_new w1 (.cells (q4 fun _ => .slice none 0 0) 90)
 obtain ⟨w2, hw2⟩ : ∃ w2, w2 = w1.alloc (.cells (q4 fun _ => .slice none 0 0) 90) := ⟨_, rfl⟩
 obtain ⟨b4, hb4⟩ : ∃ b4, b4 = w1.heap.size := ⟨_, rfl⟩
 rw [← hw2] at hbc hbd
 rw [← hb4] at hbd
 have HBB := ax (show a2 < b4 ∧ w.heap.size ≤ b4 from ⟨by rw [hb4]; exact blk_lt hbb, by rw [hb4]; exact hba.size⟩)
 show Calls _ _ _ ((w.alloc (.cells (q4 fun _ => .slice none 0 0) 90)).alloc (.cells (q4 fun _ => .slice none 0 0) 90)) _
 rw [← hw1, ← hw2]
 have e4 : w.heap.size + 1 = b4 := by rw [hb4, hsz, ha2]
 rw [e4, ← ha2]
 have hb2 := below_step hba hbc
 have HCL2 := HCL.out w2 hb2
 have HA2 := ax ((hbc.block a2 (blk_lt hbb)).trans hbb)
 have HX2 := ax hbd
 have HB2 := ax hb2
 clear hba hbb hbc hbd hw1 hw2 hb2 hsz ha2 hb4 e4 HCL
 refine HCL2.mono ?_
 rintro e w3 ⟨u3, rfl, hu, hb⟩
 obtain ⟨A3, c3, rfl⟩ := Kd.R_slice hu
 have HO3 := ax (bits_Of.calls 4000 A3 c3 (closeB M) _ w3 (Kd.R_reads' hu).2.2 (Kd.R_reads' hu).2.1 HOF.out)
 obtain ⟨K, hK⟩ : ∃ K, K = (closeB M).length := ⟨_, rfl⟩
 rw [← hK] at HO3 ⊢
 have HA3 := ax ((hb.block a2 (blk_lt HA2.out)).trans HA2.out)
 have HX3 := ax ((hb.block b4 (blk_lt HX2.out)).trans HX2.out)
 have HB3 := ax (below_step HB2.out hb)
 clear hu hb hK HCL2 HA2 HX2 HB2 HOF
 go_wp2_with (first
  | (go_at_call 57; refine Aside0.out ?_)
  | fail)
 refine ax ?_
 refine HO3.out.mono ?_
 rintro e w4 ⟨u5, rfl, hu, hb⟩
 obtain ⟨A5, c5, rfl⟩ := Kd.R_slice hu
 obtain ⟨L, hL⟩ : ∃ L, L = bitsM M := ⟨_, rfl⟩
 rw [← hL] at hu HLM ⊢
 obtain ⟨N, hN⟩ : ∃ N, N = L.length := ⟨_, rfl⟩
 rw [← hN]
 have HLD := ax hL
 have HNN := ax (show N = L.length ∧ N ≤ 900 ∧ N + 6 = nb M.length from ⟨hN, by have := HLM.out; omega, by have := HLM.out; unfold nb; omega⟩)
 have HL4 := ax (Kd.R_lower hu HB3.out.size)
 have HA4 := ax ((hb.block a2 (blk_lt HA3.out)).trans HA3.out)
 have HX4 := ax ((hb.block b4 (blk_lt HX3.out)).trans HX3.out)
 have HB4 := ax (below_step HB3.out hb)
 rw [← hN] at HL4
 clear hu hb hL hN HO3 HA3 HX3 HB3
 go_wp2_with fail
 go_loopw [16] (fun v16 wr => ∃ (i : Nat) (vs : Nat → Value), v16 = .int .i64 (i : Int) ∧ i ≤ 4 ∧ Aside0 (wr.heap[b4]? = some (.cells (q4 vs) 90 (0, 0))) ∧ Aside0 (∀ u, u < i → Kd.R (Kd.int .u8) 5 wr w.heap.size (fun _ => True) (vs u) (vp (code L) u (N + 6))) ∧ Aside0 (∀ u, u < 4 → (vs u).oneCell' = true) ∧ Aside0 (Kd.R (Kd.int .u8) 5 wr w.heap.size (fun _ => True) (.slice A5 N c5) L) ∧ Aside0 (wr.heap[a2]? = some (.cells (q4 fun _ => .slice none 0 0) 90 (0, 0))) ∧ Aside0 (Below w.heap.size w wr)) (fun v16 _ => 4 - (intOf v16).toNat)
 case atStart => exact ⟨0, _, by simp, by omega, HX4, ⟨fun u hu => absurd hu (Nat.not_lt_zero u)⟩, ⟨fun _ _ => rfl⟩, HL4, HA4, HB4⟩
 case round =>
  clear HX4 HL4 HA4 HB4
  obtain ⟨i, vs, rfl, hi, HX, HR, HO, HLR, HA, HB⟩ := hrel
  by_cases hlt : i < 4
  ·have g1 : (i : Int) < 4 := by omega
   have hi0 : (0 : Int) ≤ (i : Int) := by omega
   have HI := ax hlt
   have hcc := kcode_calls (TP_of HT.out HB.out) (A := A5) (c := c5) (l := L) (Kd.R_reads' HLR.out).2.2 (by have h := (Kd.R_reads' HLR.out).2.1; first | exact h | (rw [HNN.out.1] at h; exact h)) HLM.out.2.1 (by have := HNN.out; omega) i hlt
   rw [← HNN.out.1] at hcc
   have HCC := ax hcc
   clear hlt hi hcc
   go_wp2_with (first
    | (go_at_call 59; refine Aside0.out ?_)
    | fail)
   refine ax ?_
   refine HCC.out.mono ?_
   rintro e w5 ⟨u7, rfl, hu, hb⟩
   obtain ⟨A7, n7, c7, rfl⟩ : ∃ A n c, u7 = .slice A n c := (by obtain ⟨A, c, h⟩ := Kd.R_slice hu; exact ⟨A, _, c, h⟩)
   have HX5 := ax ((hb.block b4 (blk_lt HX.out)).trans HX.out)
   have HU5 := ax (Kd.R_lower hu HB.out.size)
   have HR5 := ax (fun u (h : u < i) => Kd.R_below (HR.out u h) hb)
   have HLR5 := ax (Kd.R_below HLR.out hb)
   have HA5 := ax ((hb.block a2 (blk_lt HA.out)).trans HA.out)
   have HB5 := ax (below_step HB.out hb)
   have hcw : w5.cell? ⟨b4, i, none⟩ = some (vs i) := (blk_cell HX5.out i).trans (q4_get vs HI.out)
   have hfw := blk_frozen HX5.out i
   clear hu hb HCC HX HR HLR HA HB
   go_wp2_with fail
   have hpt := Put1.set b4 i w5 (.slice A7 n7 c7)
   have hkeep : ∀ {v : Value} {xs : List Int}, Kd.R (Kd.int .u8) 5 w5 w.heap.size (fun _ => True) v xs → Kd.R (Kd.int .u8) 5 (w5.setCell ⟨b4, i, none⟩ (.slice A7 n7 c7)) w.heap.size (fun _ => True) v xs := fun {v xs} h =>
    Kd.R_mono (Kd.R_step (R_okk h (ok' := fun k => k ≠ b4) (fun k hk e => by subst e; exact (Kd.R_ne h HX5.out (by decide)) hk.symm)) (fun k ok _ => hpt.block k ok)) (fun _ _ => trivial)
   exact ⟨⟨i + 1, up vs i (.slice A7 n7 c7), by simp, by have := HI.out; omega, ⟨blk_put HX5.out i _ (q4_set vs HI.out _)⟩, ⟨fun u hu => by
    unfold up
    by_cases c : u = i
    ·rw [if_pos c, c]; exact hkeep HU5.out
    ·rw [if_neg c]; exact hkeep (HR5.out u (by omega))⟩, ⟨fun u hu => by
    unfold up
    by_cases c : u = i
    ·rw [if_pos c]; rfl
    ·rw [if_neg c]; exact HO.out u hu⟩, ⟨hkeep HLR5.out⟩, ⟨(hpt.block a2 (by have := HBB.out; omega)).trans HA5.out⟩, ⟨HB5.out.trans (hpt.below HBB.out.2)⟩⟩, by
    have hz : ∀ z : Int, intOf (Value.int IntKind.i64 z) = z := fun z => rfl
    have := HI.out
    rw [hz, hz]; omega⟩
  ·obtain rfl : i = 4 := by omega
   clear hlt hi
   have hu := Tryz.underlying90
   have hone := q4_one HO.out
   go_wp2_with (first
    | (refine wpList_load_row rfl 90 (.tmp 4) rfl b4 rfl 90 (q4 vs) (0, 0) _ HX.out hu rfl q4_size ?_)
    | (refine wpList_store_row rfl 90 (.tmp 2) (.tmp 33) rfl a2 (q4 vs) rfl rfl 90 _ HA.out q4_size rfl hone ?_)
    | fail)
   refine bodyPost_ret (results_ct rfl _ _ a2 90 (q4 vs) (0, 0) _ rfl (setRow_heap _ _ _ _ _ _ HA.out) hu rfl q4_size) rfl ?_
   have hpr := Put1.row a2 wr (q4 vs)
   refine ⟨vs, rfl, fun u hu => ?_, below_setRow HB.out HA0.out _⟩
   have hru := HR.out u hu
   rw [HN.out, ← HNN.out.2.2, ← HLD.out]
   refine Kd.R_mono (Kd.R_step (R_okk hru (ok' := fun k => k ≠ a2) (fun k hk e => ?_)) (fun k ok _ => hpr.block k ok)) (fun _ _ => trivial)
   subst e
   exact (Kd.R_ne hru HA.out (by decide)) hk.symm
-- YtajiggmeappfaaaGreatDoorPSState
def Same5 (w w' : World) : Prop := ∀ (k : Nat) (cs : Array Value), w.heap[k]? = some (Obj.cells cs 5 (0, 0)) → w'.heap[k]? = w.heap[k]?
theorem Same5.of_keep {F : Nat → Prop} {w w' : World} (h : Keep F w w') (hF : ∀ (k : Nat) (cs : Array Value), F k → w.heap[k]? ≠ some (Obj.cells cs 5 (0, 0))) : Same5 w w' := fun k cs hk => h.block k (blk_lt hk) (fun hf => hF k cs hf hk)
theorem Same5.trans {w w1 w2 : World} (h : Same5 w w1) (k : Same5 w1 w2) : Same5 w w2 := fun i cs hi => (k i cs ((h i cs hi).trans hi)).trans (h i cs hi)
def PRT (w : World) (v : Value) (P : List Int) : Prop := ∃ A c, v = .slice A P.length c ∧ Kd.C (Kd.int .u8) w A P.length P ∧ P.length ≤ c ∧ ∀ d, A = some d → ∃ cs, w.heap[d.block]? = some (.cells cs 5 (0, 0))
theorem PRT.of_R {w : World} {base : Nat} {ok : Nat → Prop} {v : Value} {P : List Int} (h : Kd.R (Kd.int .u8) 5 w base ok v P) : PRT w v P := by
 obtain ⟨A, c, rfl⟩ := Kd.R_slice h
 refine ⟨A, c, rfl, (Kd.R_reads' h).2.2, (Kd.R_reads' h).2.1, fun d hd => ?_⟩
 subst hd
 exact Kd.R_typed h d.block rfl
theorem PRT.same {w w' : World} {v : Value} {P : List Int} (h : PRT w v P) (hs : Same5 w w') : PRT w' v P := by
 obtain ⟨A, c, hv, hC, hc, ht⟩ := h
 refine ⟨A, c, hv, ?_, hc, fun d hd => ?_⟩
 ·have r := Kd.reads_of_C (enc := Value.int .u8) (d := (0 : Int)) (h1 := fun _ => rfl) hC
  refine Kd.C_of_reads (enc := Value.int .u8) (d := (0 : Int)) (h1 := fun _ => rfl) ⟨r.1, r.2.1, fun hq => ?_⟩
  obtain ⟨d, hd, hr⟩ := r.2.2 hq
  obtain ⟨cs, hcs⟩ := ht d hd
  exact ⟨d, hd, fun j hj => (World.cell?_of_block (a := d.add j) (by rw [add_block]; exact hs _ _ hcs)).trans (hr j hj)⟩
 ·obtain ⟨cs, hcs⟩ := ht d hd
  exact ⟨cs, (hs _ _ hcs).trans hcs⟩
theorem PRT.below {w w' : World} {v : Value} {P : List Int} (h : PRT w v P) (hb : Below w.heap.size w w') : PRT w' v P := h.same (fun k cs hk => hb.block k (blk_lt hk))
abbrev pq (q : Option Nat) : Value := .pointer (q.map fun b => ⟨b, 0, none⟩)
abbrev entC (num : Int) (n : Nat) (p : Nat → Value) (q : Option Nat) (ack : Bool) : Array Value := #[.int .u16 num, .int .i64 (n : Int), p 0, p 1, p 2, p 3, pq q, .bool ack]
abbrev ENT (w : World) (x : Nat) (num : Int) (n : Nat) (p : Nat → Value) (q : Option Nat) (ack : Bool) : Prop := w.heap[x]? = some (.cells (entC num n p q ack) 96 (0, 0))
abbrev sndC (base : Int) (kept : Value) (g : Nat) (L R : Int) : Array Value := #[.int .i64 3, .int .i64 8, .int .i64 2, .int .u16 base, kept, .pointer (some ⟨g, 0, none⟩), .int .i64 L, .int .i64 R]
abbrev SNB (w : World) (sb : Nat) (base : Int) (kept : Value) (g : Nat) (L R : Int) : Prop := w.heap[sb]? = some (.cells (sndC base kept g L R) 82 (0, 0))
theorem sbegin_old {w : World} {sb x : Nat} {num : Int} {n : Nat} {p : Nat → Value} {q : Nat} {ack : Bool} (h : ENT w x num n p (some q) ack) :
  Calls Tryz.prog 32 #[.pointer (some ⟨sb, 0, none⟩), .pointer (some ⟨x, 0, none⟩)] w fun e w' => e = .returned (.bool false) ∧ Below w.heap.size w w' := by
 have hc : w.cell? ⟨x, 6, none⟩ = some (.pointer (some ⟨q, 0, none⟩)) := blk_cell h 6
 clear h
 go_enter Tryz.func32, Tryz.ntmps32
 go_wp2_with fail
 go_ret
 exact ⟨rfl, Below.refl _ _⟩
theorem sbegin_new {w : World} {sb x g : Nat} {base : Int} {kept : Value} {L R : Int} {num : Int} {n : Nat} {p : Nat → Value} {ack : Bool} (h : ENT w x num n p none ack) (hs : SNB w sb base kept g L R) (hL : 0 ≤ L ∧ L ≤ 2) (hR : 0 ≤ R ∧ R ≤ 3) :
  Calls Tryz.prog 32 #[.pointer (some ⟨sb, 0, none⟩), .pointer (some ⟨x, 0, none⟩)] w fun e w' => ∃ (q : Nat) (b : Int), e = .returned (.bool true) ∧ ENT w' x num n p (some q) ack ∧ PLN w' q b 0 0 ∧ (1 ≤ b ∧ b ≤ 4) ∧ w.heap.size ≤ q ∧ q < w'.heap.size ∧ Keep (fun k => k = x) w w' := by
 have HH := ax h
 have hc : w.cell? ⟨x, 6, none⟩ = some (.pointer none) := blk_cell h 6
 have hc6 : w.cell? ⟨sb, 6, none⟩ = some (.int .i64 L) := blk_cell hs 6
 have hc7 : w.cell? ⟨sb, 7, none⟩ = some (.int .i64 R) := blk_cell hs 7
 have HB := ax (burst_calls L R hL hR)
 clear h hs hL hR
 go_enter Tryz.func32, Tryz.ntmps32
 go_wp2_with (first
  | (go_at_call 62; refine (HB.out _).mono ?_; rintro e w1 ⟨b, rfl, hb1, hb2, hb⟩; have HB1 := ax hb; have HN := ax (And.intro hb1 hb2); clear hb hb1 hb2)
  | (go_at_call 63; refine (schedNew_calls b HN.out _).mono ?_; rintro e w2 ⟨rfl, hn, hb⟩; have HB2 := ax (And.intro hn hb); have hx2 : ENT w2 x num n p none ack := ((below_step HB1.out hb).block x (blk_lt HH.out)).trans HH.out; have HX2 := ax hx2; have hcx := blk_cell hx2 6; have hfx := blk_frozen hx2 6; clear hn hb hx2))
 have hrs : (Tryz.f32).results = #[.tmp 4] := by kernel_rfl
 refine bodyPost_ret (results_tmp hrs _ _ _) rfl ?_
 have hp := Put1.set x 6 w2 (.pointer (some ⟨w1.heap.size, 0, none⟩))
 have hlt : x < w1.heap.size := by have := HB1.out.size; have := blk_lt HH.out; omega
 have hq2 := blk_lt HB2.out.1
 exact ⟨w1.heap.size, b, rfl, blk_put HX2.out 6 _ rfl, (hp.block _ (by omega)).trans HB2.out.1, HN.out, HB1.out.size, by rw [hp.size]; exact hq2, (Keep.of_below (below_step HB1.out HB2.out.2)).seq (Keep.of_put hp rfl)⟩
-- YtajiggmeappfaaaGreatDoorPWHeel
abbrev seqT : TypeId := 31
theorem seqLawT : Maps.Keyed Tryz.prog seqT := Maps.int_keyed Tryz.underlying31
theorem seqKeyT {a : Int} (ha : 0 ≤ a ∧ a ≤ 65535) : keyOf Tryz.prog seqT (.int .u16 a) = some (.int .u16 a) := Maps.keyOf_int_mk Tryz.underlying31 (by simp [Lit.wf, IntKind.signed, IntKind.bits, IntKind.min, IntKind.max]; omega)
abbrev ownT (w : World) (mp n : Nat) (D : DataW Unit) : Prop := w.ownsMap Tryz.prog seqT (plainElem Tryz.prog 3) mp n D
theorem own_fit {w : World} {mp n : Nat} {D : DataW Unit} (h : ownT w mp n D) : ownT w mp (Maps.size D) D := by
 obtain ⟨es, clock, h1, h2, h3, h4⟩ := h
 refine ⟨es, clock, h1, h2, ?_, h4⟩
 subst h4
 simp [Maps.size, length_sorted]
theorem ownT_block {w w' : World} {mp n : Nat} {D : DataW Unit} (h : ownT w mp n D) (hb : w'.heap[mp]? = w.heap[mp]?) : ownT w' mp n D := by
 obtain ⟨es, clock, h1, h2⟩ := h
 exact ⟨es, clock, hb.trans h1, h2⟩
theorem ownT_map {w : World} {mp n : Nat} {D : DataW Unit} (h : ownT w mp n D) : ∃ es clock, w.heap[mp]? = some (.map es clock) := by
 obtain ⟨es, clock, h1, _⟩ := h; exact ⟨es, clock, h1⟩
theorem map_put {w w' : World} {mp : Nat} (h : w.mapTurned w' mp) : Put1 mp w w' := by
 obtain ⟨es, clock, es', clock', hb, rfl⟩ := h
 exact ⟨rfl, rfl, rfl, by simp [ChangeMaps.setBlock], fun k hk => ChangeMaps.heap_setBlock_other hb _ hk⟩
def spk (ts : List (Int × Int)) (j : Nat) : List Int := (ts.filter fun p => p.2 % 32 == (j : Int)).map (·.1)
structure WH (w : World) (S g mp : Nat) (now : Int) (V : Nat → Value) (ts : List (Int × Int)) : Prop where
 box : ∃ C, w.heap[g]? = some (.cells C 137 (0, 0)) ∧ C.size = 34 ∧ C[0]? = some (.int .i64 now) ∧ C[1]? = some (.map (some mp)) ∧ ∀ j, j < 32 → C[2 + j]? = some (V j)
 own : ∃ D, ownT w mp (Maps.size D) D ∧ Maps.size D = ts.length ∧ (∀ a, Maps.has D (.int .u16 a) = ts.any (fun p => p.1 == a)) ∧ ∀ p ∈ ts, D.atKey (.int .u16 p.1) (.lit (.int .i64 0)) = .lit (.int .i64 p.2)
 row : ∀ j, j < 32 → Kd.R (Kd.int .u16) seqT w S (fun _ => True) (V j) (spk ts j)
 apart : ∀ i j, i < 32 → j < 32 → i ≠ j → ∀ k, (V i).ownBlock = some k → (V j).ownBlock ≠ some k
 lo : S ≤ g ∧ S ≤ mp
 nd : (ts.map (·.1)).Nodup
 rng : ∀ p ∈ ts, (0 ≤ p.1 ∧ p.1 ≤ 65535) ∧ 0 ≤ p.2 ∧ p.2 ≤ 100000
 few : ts.length ≤ 100
def WF (g mp : Nat) (V : Nat → Value) (k : Nat) : Prop := k = g ∨ k = mp ∨ ∃ j, j < 32 ∧ (V j).ownBlock = some k
theorem R_okN {w : World} {e base : Nat} {ok ok' : Nat → Prop} {v : Value} {xs : List Int} (h : Kd.R (Kd.int .u16) e w base ok v xs) (hk : ∀ k, v.ownBlock = some k → ok' k) : Kd.R (Kd.int .u16) e w base ok' v xs := ⟨hk, h.2⟩
theorem R_keepN {w w' : World} {e base : Nat} {v : Value} {xs : List Int} (h : Kd.R (Kd.int .u16) e w base (fun _ => True) v xs) (hb : ∀ k, v.ownBlock = some k → w'.heap[k]? = w.heap[k]?) : Kd.R (Kd.int .u16) e w' base (fun _ => True) v xs :=
 Kd.R_mono (Kd.R_step (R_okN h (ok' := fun k => v.ownBlock = some k) (fun _ hk => hk)) (fun k ok _ => hb k ok)) (fun _ _ => trivial)
theorem WH.ne {w : World} {S g mp : Nat} {now : Int} {V : Nat → Value} {ts : List (Int × Int)} (h : WH w S g mp now V ts) : g ≠ mp ∧ g < w.heap.size ∧ mp < w.heap.size ∧ ∀ j, j < 32 → ∀ k, (V j).ownBlock = some k → k ≠ g ∧ k ≠ mp ∧ k < w.heap.size ∧ S ≤ k := by
 obtain ⟨C, hC, _⟩ := h.box
 obtain ⟨D, hD, _⟩ := h.own
 obtain ⟨es, clock, hm⟩ := ownT_map hD
 have hml : mp < w.heap.size := by
  rcases Nat.lt_or_ge mp w.heap.size with c | c
  ·exact c
  ·rw [Array.getElem?_eq_none c] at hm; cases hm
 refine ⟨fun e => (by subst e; rw [hC] at hm; cases hm), blk_lt hC, hml, fun j hj k hk => ?_⟩
 have hr := h.row j hj
 obtain ⟨cells, hc⟩ := Kd.R_typed hr k hk
 refine ⟨fun e => ?_, fun e => ?_, Kd.R_lt hr k hk, ?_⟩
 ·subst e; rw [hC] at hc; injection hc with hc; injection hc with _ hc; exact absurd hc (by decide)
 ·subst e; rw [hm] at hc; cases hc
 ·exact Kd.R_base hr k hk
theorem WH.keep {w w' : World} {S g mp : Nat} {now : Int} {V : Nat → Value} {ts : List (Int × Int)} (h : WH w S g mp now V ts) (hb : ∀ k, WF g mp V k → w'.heap[k]? = w.heap[k]?) : WH w' S g mp now V ts := by
 obtain ⟨C, hC, r⟩ := h.box
 obtain ⟨D, hD, q⟩ := h.own
 exact ⟨⟨C, (hb g (.inl rfl)).trans hC, r⟩, ⟨D, ownT_block hD (hb mp (.inr (.inl rfl))), q⟩, fun j hj => R_keepN (h.row j hj) (fun k hk => hb k (.inr (.inr ⟨j, hj, hk⟩))), h.apart, h.lo, h.nd, h.rng, h.few⟩
theorem WH.foot {w : World} {S g mp : Nat} {now : Int} {V : Nat → Value} {ts : List (Int × Int)} (h : WH w S g mp now V ts) : ∀ k, WF g mp V k → k < w.heap.size ∧ S ≤ k := fun k hk => by
 have hn := h.ne
 rcases hk with rfl | rfl | ⟨j, hj, hk⟩
 ·exact ⟨hn.2.1, h.lo.1⟩
 ·exact ⟨hn.2.2.1, h.lo.2⟩
 ·have := hn.2.2.2 j hj k hk; exact ⟨this.2.2.1, this.2.2.2⟩
theorem WH.below {w w' : World} {S g mp : Nat} {now : Int} {V : Nat → Value} {ts : List (Int × Int)} (h : WH w S g mp now V ts) (hb : Below w.heap.size w w') : WH w' S g mp now V ts := h.keep (fun k hk => hb.block k (h.foot k hk).1)
theorem look_t {w : World} {mp n : Nat} {D : DataW Unit} (h : ownT w mp n D) {a t : Int} {b : Bool} (ha : 0 ≤ a ∧ a ≤ 65535) (hs : Maps.has D (.int .u16 a) = b) (hv : D.atKey (.int .u16 a) (.lit (.int .i64 0)) = .lit (.int .i64 t)) :
  (Instr.lookup 134 (.map (some mp)) (.int .u16 a) true).run Tryz.prog w = .ok (.tuple #[.int .i64 t, .bool b]) w := by
 obtain ⟨v, ps, hrun, hr⟩ := h.look_ok seqLawT Tryz.underlying134 (show (zeroValue 3).run Tryz.prog w = .ok (.int .i64 0) w by kernel_rfl) (plainElem_int Tryz.underlying3 (by decide)) (seqKeyT ha)
 obtain ⟨c, rfl, hc, _⟩ := plainElem_int_inv Tryz.underlying3 hr
 have e : c = t := by
  have := congrArg Prod.fst hc
  rw [hv] at this
  simpa using this.symm
 rw [hrun, hs, e]
theorem look1_t {w : World} {mp n : Nat} {D : DataW Unit} (h : ownT w mp n D) {a t : Int} (ha : 0 ≤ a ∧ a ≤ 65535) (hv : D.atKey (.int .u16 a) (.lit (.int .i64 0)) = .lit (.int .i64 t)) :
  (Instr.lookup 134 (.map (some mp)) (.int .u16 a) false).run Tryz.prog w = .ok (.int .i64 t) w := by
 obtain ⟨v, ps, hrun, hr⟩ := h.lookup seqLawT Tryz.underlying134 (show (zeroValue 3).run Tryz.prog w = .ok (.int .i64 0) w by kernel_rfl) (plainElem_int Tryz.underlying3 (by decide)) (seqKeyT ha)
 obtain ⟨c, rfl, hc, _⟩ := plainElem_int_inv Tryz.underlying3 hr
 have e : c = t := by
  have := congrArg Prod.fst hc
  rw [hv] at this
  simpa using this.symm
 rw [hrun, e]
theorem WH.cells {w : World} {S g mp : Nat} {now : Int} {V : Nat → Value} {ts : List (Int × Int)} (h : WH w S g mp now V ts) : w.cell? ⟨g, 0, none⟩ = some (.int .i64 now) ∧ w.cell? ⟨g, 1, none⟩ = some (.map (some mp)) ∧ (∀ j, j < 32 → w.cell? ⟨g, 2 + j, none⟩ = some (V j)) ∧ ∀ i, w.frozen? ⟨g, i, none⟩ = false := by
 obtain ⟨C, hC, _, h0, h1, h2⟩ := h.box
 exact ⟨(blk_cell hC 0).trans h0, (blk_cell hC 1).trans h1, fun j hj => (blk_cell hC (2 + j)).trans (h2 j hj), fun i => blk_frozen hC i⟩
theorem sp_del (ts : List (Int × Int)) (a : Int) (j : Nat) : spk (ts.filter fun p => !(p.1 == a)) j = keepN a (spk ts j) := by
 unfold spk keepN
 rw [List.filter_map, List.filter_filter, List.filter_filter]
 congr 1
 apply List.filter_congr
 intro p _
 simp [Bool.and_comm]
theorem fst_one {ts : List (Int × Int)} (hn : (ts.map (·.1)).Nodup) {a t t' : Int} (h : (a, t) ∈ ts) (h' : (a, t') ∈ ts) : t = t' := by
 induction ts with
 | nil => cases h
 | cons p ts ih =>
  rw [List.map_cons, List.nodup_cons] at hn
  rcases List.mem_cons.1 h with e | e <;> rcases List.mem_cons.1 h' with e' | e'
  ·rw [← e] at e'; injection e' with _ e'; exact e'.symm
  ·exact absurd (List.mem_map.2 ⟨_, e', by rw [← e]⟩) hn.1
  ·exact absurd (List.mem_map.2 ⟨_, e, by rw [← e']⟩) hn.1
  ·exact ih hn.2 e e'
theorem sp_off {ts : List (Int × Int)} (hn : (ts.map (·.1)).Nodup) {a t : Int} (h : (a, t) ∈ ts) {i : Nat} (hi : t % 32 ≠ (i : Int)) : keepN a (spk ts i) = spk ts i := by
 unfold keepN
 rw [List.filter_eq_self]
 intro x hx
 unfold spk at hx
 obtain ⟨p, hp, rfl⟩ := List.mem_map.1 hx
 obtain ⟨hp, h2⟩ := List.mem_filter.1 hp
 by_cases e : p.1 = a
 ·have : t = p.2 := fst_one hn h (by rw [← e]; exact hp)
  rw [← this] at h2
  exact absurd (by simpa using h2) hi
 ·simpa using e
theorem len_del {ts : List (Int × Int)} (hn : (ts.map (·.1)).Nodup) {a t : Int} (h : (a, t) ∈ ts) : (ts.filter fun p => !(p.1 == a)).length + 1 = ts.length := by
 induction ts with
 | nil => cases h
 | cons p ts ih =>
  rw [List.map_cons, List.nodup_cons] at hn
  rcases List.mem_cons.1 h with e | e
  ·have hno : ts.filter (fun p => !(p.1 == a)) = ts := by
    rw [List.filter_eq_self]
    intro q hq
    have : q.1 ≠ a := fun e' => hn.1 (List.mem_map.2 ⟨q, hq, by rw [e', ← e]⟩)
    simpa using this
   rw [List.filter_cons, ← e]
   simp [hno]
  ·have hpa : p.1 ≠ a := fun e' => hn.1 (List.mem_map.2 ⟨_, e, e'.symm⟩)
   rw [List.filter_cons]
   simp [hpa, ih hn.2 e]
theorem WH.taken {w w5 : World} {S g mp : Nat} {now : Int} {V : Nat → Value} {ts : List (Int × Int)} (h : WH w S g mp now V ts) {a t : Int} (ht : (a, t) ∈ ts) {j : Nat} (hj : t % 32 = (j : Int)) {gr : Nat} (hgr : (V j).ownBlock = some gr) {v' : Value} (hv' : v'.ownBlock = some gr)
  (hbox : ∀ C : Array Value, w.heap[g]? = some (.cells C 137 (0, 0)) → w5.heap[g]? = some (.cells (C.setIfInBounds (2 + j) v') 137 (0, 0)))
  (hrow : Kd.R (Kd.int .u16) seqT w5 S (fun _ => True) v' (keepN a (spk ts j))) {D : DataW Unit} (hD : ownT w mp (Maps.size D) D) (hsz : Maps.size D = ts.length) (hh : ∀ x, Maps.has D (.int .u16 x) = ts.any (fun p => p.1 == x)) (hv : ∀ p ∈ ts, D.atKey (.int .u16 p.1) (.lit (.int .i64 0)) = .lit (.int .i64 p.2))
  (hown : ownT w5 mp (Maps.size D) (D.del (.int .u16 a))) (hk : Keep (fun k => k = g ∨ k = mp ∨ k = gr) w w5) :
  WH w5 S g mp now (fun i => if i = j then v' else V i) (ts.filter fun p => !(p.1 == a)) := by
 have hj32 : j < 32 := by omega
 have hne := h.ne
 have ht' := hne.2.2.2 j hj32 gr hgr
 have hany : ts.any (fun p => p.1 == a) = true := List.any_eq_true.2 ⟨_, ht, by simp⟩
 have hlen := len_del h.nd ht
 have hty := World.ownsMap.tidy hD seqLawT
 have hsd := Maps.size_del (k := .int .u16 a) hty
 rw [hh a, hany] at hsd
 simp only [if_true] at hsd
 refine ⟨?_, ⟨_, own_fit hown, by omega, fun x => ?_, fun p hp => ?_⟩, fun i hi => ?_, fun i k hi hk' hik => ?_, h.lo, ?_, fun p hp => h.rng p (List.mem_filter.1 hp).1, by have := h.few; omega⟩
 ·obtain ⟨C, hC, hs, h0, h1, h2⟩ := h.box
  refine ⟨_, hbox C hC, by simp [hs], ?_, ?_, fun i hi => ?_⟩
  ·rw [Array.getElem?_setIfInBounds, if_neg (by omega)]; exact h0
  ·rw [Array.getElem?_setIfInBounds, if_neg (by omega)]; exact h1
  ·rw [Array.getElem?_setIfInBounds]
   by_cases e : i = j
   ·subst e; rw [if_pos rfl, if_pos (by omega), if_pos rfl]
   ·rw [if_neg (by omega), if_neg e]; exact h2 i hi
 ·rw [List.any_filter]
  by_cases e : x = a
  ·subst e
   rw [Maps.has_del_same]
   symm
   rw [List.any_eq_false]
   intro p _
   by_cases e2 : p.1 = x <;> simp [e2]
  ·rw [Maps.has_del_other (by simpa using e), hh x]
   apply Bool.eq_iff_iff.2
   rw [List.any_eq_true, List.any_eq_true]
   constructor
   ·rintro ⟨p, hp, hx⟩
    have hx' : p.1 = x := by simpa using hx
    exact ⟨p, hp, by rw [hx']; simp [e]⟩
   ·rintro ⟨p, hp, hx⟩
    exact ⟨p, hp, by revert hx; simp⟩
 ·obtain ⟨hp1, hp2⟩ := List.mem_filter.1 hp
  have e : p.1 ≠ a := by simpa using hp2
  rw [Maps.atKey_del_other (by simpa using e)]
  exact hv p hp1
 ·rw [sp_del]
  by_cases e : i = j
  ·subst e; rw [if_pos rfl]; exact hrow
  ·rw [if_neg e, sp_off h.nd ht (by rw [hj]; omega)]
   refine R_keepN (h.row i hi) (fun k hk' => ?_)
   have hk2 := hne.2.2.2 i hi k hk'
   exact hk.block k hk2.2.2.1 (by rintro (e1 | e1 | e1); exact hk2.1 e1; exact hk2.2.1 e1; subst e1; exact h.apart j i hj32 hi (Ne.symm e) k hgr hk')
 ·by_cases e : i = j
  ·subst e
   rw [if_pos rfl, hv', if_neg (by omega)]
   intro q hq; injection hq with hq; subst hq
   exact h.apart i k hi hk' hik gr hgr
  ·rw [if_neg e]
   by_cases e2 : k = j
   ·subst e2; rw [if_pos rfl, hv', ← hgr]; exact h.apart i k hi hk' hik
   ·rw [if_neg e2]; exact h.apart i k hi hk' hik
 ·have := h.nd
  exact (List.Sublist.map _ List.filter_sublist).nodup this
theorem blk_same {w w' : World} {g : Nat} {C : Array Value} {T : TypeId} (h : w.heap[g]? = some (.cells C T (0, 0))) (hb : w'.heap[g]? = w.heap[g]?) : (∀ i, w'.cell? ⟨g, i, none⟩ = w.cell? ⟨g, i, none⟩) ∧ ∀ i, w'.frozen? ⟨g, i, none⟩ = false :=
 ⟨fun i => (blk_cell (hb.trans h) i).trans (blk_cell h i).symm, fun i => blk_frozen (hb.trans h) i⟩
theorem wp_del {H : Type} {P : Program} {w : World} {o : Oper} {a : Act} {K : Act → World → Prop} {Q : Exit → Act → World → Prop} (m x : Operand) (t k : TypeId) (hop : o.op = Op.call { callee := Callee.builtin Builtin.delete, args := #[m, x], argTypes := #[t, k] })
  {e : TypeId} (hk : Maps.Keyed P k) (ht : P.underlying t = some (.map k e)) {R : Value → Option (DataW H × List MemPlace)} {b n : Nat} {D : DataW H}
  (hm : a.eval m = .map (some b)) (hown : w.ownsMap P k R b n D) {key : Value} {kl : Lit} (hx : a.eval x = key) (hkey : keyOf P k key = some kl)
  (hK : ∀ w', w'.ownsMap P k R b n (D.del kl) → w.mapTurned w' b → K (a.put o.dst (.tuple #[])) w') : Oper.wp P o a w K Q := by
 obtain ⟨w', hrun, r1, r2⟩ := hown.drop hk ht hkey o.type
 unfold Oper.wp
 simp [execOp, hop, resolve, invoke, builtin, hm, hx, hrun, Result.andThen]
 exact hK w' r1 r2
theorem row_shape {w : World} {base : Nat} {ok : Nat → Prop} {v : Value} {xs : List Int} (h : Kd.R (Kd.int .u16) seqT w base ok v xs) (hne : xs ≠ []) : ∃ gr cap, v = .slice (some ⟨gr, 0, none⟩) xs.length cap := by
 obtain ⟨h0, inner, ⟨hlen, ho2⟩, hr⟩ := h
 rcases ho2 with ⟨hv, hi⟩ | ⟨g', cap', cur, hv, _⟩
 ·exfalso
  exact hne (List.length_eq_zero_iff.1 hi)
 ·exact ⟨g', cap', hv⟩
def take1b.T : Bool × List (List Nat × List Nat) := (true, [([], []), ([0], [0]), ([1], [1]), ([2], [2]), ([], []), ([3, 4], [3, 4]), ([5], [5]), ([6], [6]), ([6], [6]), ([7, 0, 1, 2, 3, 4, 5, 6, 7], [7]), ([8, 9, 0, 1, 2, 3, 4, 5, 6, 7, 8, 9], [8])])
def take1b.B : List Nat := [0, 1, 3, 7, 0, 31, 63, 127, 127, 255, 1023]
theorem take1b.tab : rtab .any (opsOf Tryz.f60 1) = take1b.T := by kernel_rfl
theorem take1b.bits : waitsOk take1b.T.2 take1b.B = true := by kernel_rfl
def take1a.T : Bool × List (List Nat × List Nat) := (true, [([], []), ([0], [0]), ([1], [1]), ([2], [2]), ([], []), ([3, 4], [3, 4]), ([5], [5]), ([6], [6]), ([6], [6]), ([7, 0, 1, 2, 3, 4, 5, 6, 7], [7]), ([8, 9, 0, 1, 2, 3, 4, 5, 6, 7, 8, 9], [8])])
def take1a.B : List Nat := [0, 1, 3, 7, 0, 31, 63, 127, 127, 255, 1023]
theorem take1a.tab : rtab .any (opsOf Tryz.f60 1) = take1a.T := by kernel_rfl
theorem take1a.bits : waitsOk take1a.T.2 take1a.B = true := by kernel_rfl
def take6.T : Bool × List (List Nat × List Nat) := (true, [([], []), ([0], [0]), ([1], [1]), ([2], [2]), ([], []), ([3, 4], [3, 4])])
def take6.B : List Nat := [0, 1, 3, 7, 0, 31]
theorem take6.tab : rtab .any (opsOf Tryz.f60 6) = take6.T := by kernel_rfl
theorem take6.bits : waitsOk take6.T.2 take6.B = true := by kernel_rfl
theorem take_yes {w : World} {S g mp : Nat} {now : Int} {V : Nat → Value} {ts : List (Int × Int)} (h : WH w S g mp now V ts) {a t : Int} (ht : (a, t) ∈ ts) :
  Calls Tryz.prog 60 #[.pointer (some ⟨g, 0, none⟩), .int .u16 a] w fun e w' => e = .returned (.bool true) ∧
   ∃ V' : Nat → Value, WH w' S g mp now V' (ts.filter fun p => !(p.1 == a)) ∧ (∀ i, (V' i).ownBlock = (V i).ownBlock) ∧ Keep (WF g mp V) w w' := by
 obtain ⟨D, hD, hsz, hh, hv0⟩ := h.own
 have ha := (h.rng _ ht).1
 have htr := (h.rng _ ht).2
 have hs : Maps.has D (.int .u16 a) = true := (hh a).trans (List.any_eq_true.2 ⟨_, ht, by simp⟩)
 have hv := hv0 _ ht
 have HA := ax (And.intro ha (And.intro hs hv))
 have hba := below_alloc (Below.refl w.heap.size w) (.cells #[.int .u16 a] seqT)
 have hbb := blk_new w (.cells #[.int .u16 a] seqT)
 have h1 := h.below hba
 obtain ⟨w1, hw1⟩ : ∃ w1, w1 = w.alloc (.cells #[.int .u16 a] seqT) := ⟨_, rfl⟩
 rw [← hw1] at hba hbb h1
 have HS := ax (show w1.drew.cell? ⟨g, 1, none⟩ = some (.map (some mp)) ∧ w1.drew.cell? ⟨w.heap.size, 0, none⟩ = some (.int .u16 a) ∧ ownT w1.drew mp (Maps.size D) D from ⟨h1.cells.2.1, blk_cell hbb 0, World.ownsMap.drew (ownT_block hD (hba.block mp h.ne.2.2.1))⟩)
 have HB := ax (below_step hba (below_drew1 (Below.refl _ _)))
 have HW := ax h
 have HC := ax (show CapN w1.drew w.heap.size a from hbb)
 obtain ⟨j, hj⟩ : ∃ j : Nat, t % 32 = (j : Int) := ⟨(t % 32).toNat, by omega⟩
 have hj32 : j < 32 := by omega
 have hrj := h.row j hj32
 have hain : a ∈ spk ts j := List.mem_map.2 ⟨(a, t), List.mem_filter.2 ⟨ht, by simp [hj]⟩, rfl⟩
 obtain ⟨gr, cap, hVj⟩ := row_shape hrj (List.ne_nil_of_mem hain)
 have hn5 : (spk ts j).length ≤ 5000 := by
  unfold spk; rw [List.length_map]
  have := List.length_filter_le (fun p : Int × Int => p.2 % 32 == (j : Int)) ts
  have := h.few; omega
 obtain ⟨n, hn⟩ : ∃ n, n = (spk ts j).length := ⟨_, rfl⟩
 rw [← hn] at hVj hn5
 have hgr : (V j).ownBlock = some gr := by rw [hVj]; rfl
 have hgl := h.ne.2.2.2 j hj32 gr hgr
 have HR := ax (Kd.R_below hrj HB.out)
 rw [hVj] at HR
 have HJ := ax (And.intro ht (And.intro hj (And.intro hgr (And.intro hgl (And.intro hD (And.intro hsz (And.intro hh hv0)))))))
 have hnc := And.intro h.ne.1 (And.intro h.ne.2.1 h.ne.2.2.1)
 have HN := ax hnc
 have hrem : t.tmod 32 = (j : Int) := by rw [Int.tmod_eq_emod_of_nonneg (by omega)]; exact hj
 have hcv : w1.drew.cell? ⟨g, 2 + j, none⟩ = some (.slice (some ⟨gr, 0, none⟩) n cap) := by rw [← hVj]; exact h1.cells.2.2.1 j hj32
 obtain ⟨C0, hC0, hC0r⟩ := h1.box
 have hg3g : w1.drew.heap[g]? = some (.cells C0 137 (0, 0)) := hC0
 have HC0 := ax hg3g
 have HDEL := ax (ndel_calls (base := S) (ok := fun _ => True) HC.out HR.out hn5 (by omega))
 clear h ha htr hD hh hs hv hv0 hba hbb h1 hrj hain hn hsz ht
 go_enter Tryz.func60, Tryz.ntmps60
 go_wp2_with fail
 rw [← hw1]
 clear hw1
 refine start_ (n := 11) (S := (fun w' => w'.cell? ⟨g, 1, none⟩ = some (.map (some mp)) ∧ w'.cell? ⟨w.heap.size, 0, none⟩ = some (.int .u16 a) ∧ ownT w' mp (Maps.size D) D)) (ds := []) #[false, false, false, false, false, false, false, false, false, false, false] kr rfl rfl HS.out (fun hHeld => ?_)
 refine with_tabW take1b.tab take1b.bits (fun HT_ HW_ => ?_)
 refine pu_ 0 9 HT_ ?_; refine pu_ 1 10 HT_ ?_; refine pu_ 2 11 HT_ ?_; refine tk_ 3 12 HT_ HW_ hHeld ?_; refine tk_ 4 13 HT_ HW_ hHeld ?_
 refine take_ (i := 5) (N := some 14) (v := ?_) (a' := ?_) #[true, true, true, true, true, true, false, false, false, false, false] rfl rfl (take_ofW HT_.out HW_.out kr) (fun _ _ _ h => h) (Or.inl ⟨by rfl, ?_⟩) hHeld ?_ ?_
 rotate_left
 ·rintro w' ⟨s0, s1, s2⟩
  have hl := look_t s2 HA.out.1 HA.out.2.1 HA.out.2.2; go_simp; with_reducible rfl
 rotate_left
 ·simp only [Act.put, List.setIfInBounds_toArray, List.set_cons_zero, List.set_cons_succ, i64_w, i32_w]
  rfl
 refine pu_ 6 8 HT_ ?_; refine pu_ 7 15 HT_ ?_; refine pu_ 8 16 HT_ ?_; refine pu_ 9 5 HT_ ?_; refine pu_ 10 6 HT_ ?_
 refine done_ (done_of HT_.out kr) ?_
 clear hHeld
 go_wp2_with (go_at_call 116; refine HDEL.out.mono ?_; rintro e w3 ⟨m, rfl, hr3, hg3⟩; have HR3 := ax hr3; have HG3 := ax hg3; clear hr3 hg3; have hc3 := (blk_same hg3g (HG3.out.block g (by have := HB.out.size; omega) (by intro e; injection e; omega))).1 (2 + j); have hf3 := (blk_same hg3g (HG3.out.block g (by have := HB.out.size; omega) (by intro e; injection e; omega))).2 (2 + j))
 have hsz1 := HB.out.size
 have hbx3 : w3.heap[g]? = some (.cells C0 137 (0, 0)) := (HG3.out.block g (by omega) (by intro e; injection e; omega)).trans hg3g
 have hbx4 := blk_put hbx3 (2 + j) (.slice (some ⟨gr, 0, none⟩) m cap) rfl
 have hcap3 := CapN.grown HC.out HG3.out (by omega)
 have hp4 : Put1 g w3 (w3.setCell ⟨g, 2 + j, none⟩ (.slice (some ⟨gr, 0, none⟩) m cap)) := Put1.set _ _ _ _
 have hcap4 := (hp4.block w.heap.size (by omega)).trans hcap3
 have hmp4 := (hp4.block mp (Ne.symm hnc.1)).trans ((HG3.out.block mp (by omega) (by intro e; injection e; omega)).trans (HB.out.block mp hnc.2.2))
 have hgr4 := hp4.block gr hgl.1
 have hc41 := (blk_cell hbx4 1).trans ((by rw [Array.getElem?_setIfInBounds, if_neg (by omega)]; exact hC0r.2.2.1) : _ = some (Value.map (some mp)))
 obtain ⟨w4, hw4⟩ : ∃ w4, w4 = w3.setCell ⟨g, 2 + j, none⟩ (.slice (some ⟨gr, 0, none⟩) m cap) := ⟨_, rfl⟩
 rw [← hw4] at hbx4 hp4 hcap4 hmp4 hgr4 hc41 ⊢
 clear hw4
 have HS4 := ax (show w4.drew.cell? ⟨g, 1, none⟩ = some (.map (some mp)) ∧ w4.drew.cell? ⟨w.heap.size, 0, none⟩ = some (.int .u16 a) ∧ ownT w4.drew mp (Maps.size D) D from ⟨hc41, blk_cell hcap4 0, World.ownsMap.drew (ownT_block HJ.out.2.2.2.2.1 hmp4)⟩)
 have H4 := ax (And.intro hbx4 (And.intro hp4 (And.intro hmp4 hgr4)))
 clear hsz1 hbx3 hbx4 hcap3 hp4 hcap4 hmp4 hgr4 hc41 hc3 hf3 hg3g hC0 hcv HT_ HW_ HDEL HS
 refine start_ (n := 6) (S := (fun w' => w'.cell? ⟨g, 1, none⟩ = some (.map (some mp)) ∧ w'.cell? ⟨w.heap.size, 0, none⟩ = some (.int .u16 a) ∧ ownT w' mp (Maps.size D) D)) (ds := [5]) #[false, false, false, false, false, false] kr rfl rfl HS4.out (fun hHeld => ?_)
 refine with_tabW take6.tab take6.bits (fun HT_ HW_ => ?_)
 refine pu_ 0 32 HT_ ?_; refine pu_ 1 33 HT_ ?_; refine pu_ 2 34 HT_ ?_; refine tk_ 3 35 HT_ HW_ hHeld ?_; refine tk_ 4 36 HT_ HW_ hHeld ?_
 refine last_ (i := 5) (N := none) #[true, true, true, true, true, true] rfl rfl (one_of HT_.out kr) (by decide) (fun K hK => ?_)
 rw [if_pos (by rfl)]
 refine wp_del (.tmp 35) (.tmp 36) 134 seqT rfl seqLawT Tryz.underlying134 (by rfl) hHeld.2.2 (by rfl) (seqKeyT HA.out.1) ?_
 intro w5 hown hturn
 have HO5 := ax hown
 have HT5 := ax (map_put hturn)
 clear hown hturn hHeld
 refine hK.out _ _ ?_
 clear hK K
 refine done_ (done_of HT_.out kr) ?_
 simp only [Act.put]
 go_wp2_with fail
 have hrs : (Tryz.f60).results = #[.tmp 4] := by kernel_rfl
 refine bodyPost_ret (results_tmp hrs _ _ _) rfl ?_
 obtain ⟨hbx4, hp4, hmp4, hgr4⟩ := H4.out
 have hb5 : w5.heap[g]? = w4.heap[g]? := HT5.out.block g hnc.1
 have hr5 : w5.heap[gr]? = w3.heap[gr]? := (HT5.out.block gr hgl.2.1).trans hgr4
 have hkeep : Keep (fun k => k = g ∨ k = mp ∨ k = gr) w w5 := (Keep.of_below HB.out).seq ((Keep.of_grown HG3.out (fun k hk => by injection hk with hk; exact .inr (.inr hk.symm))).seq ((Keep.of_put hp4 (.inl rfl)).seq ((Keep.of_below (below_drew1 (Below.refl _ _))).seq (Keep.of_put HT5.out (.inr (.inl rfl))))))
 have hfin := HW.out.taken HJ.out.1 hj hgr (v' := .slice (some ⟨gr, 0, none⟩) m cap) rfl (fun C hC => by
  have e := (HB.out.block g hnc.2.1).trans hC
  rw [HC0.out] at e
  injection e with e; injection e with e
  rw [hb5, hbx4, e]) (R_keepN HR3.out (fun k hk => by injection hk with hk; subst hk; exact hr5)) HJ.out.2.2.2.2.1 HJ.out.2.2.2.2.2.1 HJ.out.2.2.2.2.2.2.1 HJ.out.2.2.2.2.2.2.2 HO5.out hkeep
 refine ⟨rfl, _, hfin, fun i => ?_, hkeep.mono (fun k _ hk => ?_)⟩
 ·by_cases e : i = j
  ·subst e; rw [if_pos rfl, hgr]; rfl
  ·rw [if_neg e]
 ·rcases hk with e | e | e
  ·exact .inl e
  ·exact .inr (.inl e)
  ·exact .inr (.inr ⟨j, hj32, by rw [e]; exact hgr⟩)
theorem take_no {w : World} {S g mp : Nat} {now : Int} {V : Nat → Value} {ts : List (Int × Int)} (h : WH w S g mp now V ts) (a : Int) (ha : 0 ≤ a ∧ a ≤ 65535) (hn : ts.any (fun p => p.1 == a) = false) :
  Calls Tryz.prog 60 #[.pointer (some ⟨g, 0, none⟩), .int .u16 a] w fun e w' => e = .returned (.bool false) ∧ Below w.heap.size w w' := by
 obtain ⟨D, hD, _, hh, _⟩ := h.own
 have hs : Maps.has D (.int .u16 a) = false := (hh a).trans hn
 have hv := Maps.atKey_of_not_has hs (.lit (.int .i64 0))
 have HA := ax (And.intro ha (And.intro hs hv))
 have hba := below_alloc (Below.refl w.heap.size w) (.cells #[.int .u16 a] seqT)
 have hbb := blk_new w (.cells #[.int .u16 a] seqT)
 have h1 := h.below hba
 obtain ⟨w1, hw1⟩ : ∃ w1, w1 = w.alloc (.cells #[.int .u16 a] seqT) := ⟨_, rfl⟩
 rw [← hw1] at hba hbb h1
 have HS := ax (show w1.drew.cell? ⟨g, 1, none⟩ = some (.map (some mp)) ∧ w1.drew.cell? ⟨w.heap.size, 0, none⟩ = some (.int .u16 a) ∧ ownT w1.drew mp (Maps.size D) D from ⟨h1.cells.2.1, blk_cell hbb 0, World.ownsMap.drew (ownT_block hD (hba.block mp h.ne.2.2.1))⟩)
 have HB := ax (below_step hba (below_drew1 (Below.refl _ _)))
 clear h ha hn hD hh hs hv hba hbb h1
 go_enter Tryz.func60, Tryz.ntmps60
 go_wp2_with fail
 rw [← hw1]
 refine start_ (n := 11) (S := (fun w' => w'.cell? ⟨g, 1, none⟩ = some (.map (some mp)) ∧ w'.cell? ⟨w.heap.size, 0, none⟩ = some (.int .u16 a) ∧ ownT w' mp (Maps.size D) D)) (ds := []) #[false, false, false, false, false, false, false, false, false, false, false] kr rfl rfl HS.out (fun hHeld => ?_)
 refine with_tabW take1a.tab take1a.bits (fun HT_ HW_ => ?_)
 refine pu_ 0 9 HT_ ?_; refine pu_ 1 10 HT_ ?_; refine pu_ 2 11 HT_ ?_; refine tk_ 3 12 HT_ HW_ hHeld ?_; refine tk_ 4 13 HT_ HW_ hHeld ?_
 refine take_ (i := 5) (N := some 14) (v := ?_) (a' := ?_) #[true, true, true, true, true, true, false, false, false, false, false] rfl rfl (take_ofW HT_.out HW_.out kr) (fun _ _ _ h => h) (Or.inl ⟨by rfl, ?_⟩) hHeld ?_ ?_
 rotate_left
 ·rintro w' ⟨s0, s1, s2⟩
  have hl := look_t s2 HA.out.1 HA.out.2.1 HA.out.2.2; go_simp; with_reducible rfl
 rotate_left
 ·simp only [Act.put, List.setIfInBounds_toArray, List.set_cons_zero, List.set_cons_succ, i64_w, i32_w]
  rfl
 refine pu_ 6 8 HT_ ?_; refine pu_ 7 15 HT_ ?_; refine pu_ 8 16 HT_ ?_; refine pu_ 9 5 HT_ ?_; refine pu_ 10 6 HT_ ?_
 refine done_ (done_of HT_.out kr) ?_
 clear hHeld
 go_wp2_with fail
 have hrs : (Tryz.f60).results = #[.tmp 4] := by kernel_rfl
 refine bodyPost_ret (results_tmp hrs _ _ _) rfl ?_
 exact ⟨rfl, by rw [hw1] at HB; exact HB.out⟩
-- YtajiggmeappfaaaGreatDoorPWSet
theorem sp_add (ts : List (Int × Int)) (a t : Int) (i : Nat) : spk (ts ++ [(a, t)]) i = if t % 32 = (i : Int) then spk ts i ++ [a] else spk ts i := by
 unfold spk
 rw [List.filter_append, List.map_append]
 by_cases e : t % 32 = (i : Int)
 ·simp [e]
 ·simp [e]
theorem WH.added {w w5 : World} {S g mp : Nat} {now : Int} {V : Nat → Value} {ts : List (Int × Int)} (h : WH w S g mp now V ts) {a t : Int} (hno : ts.any (fun p => p.1 == a) = false) (hr : (0 ≤ a ∧ a ≤ 65535) ∧ 0 ≤ t ∧ t ≤ 100000) (hfew : ts.length < 100) {j : Nat} (hj : t % 32 = (j : Int)) {v' : Value}
  (hat : v'.ownBlock = (V j).ownBlock ∨ ∃ b, v'.ownBlock = some b ∧ w.heap.size ≤ b)
  (hbox : ∀ C : Array Value, w.heap[g]? = some (.cells C 137 (0, 0)) → w5.heap[g]? = some (.cells (C.setIfInBounds (2 + j) v') 137 (0, 0)))
  (hrow : Kd.R (Kd.int .u16) seqT w5 S (fun _ => True) v' (spk ts j ++ [a])) {D : DataW Unit} (hD : ownT w mp (Maps.size D) D) (hsz : Maps.size D = ts.length) (hh : ∀ x, Maps.has D (.int .u16 x) = ts.any (fun p => p.1 == x)) (hv : ∀ p ∈ ts, D.atKey (.int .u16 p.1) (.lit (.int .i64 0)) = .lit (.int .i64 p.2))
  (hown : ownT w5 mp (Maps.size D + 1) (D.put (.int .u16 a) (.lit (.int .i64 t)))) (hk : Keep (fun k => k = g ∨ k = mp ∨ (V j).ownBlock = some k) w w5) :
  WH w5 S g mp now (fun i => if i = j then v' else V i) (ts ++ [(a, t)]) := by
 have hj32 : j < 32 := by omega
 have hne := h.ne
 have hty := World.ownsMap.tidy hD seqLawT
 have hkl : WideAt.IsKeyLit (.int .u16 a) := trivial
 have hsd := Maps.size_put (k := .int .u16 a) hty (.lit (.int .i64 t))
 rw [hh a, hno] at hsd
 simp only [Bool.false_eq_true, if_false] at hsd
 have hold : ∀ i, i < 32 → ∀ k, (V i).ownBlock = some k → k < w.heap.size := fun i hi k hk => (hne.2.2.2 i hi k hk).2.2.1
 refine ⟨?_, ⟨_, own_fit hown, by rw [hsd, hsz]; simp, fun x => ?_, fun p hp => ?_⟩, fun i hi => ?_, fun i k hi hk' hik => ?_, h.lo, ?_, fun p hp => ?_, by rw [List.length_append]; simp; omega⟩
 ·obtain ⟨C, hC, hs, h0, h1, h2⟩ := h.box
  refine ⟨_, hbox C hC, by simp [hs], ?_, ?_, fun i hi => ?_⟩
  ·rw [Array.getElem?_setIfInBounds, if_neg (by omega)]; exact h0
  ·rw [Array.getElem?_setIfInBounds, if_neg (by omega)]; exact h1
  ·rw [Array.getElem?_setIfInBounds]
   by_cases e : i = j
   ·subst e; rw [if_pos rfl, if_pos (by omega), if_pos rfl]
   ·rw [if_neg (by omega), if_neg e]; exact h2 i hi
 ·rw [List.any_append]
  by_cases e : x = a
  ·subst e
   rw [Maps.has_put_same hty.isMap hkl]
   simp
  ·rw [Maps.has_put_other (by simpa using e), hh x]
   have : ([(a, t)] : List (Int × Int)).any (fun p => p.1 == x) = false := by simp; omega
   rw [this, Bool.or_false]
 ·rcases List.mem_append.1 hp with hp | hp
  ·have e : p.1 ≠ a := by
    intro e
    have := List.any_eq_false.1 hno p hp
    simp [e] at this
   rw [Maps.atKey_put_other (by simpa using e)]
   exact hv p hp
  ·rw [List.mem_singleton] at hp
   subst hp
   exact Maps.atKey_put_same hty.isMap hkl _ _
 ·rw [sp_add]
  by_cases e : i = j
  ·subst e; rw [if_pos rfl, if_pos hj]; exact hrow
  ·rw [if_neg e, if_neg (by omega)]
   refine R_keepN (h.row i hi) (fun k hk' => ?_)
   have hk2 := hne.2.2.2 i hi k hk'
   exact hk.block k hk2.2.2.1 (by rintro (e1 | e1 | e1); exact hk2.1 e1; exact hk2.2.1 e1; exact h.apart j i hj32 hi (Ne.symm e) k e1 hk')
 ·have hnew : ∀ i, i < 32 → i ≠ j → ∀ q, v'.ownBlock = some q → (V i).ownBlock ≠ some q := by
   intro i hi e q hq hq2
   rcases hat with hat | ⟨b, hb, hlb⟩
   ·rw [hat] at hq; exact h.apart j i hj32 hi (Ne.symm e) q hq hq2
   ·rw [hb] at hq; injection hq with hq; subst hq
    have := hold i hi _ hq2; omega
  by_cases e : i = j
  ·subst e
   rw [if_pos rfl, if_neg (by omega)]
   exact hnew k hk' (Ne.symm hik)
  ·rw [if_neg e]
   by_cases e2 : k = j
   ·subst e2; rw [if_pos rfl]; exact fun q hq hq2 => hnew i hi e q hq2 hq
   ·rw [if_neg e2]; exact h.apart i k hi hk' hik
 ·rw [List.map_append, List.nodup_append]
  refine ⟨h.nd, by simp, fun x hx y hy => ?_⟩
  rw [List.map_singleton, List.mem_singleton] at hy
  subst hy
  obtain ⟨p, hp, rfl⟩ := List.mem_map.1 hx
  have := List.any_eq_false.1 hno p hp
  simpa using this
 ·rcases List.mem_append.1 hp with hp | hp
  ·exact h.rng p hp
  ·rw [List.mem_singleton] at hp; subst hp; exact hr
theorem wf64 (x : Int) (h0 : -100000 ≤ x) (h1 : x ≤ 1000000) : (Lit.int .i64 x).wf = true := by
 simp [Lit.wf, IntKind.signed, IntKind.bits, IntKind.min, IntKind.max]; omega
def wset6.T : Bool × List (List Nat × List Nat) := (true, [([], []), ([], []), ([1], [1]), ([], []), ([], []), ([4], [4]), ([3], [3]), ([6], [6]), ([7, 5], [5, 7]), ([8], [8]), ([], []), ([10], [10]), ([9, 11], [9, 11]), ([0], [0]), ([13], [13]), ([14, 2, 0, 1, 2, 3, 4, 5, 6, 7, 8, 9, 10, 11, 12], [2, 14]), ([15, 12, 12, 0, 1, 2, 3, 4, 5, 6, 7, 8, 9, 10, 11, 12], [12, 15])])
def wset6.B : List Nat := [0, 0, 2, 0, 0, 16, 8, 72, 248, 504, 0, 1024, 4088, 1, 8193, 32767, 65535]
theorem wset6.tab : rtab .any (opsOf Tryz.f69 6) = wset6.T := by kernel_rfl
theorem wset6.bits : waitsOk wset6.T.2 wset6.B = true := by kernel_rfl
theorem wset_calls {w : World} {S g mp : Nat} {now : Int} {V : Nat → Value} {ts : List (Int × Int)} (h : WH w S g mp now V ts) {a n : Int} (ha : 0 ≤ a ∧ a ≤ 65535) (hno : ts.any (fun p => p.1 == a) = false) (hfew : ts.length < 100) (hnow : 0 ≤ now ∧ now ≤ 1000) (hn : 1 ≤ n ∧ n ≤ 1000) :
  Calls Tryz.prog 69 #[.pointer (some ⟨g, 0, none⟩), .int .u16 a, .int .i64 n] w fun e w' => e = .returned (.int .i64 0) ∧
   ∃ V' : Nat → Value, WH w' S g mp now V' (ts ++ [(a, now + n)]) ∧ Grow w (WF g mp V) (WF g mp V') ∧ Keep (WF g mp V) w w' := by
 obtain ⟨D, hD, hsz, hh, hv⟩ := h.own
 have HD := ax (And.intro hD (And.intro hsz (And.intro hh hv)))
 have hnc := And.intro h.ne.1 (And.intro h.ne.2.1 h.ne.2.2.1)
 have HN := ax (show Maps.size D < maxLen by rw [hsz]; have := h.few; simp [maxLen]; omega)
 have HW := ax h
 have HK := ax (take_no h a ha hno)
 have HA := ax (And.intro ha (And.intro hno hfew))
 have e1 : ¬ n < 1 := by omega
 have e2 : ¬ n > 1000 := by omega
 obtain ⟨j, hj⟩ : ∃ j : Nat, (now + n) % 32 = (j : Int) := ⟨((now + n) % 32).toNat, by omega⟩
 have hj32 : j < 32 := by omega
 have hrem : (now + n).tmod 32 = (j : Int) := by rw [Int.tmod_eq_emod_of_nonneg (by omega)]; exact hj
 have HJ := ax (And.intro hj (And.intro hj32 (And.intro hnow hn)))
 clear h ha hno hfew hD hsz hh hv
 go_enter Tryz.func69, Tryz.ntmps69
 go_wp2_with (first
  | (go_at_call 60; refine HK.out.mono ?_; rintro e w1 ⟨rfl, hb⟩; have HB1 := ax hb; have HW1 := ax (HW.out.below hb); clear hb; have hc0 := HW1.out.cells.1; have hc1 := HW1.out.cells.2.1)
  | (at_mapUpdate; refine wpList_mapUpdate_in _ rfl _ _ _ 134 rfl seqT 3 seqLawT Tryz.underlying134 (plainElem Tryz.prog 3) mp (Maps.size D) D rfl (ownT_block HD.out.1 (HB1.out.block mp hnc.2.2)) HN.out _ _ _ rfl rfl (seqKeyT HA.out.1) (.lit (.int .i64 (now + n))) [] (plainElem_int Tryz.underlying3 (wf64 (now + n) (by omega) (by omega))) ?_; intro w2 hown hturn; have HO2 := ax hown; have HT2 := ax (map_put hturn); clear hown hturn)
  | fail)
 simp only [Act.put]
 obtain ⟨C0, hC0, hC0r⟩ := HW1.out.box
 have hne1 := HW1.out.ne
 have hb2 : w2.heap[g]? = some (.cells C0 137 (0, 0)) := (HT2.out.block g hnc.1).trans hC0
 have hcv := (blk_cell hb2 (2 + j)).trans (hC0r.2.2.2 j hj32)
 have hrow2 := R_keepN (w' := w2.drew) (HW1.out.row j hj32) (fun k hk => HT2.out.block k (hne1.2.2.2 j hj32 k hk).2.1)
 have hSl : S ≤ w2.heap.size := by have := HW1.out.lo.1; have := hne1.2.1; have := HT2.out.size; omega
 have hlen : (spk ts j).length ≤ 100 := by
  unfold spk; rw [List.length_map]
  have := List.length_filter_le (fun p : Int × Int => p.2 % 32 == (j : Int)) ts
  have := HA.out.2.2; omega
 have HC2 := ax (And.intro hC0 (And.intro hb2 (And.intro hSl hlen)))
 have HR2 := ax hrow2
 have HCV := ax (show w2.drew.cell? ⟨g, 2 + j, none⟩ = some (V j) from hcv)
 have HG2 := ax (show g < w2.drew.heap.size from by show g < w2.heap.size; exact blk_lt hb2)
 have hj3i : (j : Int) < 32 := by omega
 clear hC0 hC0r hne1 hb2 hcv hrow2 hSl hlen hc0 hc1
 refine start_ (n := 17) (S := (fun w' => w'.cell? ⟨g, 2 + j, none⟩ = some (V j))) (ds := [12, 16]) #[false, false, false, false, false, false, false, false, false, false, false, false, false, false, false, false, false] kr rfl rfl HCV.out (fun hHeld => ?_)
 refine with_tabW wset6.tab wset6.bits (fun HT_ HW_ => ?_)
 refine pu_ 0 33 HT_ ?_; refine pu_ 1 34 HT_ ?_; refine pu_ 2 35 HT_ ?_; refine pu_ 3 36 HT_ ?_; refine pu_ 4 37 HT_ ?_; refine pu_ 5 38 HT_ ?_; refine pu_ 6 39 HT_ ?_; refine pu_ 7 40 HT_ ?_; refine pu_ 8 41 HT_ ?_; refine tk_ 9 42 HT_ HW_ hHeld ?_; refine pu_ 10 43 HT_ ?_; refine pu_ 13 46 HT_ ?_; refine pu_ 14 47 HT_ ?_
 refine on_ 11 HT_ fun K hK => ?_
 refine Kd.R_lit_step (Kd.int .u16) (w0 := w2.drew) w2.drew.heap.size seqT (by rfl) (N := 44) rfl (xs := [a]) (inner := [.int .u16 a]) (ok := fun _ => True) (okp := fun _ => True) (by first | (go_simp; done) | (go_simp; rfl)) ⟨rfl, by intro j p hj; cases j with | zero => (injection hj with hj; subst hj; rfl) | succ j => cases hj⟩ (fun _ hk => hk) trivial (Below.refl _ _) (Nat.le_refl _) (by simp) ?_
 intro v3 w3 ho3 hb3 hg3 hnew3
 obtain ⟨A3, c3, e3⟩ := Kd.R_slice ho3
 subst e3
 have H3 := ax ho3
 have HB3 := ax hb3
 have HR3 := ax (Kd.R_below HR2.out hb3)
 clear ho3 hb3 hg3 hnew3
 refine hK.out _ _ (by rw [HB3.out.cell (p := ⟨g, 2 + j, none⟩) HG2.out]; exact HCV.out) (fun hHeld => ?_)
 clear hK K
 refine norm_ (a' := ?_) ?_ ?_
 rotate_left
 ·show Act.put _ (some 44) _ = _
  simp only [Act.put, List.setIfInBounds_toArray, List.set_cons_zero, List.set_cons_succ, i64_w, i32_w]
  rfl
 refine last_ (i := 12) (N := some 45) #[true, true, true, true, true, true, true, true, true, true, true, true, true, true, true, false, false] rfl rfl (one_of HT_.out kr) (by decide) (fun K hK => ?_)
 refine Kd.R_append_rows_step (Kd.int .u16) (w0 := w3) S (by rfl) (.tmp 42) (.tmp 44) 97 seqT (.int .u16 0) 2 rfl Tryz.underlying97 u16_info rfl (by decide) (by omega) (V j) (spk ts j) [a] A3 [a].length c3 (fun _ => True) (fun _ => False) (by first | rfl | (go_simp; done)) (by first | rfl | (go_simp; done)) HR3.out (Kd.R_reads' H3.out).2.2 (fun _ _ h => h) (fun _ h => h.elim) (fun _ _ => trivial) (Below.refl _ _) (Nat.le_trans HC2.out.2.2.1 HB3.out.size) (by have := HC2.out.2.2.2; simp; omega) ?_
 intro v4 w4 ho4 hb4 hg4 hat4
 have HR4 := ax ho4
 have HG4 := ax hg4
 have HAT := ax hat4
 have hbx3 := (HB3.out.block g HG2.out).trans (show w2.drew.heap[g]? = _ from HC2.out.2.1)
 have hgj : (V j).ownBlock ≠ some g := fun e => (HW1.out.ne.2.2.2 j hj32 g e).1 rfl
 have HB4 := ax ((hg4.block g (blk_lt hbx3) (fun e => hgj e.symm)).trans hbx3)
 clear ho4 hb4 hg4 hat4 hbx3 hgj hHeld
 refine hK.out _ _ ?_
 clear hK K
 refine norm_ (a' := ?_) ?_ ?_
 rotate_left
 ·show Act.put _ (some 45) _ = _
  simp only [Act.put, List.setIfInBounds_toArray, List.set_cons_zero, List.set_cons_succ, i64_w, i32_w]
  rfl
 refine pu_ 15 48 HT_ ?_
 refine last_ (i := 16) (N := none) #[true, true, true, true, true, true, true, true, true, true, true, true, true, true, true, true, true] rfl rfl (one_of HT_.out kr) (by decide) (fun K hK => ?_)
 rw [if_pos (by rfl)]
 have hc4 := (blk_cell HB4.out (2 + j))
 have hf4 := (blk_frozen HB4.out (2 + j))
 have hc5 : ∃ u, w4.cell? ⟨g, 2 + j, none⟩ = some u := by
  obtain ⟨C1, hC1, h1⟩ := HW1.out.box
  have e := HC2.out.1.symm.trans hC1
  injection e with e; injection e with e
  exact ⟨_, hc4.trans (by rw [e]; exact h1.2.2.2 j hj32)⟩
 obtain ⟨u4, hc5⟩ := hc5
 obtain ⟨A4, c4, e4⟩ := Kd.R_slice HR4.out
 subst e4
 unfold Oper.wp
 clear hc4
 go_simp
 refine hK.out _ _ ?_
 clear hK K
 refine done_ (done_of HT_.out kr) ?_
 go_wp2_with fail
 have hrs : (Tryz.f69).results = #[.tmp 6] := by kernel_rfl
 refine bodyPost_ret (results_tmp hrs _ _ _) rfl ?_
 have hR4 := HR4.out
 have hat := HAT.out
 simp only [List.length_append, List.length_singleton] at hR4 hat
 obtain ⟨v', hv'⟩ : ∃ v', v' = Value.slice A4 ((spk ts j).length + 1) c4 := ⟨_, rfl⟩
 rw [← hv'] at hR4 hat ⊢
 have hne := HW.out.ne
 have hs3 : w.heap.size ≤ w3.heap.size := Nat.le_trans HB1.out.size (Nat.le_trans (Nat.le_of_eq HT2.out.size.symm) HB3.out.size)
 have hg5 := blk_put HB4.out (2 + j) v' rfl
 have hp5 : Put1 g w4 (w4.setCell ⟨g, 2 + j, none⟩ v') := Put1.set _ _ _ _
 have hmj : (V j).ownBlock ≠ some mp := fun e => (hne.2.2.2 j hj32 mp e).2.1 rfl
 have hm4 : (w4.setCell ⟨g, 2 + j, none⟩ v').heap[mp]? = w2.heap[mp]? := by
  have h2 : mp < w2.heap.size := by have := HB1.out.size; have := HT2.out.size; omega
  have h3 : w2.heap.size ≤ w3.heap.size := HB3.out.size
  rw [hp5.block mp (Ne.symm hnc.1), HG4.out.block mp (by omega) (fun e => hmj e.symm)]
  exact HB3.out.block mp h2
 have hk : Keep (fun k => k = g ∨ k = mp ∨ (V j).ownBlock = some k) w (w4.setCell ⟨g, 2 + j, none⟩ v') := (Keep.of_below HB1.out).seq ((Keep.of_put HT2.out (.inr (.inl rfl))).seq ((Keep.of_below (below_drew1 (Below.refl _ _))).seq ((Keep.of_below HB3.out).seq ((Keep.of_grown HG4.out (fun k hk => .inr (.inr hk))).seq (Keep.of_put hp5 (.inl rfl))))))
 have hat' : v'.ownBlock = (V j).ownBlock ∨ ∃ b, v'.ownBlock = some b ∧ w.heap.size ≤ b := by
  rcases hat with e | ⟨b, e, hb⟩
  ·exact .inl e
  ·exact .inr ⟨b, e, by omega⟩
 have hfin := HW.out.added (t := now + n) HA.out.2.1 ⟨HA.out.1, by omega⟩ HA.out.2.2 HJ.out.1 hat' (fun C hC => by
  have e := (HB1.out.block g hnc.2.1).trans hC
  rw [HC2.out.1] at e
  injection e with e; injection e with e
  rw [hg5, e]) (R_keepN hR4 (fun k hkk => hp5.block k (by
   intro e
   subst e
   rcases hat' with e | ⟨b, e, hb⟩
   ·rw [e] at hkk; exact (hne.2.2.2 j hj32 _ hkk).1 rfl
   ·rw [hkk] at e; injection e with e; omega))) HD.out.1 HD.out.2.1 HD.out.2.2.1 HD.out.2.2.2 (ownT_block HO2.out hm4) hk
 refine ⟨rfl, _, hfin, fun k hk => ?_, hk.mono (fun k _ hk => ?_)⟩
 ·rcases hk with e | e | ⟨i, hi, e⟩
  ·exact .inl (.inl e)
  ·exact .inl (.inr (.inl e))
  ·by_cases e2 : i = j
   ·subst e2
    simp only [if_true] at e
    rcases hat' with e3 | ⟨b, e3, hb⟩
    ·exact .inl (.inr (.inr ⟨i, hi, by rw [← e3]; exact e⟩))
    ·rw [e] at e3; injection e3 with e3; exact .inr (by omega)
   ·simp only [if_neg e2] at e; exact .inl (.inr (.inr ⟨i, hi, e⟩))
 ·rcases hk with e | e | e
  ·exact .inl e
  ·exact .inr (.inl e)
  ·exact .inr (.inr ⟨j, hj32, e⟩)
theorem wdrop_calls {w : World} {S g mp : Nat} {now : Int} {V : Nat → Value} {ts : List (Int × Int)} (h : WH w S g mp now V ts) {a t : Int} (ht : (a, t) ∈ ts) :
  Calls Tryz.prog 95 #[.pointer (some ⟨g, 0, none⟩), .int .u16 a] w fun e w' => e = .returned (.int .i64 0) ∧
   ∃ V' : Nat → Value, WH w' S g mp now V' (ts.filter fun p => !(p.1 == a)) ∧ (∀ i, (V' i).ownBlock = (V i).ownBlock) ∧ Keep (WF g mp V) w w' := by
 have HK := ax (take_yes h ht)
 clear h ht
 go_enter Tryz.func95, Tryz.ntmps95
 go_wp2_with (go_at_call 60; refine HK.out.mono ?_; rintro e w1 ⟨rfl, h1⟩; have H1 := ax h1; clear h1)
 have hrs : (Tryz.f95).results = #[.tmp 4] := by kernel_rfl
 refine bodyPost_ret (results_tmp hrs _ _ _) rfl ?_
 exact ⟨rfl, H1.out⟩
-- YtajiggmeappfaaaGreatDoorP88
section
attribute [local go_sem] max2_int min2_int max_two min_two max_three min_three max_four min_four
def frame_Head.f (a0 : Int) : Option (Int) := if a0 = 1 then (some 6) else (if a0 = 2 then (some 9) else (some 0))
theorem frame_Head.calls (a0 : Int) (r : Int) (w : World) (h : frame_Head.f a0 = some r) :
  Calls Tryz.prog 72 #[.int .i64 a0] w fun e w' => e = .returned (.int .i64 r) ∧ Drawn0 w w' := by
 have H : (if a0 = 1 then (some 6) else (if a0 = 2 then (some 9) else (some 0))) = some r := h
 clear h
 by_cases c2 : a0 = 1
 ·rw [if_pos c2] at H
  have c2b0 : (a0 == 1) = true := beq_iff_eq.mpr c2
  have c2b1 : (a0 != 1) = false := bne_eq_false_iff_eq.mpr c2
  clear c2
  obtain rfl := Option.some.inj H
  go_enter Tryz.func72, Tryz.ntmps72
  go_wp2
  go_ret
  exact ⟨rs_, dr_⟩
 ·rw [if_neg c2] at H
  have c2b0 : (a0 == 1) = false := beq_eq_false_iff_ne.mpr c2
  have c2b1 : (a0 != 1) = true := bne_iff_ne.mpr c2
  by_cases c3 : a0 = 2
  ·rw [if_pos c3] at H
   have c3b0 : (a0 == 2) = true := beq_iff_eq.mpr c3
   have c3b1 : (a0 != 2) = false := bne_eq_false_iff_eq.mpr c3
   clear c3
   obtain rfl := Option.some.inj H
   go_enter Tryz.func72, Tryz.ntmps72
   go_wp2
   go_ret
   exact ⟨rs_, dr_⟩
  ·rw [if_neg c3] at H
   have c3b0 : (a0 == 2) = false := beq_eq_false_iff_ne.mpr c3
   have c3b1 : (a0 != 2) = true := bne_iff_ne.mpr c3
   obtain rfl := Option.some.inj H
   go_enter Tryz.func72, Tryz.ntmps72
   go_wp2
   go_ret
   exact ⟨rs_, dr_⟩
end
-- YtajiggmeappfaaaGreatDoorP93
section
attribute [local go_sem] max2_int min2_int max_two min_two max_three min_three max_four min_four
def bits_Weight.l0 : Nat → Int → List Int → Int → Int → Option (Int)
 | 0, _, _, _, _ => none
 | k + 1, x3, x6, x7, x8 => if x8 < x7 then (if 0 ≤ x8 then (if x8 < (x6.length : Int) then (if (rd x6 x8) = 0 then (bits_Weight.l0 k x3 x6 x7 (wrap64 (x8 + 1))) else (bits_Weight.l0 k (wrap64 (x3 + 1)) x6 x7 (wrap64 (x8 + 1)))) else (none)) else (none)) else (some x3)
def bits_Weight.f (k : Nat) (l0 : List Int) : Option (Int) := bits_Weight.l0 k 0 l0 (l0.length : Int) 0
theorem bits_Weight.mono_l : ∀ k, (∀ y0 y1 y2 y3, LeO (bits_Weight.l0 k y0 y1 y2 y3) (bits_Weight.l0 (k + 1) y0 y1 y2 y3))
 | 0 => fun _ _ _ _ r h => by simp [bits_Weight.l0] at h
 | k + 1 => by
  have ih0 := bits_Weight.mono_l k
  ·intro y0 y1 y2 y3
   unfold bits_Weight.l0
   repeat' first
   | (with_reducible exact ih0 _ _ _ _)
   | (with_reducible exact LeO.refl _)
   | (with_reducible exact LeO.none _)
   | (with_reducible refine LeO.ite ?_ ?_)
   | (with_reducible refine LeO.bind ?_ (fun _ => ?_))
   | exact ih0 _ _ _ _
   | exact LeO.none _
   | refine LeO.ite ?_ ?_
   | refine LeO.bind ?_ (fun _ => ?_)
theorem bits_Weight.mono : ∀ a0 k, LeO (bits_Weight.f k a0) (bits_Weight.f (k + 1) a0) := by
 intro a0 k
 have ih0 := bits_Weight.mono_l k
 unfold bits_Weight.f
 repeat' first
   | (with_reducible exact ih0 _ _ _ _)
   | (with_reducible exact LeO.refl _)
   | (with_reducible exact LeO.none _)
   | (with_reducible refine LeO.ite ?_ ?_)
   | (with_reducible refine LeO.bind ?_ (fun _ => ?_))
   | exact ih0 _ _ _ _
   | exact LeO.none _
   | refine LeO.ite ?_ ?_
   | refine LeO.bind ?_ (fun _ => ?_)
theorem bits_Weight.calls (k : Nat) (A0 : Option Addr) (c0 : Nat) (l0 : List Int) (r : Int) (w : World) (hr0 : Kd.C (Kd.int .u8) w A0 l0.length l0) (hc0 : l0.length ≤ c0) (h : bits_Weight.f k l0 = some r) :
  Calls Tryz.prog 126 #[.slice A0 l0.length c0] w fun e w' => e = .returned (.int .i64 r) ∧ Drawn0 w w' := by
 have HR0 := ax hr0
 have HC0 := ax hc0
 clear hr0 hc0
 have H : (bits_Weight.l0 k 0 l0 (l0.length : Int) 0) = some r := h
 clear h
 have H' := ax H
 clear H
 go_enter Tryz.func126, Tryz.ntmps126
 go_wp2
 go_loopg [3, 8] k (fun kq v3 v8 w' => ∃ (x3_1 : Int) (x8_1 : Int), v3 = .int .i64 x3_1 ∧ v8 = .int .i64 x8_1 ∧ Aside0 (bits_Weight.l0 kq x3_1 l0 (l0.length : Int) x8_1 = some r) ∧ Aside0 (kq ≤ k) ∧ Drawn0 w w')
 case atStart => exact ⟨(0), (0), rs_, rs_, H', ⟨Nat.le_refl _⟩, dr_⟩
 case round =>
  clear H'
  try clear c1
  obtain ⟨x3_1, x8_1, rfl, rfl, HA, HK1, ⟨m1, rfl⟩⟩ := hrel
  cases gk with
  | zero => exact absurd HA.out (by simp [bits_Weight.l0])
  | succ k1 =>
   have H := HA.out
   clear HA
   simp only [bits_Weight.l0] at H
   by_cases c2 : x8_1 < (l0.length : Int)
   ·rw [if_pos c2] at H
    have c2b0 : decide (x8_1 < (l0.length : Int)) = true := decide_eq_true c2
    clear c2
    by_cases c3 : 0 ≤ x8_1
    ·rw [if_pos c3] at H
     have c3b0 : decide (0 ≤ x8_1) = true := decide_eq_true c3
     clear c3
     by_cases c4 : x8_1 < (l0.length : Int)
     ·rw [if_pos c4] at H
      have c4b0 : decide (x8_1 < (l0.length : Int)) = true := decide_eq_true c4
      clear c4
      by_cases c5 : (rd l0 x8_1) = 0
      ·rw [if_pos c5] at H
       have c5b0 : ((rd l0 x8_1) == 0) = true := beq_iff_eq.mpr c5
       have c5b1 : ((rd l0 x8_1) != 0) = false := bne_eq_false_iff_eq.mpr c5
       clear c5
       have H' := ax H
       clear H
       have p373 : 0 ≤ (x8_1 : Int) := of_decide_eq_true as_
       have q373 : x8_1 < (l0.length : Int) := of_decide_eq_true as_
       obtain ⟨ad373, e373, hx373_0⟩ := Kd.at_int HR0.out x8_1 p373 q373
       cases e373
       replace p373 := eq_true p373
       replace q373 := eq_true q373
       go_wp2
       go_roundg k1
       case measure => have := HK1.out; omega
       case rel => exact ⟨(x3_1), (wrap64 (x8_1 + 1)), rs_, rs_, H', ⟨by have := HK1.out; omega⟩, dr_⟩
      ·rw [if_neg c5] at H
       have c5b0 : ((rd l0 x8_1) == 0) = false := beq_eq_false_iff_ne.mpr c5
       have c5b1 : ((rd l0 x8_1) != 0) = true := bne_iff_ne.mpr c5
       have H' := ax H
       clear H
       have p373 : 0 ≤ (x8_1 : Int) := of_decide_eq_true as_
       have q373 : x8_1 < (l0.length : Int) := of_decide_eq_true as_
       obtain ⟨ad373, e373, hx373_0⟩ := Kd.at_int HR0.out x8_1 p373 q373
       cases e373
       replace p373 := eq_true p373
       replace q373 := eq_true q373
       go_wp2
       go_roundg k1
       case measure => have := HK1.out; omega
       case rel => exact ⟨(wrap64 (x3_1 + 1)), (wrap64 (x8_1 + 1)), rs_, rs_, H', ⟨by have := HK1.out; omega⟩, dr_⟩
     ·rw [if_neg c4] at H
      exact absurd H (by simp)
    ·rw [if_neg c3] at H
     exact absurd H (by simp)
   ·rw [if_neg c2] at H
    have c2b0 : decide (x8_1 < (l0.length : Int)) = false := decide_eq_false c2
    clear c2
    obtain rfl := Option.some.inj H
    go_wp2
    go_ret
    exact ⟨rs_, dr_⟩
end
-- YtajiggmeappfaaaGreatDoorPKRead
theorem Fg.below_far {gr g : Nat} {w w' : World} {o : Obj} (h : Fg gr w w') (hg : w.heap[g]? = some o) (hne : g ≠ gr) : w'.heap[g]? = some o := (h.at g (blk_lt hg) hne).trans hg
theorem Fg.lower {gr : Nat} {w w1 w2 : World} (h : Below w.heap.size w w1) (k : Fg gr w1 w2) : Fg gr w w2 := Fg.trans (Fg.of_below h) k
theorem Fg.put {gr a : Nat} {w w1 w2 : World} (h : Fg gr w w1) (p : Put1 a w1 w2) (ha : w.heap.size ≤ a) : Fg gr w w2 :=
 ⟨p.os.trans h.os, p.tape.trans h.tape, p.output.trans h.output, Nat.le_trans h.size (Nat.le_of_eq p.size.symm), fun k hk hg hv => (p.block k (by omega)).trans (h.block k hk hg hv)⟩
theorem PP.put {w w' : World} {lo gr g a : Nat} {v : Value} {xs : List Int} (h : PP w lo gr g v xs) (p : Put1 a w w') (ha : g < a) : PP w' lo gr g v xs :=
 ⟨(p.block g (by omega)).trans h.box, h.rd.kept (fun k _ hk => p.block k (by have := h.lt; omega)) h.low, h.low, h.lt⟩
theorem Fg.to_below {gr n₀ : Nat} {w w' : World} (h : Fg gr w w') (hn : n₀ ≤ gr) (hs : n₀ ≤ w.heap.size) : Below n₀ w w' :=
 ⟨h.os, h.tape, h.output, h.size, fun k hk => h.at k (by omega) (by omega)⟩
def f0 (kind q v n : Int) : Array Value := #[.int .i64 kind, .int .u16 q, .int .i64 v, .int .i64 n, .slice none 0 0, .int .u16 0, .int .u32 0]
theorem f0_one (k q v n : Int) : (f0 k q v n).all (·.oneCell') = true := by simp [f0, Value.oneCell']
theorem pdata_read {w : World} {lo gr g : Nat} {v0 : Value} {xs : List Int} (h : PP w lo gr g v0 xs) (q : Int) (v n r : Nat) (hq : 0 ≤ q ∧ q ≤ 65535) (hv : v < 4) (hn : n ≤ 64) (hr : r = (nb n + 7) / 8) (h1 : tkE xs 2 = 0 ∧ tkN xs 2 = v) (h2 : tkE (tkL xs 2) 2 = 0 ∧ tkN (tkL xs 2) 2 = 0)
  (h3 : tkE (tkL (tkL xs 2) 2) 8 = 0 ∧ tkN (tkL (tkL xs 2) 2) 8 = n) (h4 : tkE (tkL (tkL (tkL xs 2) 2) 8) 16 = 0 ∧ tkN (tkL (tkL (tkL xs 2) 2) 8) 16 = q) :
  Calls Tryz.prog 76 #[.pointer (some ⟨g, 0, none⟩), .int .i64 (r : Int)] w fun e w' => e = .returned (.agg (f0 1 q v n)) ∧ (∃ v' xs', PP w' lo gr g v' xs') ∧ Fg gr w w' := by
 have HH := ax h
 have H1 := ax h1
 have H2 := ax h2
 have H3 := ax h3
 have H4 := ax h4
 have HR := ax hr
 have hxc : IntKind.u16.wrap q = q := by rw [IntKind.wrap_u16]; omega
 have HWI := ax (fun w => frame_within.calls (n : Int) _ w (within_f n hn))
 have HBT := ax (fun w => frame_Bits.calls (n : Int) _ w (fbits_f n hn))
 have hmb : ((nb n : Nat) : Int) ≤ 1000 := by unfold nb; omega
 have hm0 : (0 : Int) ≤ ((nb n : Nat) : Int) := by omega
 have hyt : Int.tdiv (((nb n : Nat) : Int) + 8 - 1) 8 = (r : Int) := by rw [Int.tdiv_eq_ediv_of_nonneg (by omega)]; omega
 have hye : (((nb n : Nat) : Int) + 8 - 1) / 8 = (r : Int) := by omega
 obtain ⟨m, hm⟩ : ∃ m : Int, m = ((nb n : Nat) : Int) := ⟨_, rfl⟩
 rw [← hm] at HBT hmb hm0 hyt hye
 clear h h1 h2 h3 h4 hq hv hn hr hm
 go_enter Tryz.func76, Tryz.ntmps76
 go_wp2_with (first
  | (go_at_call 71; refine Aside0.out ?_)
  | fail)
 refine ax ?_
 have hba := below_alloc (Below.refl w.heap.size w) (.cells (f0 0 0 0 0) 47)
 have hbb := blk_new w (.cells (f0 0 0 0 0) 47)
 obtain ⟨a4, ha4⟩ : ∃ a4, a4 = w.heap.size := ⟨_, rfl⟩
 have HW := ax (show w.heap.size ≤ a4 by rw [ha4]; exact Nat.le_refl _)
 have HG := ax (show gr < g ∧ g < a4 from ⟨HH.out.lt, by rw [ha4]; exact HH.out.size⟩)
 rw [← ha4] at hbb ⊢
 refine (ptake_calls (HH.out.below hba) _ 2 H1.out.1).mono ?_
 rintro e w1 ⟨rfl, ⟨v1, hp⟩, hf⟩
 have HP1 := ax hp
 have HF1 := ax (Fg.lower hba hf)
 have HA1 := ax (hf.below_far hbb (by have := HG.out; omega))
 rw [H1.out.2]
 clear hba hbb ha4 hp hf
 go_wp2_with (first
  | (go_at_call 71; refine Aside0.out ?_)
  | fail)
 refine ax ?_
 have hba := below_alloc (Below.refl w1.heap.size w1) (.cells (f0 1 0 v 0) 47)
 have hbb := blk_new w1 (.cells (f0 1 0 v 0) 47)
 obtain ⟨w2, hw2⟩ : ∃ w2, w2 = w1.alloc (.cells (f0 1 0 v 0) 47) := ⟨_, rfl⟩
 obtain ⟨a5, ha5⟩ : ∃ a5, a5 = w1.heap.size := ⟨_, rfl⟩
 have HL := ax (show a4 < a5 by rw [ha5]; exact blk_lt HA1.out)
 rw [← hw2] at hba hbb
 rw [← ha5] at hbb
 have HP2 := ax (HP1.out.below hba)
 have HF2 := ax (Fg.trans HF1.out (Fg.of_below hba))
 have HA2 := ax ((hba.block a4 (blk_lt HA1.out)).trans HA1.out)
 have HC2 := ax hbb
 show Calls _ _ _ (w1.alloc (.cells (f0 1 0 v 0) 47)) _
 rw [← hw2, ← ha5]
 clear hba hbb hw2 ha5 HP1 HF1 HA1
 refine (ptake_calls HP2.out _ 2 H2.out.1).mono ?_
 rintro e w3 ⟨rfl, ⟨v3, hp⟩, hf⟩
 have HP3 := ax hp
 have HF3 := ax (Fg.trans HF2.out hf)
 have HA3 := ax (hf.below_far HA2.out (by have := HG.out; omega))
 have HC3 := ax (hf.below_far HC2.out (by have := HG.out; have := HL.out; omega))
 rw [H2.out.2]
 clear hp hf HP2 HF2 HA2 HC2
 go_wp2_with (first
  | (go_at_call 73; refine Aside0.out ?_)
  | fail)
 refine ax ?_
 refine (pneed_calls HP3.out _ _).mono ?_
 rintro e w4 ⟨rfl, hb⟩
 have HP4 := ax (HP3.out.below hb)
 have HF4 := ax (Fg.trans HF3.out (Fg.of_below hb))
 have HA4 := ax ((hb.block a4 (blk_lt HA3.out)).trans HA3.out)
 have HC4 := ax ((hb.block a5 (blk_lt HC3.out)).trans HC3.out)
 clear hb HP3 HF3 HA3 HC3
 go_wp2_with (first
  | (go_at_call 71; refine Aside0.out ?_)
  | fail)
 refine ax ?_
 refine (ptake_calls HP4.out _ 8 H3.out.1).mono ?_
 rintro e w5 ⟨rfl, ⟨v5, hp⟩, hf⟩
 have HP5 := ax hp
 have HF5 := ax (Fg.trans HF4.out hf)
 have HA5 := ax (hf.below_far HA4.out (by have := HG.out; omega))
 have HC5 := ax (hf.below_far HC4.out (by have := HG.out; have := HL.out; omega))
 rw [H3.out.2]
 clear hp hf HP4 HF4 HA4 HC4
 have hfz := blk_frozen HC5.out 3
 have hfc : w5.cell? ⟨a5, 3, none⟩ = some (.int .i64 0) := blk_cell HC5.out 3
 go_wp2_with (first
  | ((with_reducible refine gate_ (.load 3 (.tmp 19)) rfl ?_); refine Aside0.out ?_)
  | fail)
 refine ax ?_
 have hpt := Put1.set a5 3 w5 (.int .i64 n)
 have HC6 := ax (show (w5.setCell ⟨a5, 3, none⟩ (.int .i64 n)).heap[a5]? = some (.cells (f0 1 0 v n) 47 (0, 0)) from blk_put HC5.out 3 _ rfl)
 have HA6 := ax ((hpt.block a4 (by have := HL.out; omega)).trans HA5.out)
 have HP6 := ax (HP5.out.put hpt (by have := HG.out; have := HL.out; omega))
 have HF6 := ax (HF5.out.put hpt (by have := HL.out; have := HW.out; omega))
 obtain ⟨w6, hw6⟩ : ∃ w6, w6 = w5.setCell ⟨a5, 3, none⟩ (.int .i64 n) := ⟨_, rfl⟩
 rw [← hw6] at HC6 HA6 HP6 HF6 ⊢
 clear hpt hw6 hfz hfc HP5 HF5 HA5 HC5
 have hc3 : w6.cell? ⟨a5, 3, none⟩ = some (.int .i64 n) := blk_cell HC6.out 3
 go_wp2_with (first
  | (go_at_call 125; refine Aside0.out ?_)
  | fail)
 refine ax ?_
 refine (HWI.out w6).mono ?_
 rintro e w7 ⟨rfl, hd⟩
 have HP7 := ax (HP6.out.below hd.below)
 have HF7 := ax (Fg.trans HF6.out (Fg.of_below hd.below))
 have HA7 := ax ((hd.below.block a4 (blk_lt HA6.out)).trans HA6.out)
 have HC7 := ax ((hd.below.block a5 (blk_lt HC6.out)).trans HC6.out)
 clear hc3 hd HWI HP6 HF6 HA6 HC6
 go_wp2_with (first
  | (go_at_call 73; refine Aside0.out ?_)
  | fail)
 refine ax ?_
 refine (pneed_calls HP7.out _ _).mono ?_
 rintro e w8 ⟨rfl, hb⟩
 have HP8 := ax (HP7.out.below hb)
 have HF8 := ax (Fg.trans HF7.out (Fg.of_below hb))
 have HA8 := ax ((hb.block a4 (blk_lt HA7.out)).trans HA7.out)
 have HC8 := ax ((hb.block a5 (blk_lt HC7.out)).trans HC7.out)
 clear hb HP7 HF7 HA7 HC7
 go_wp2_with (first
  | (go_at_call 71; refine Aside0.out ?_)
  | fail)
 refine ax ?_
 refine (ptake_calls HP8.out _ 16 H4.out.1).mono ?_
 rintro e w9 ⟨rfl, ⟨v9, hp⟩, hf⟩
 have HP9 := ax hp
 have HF9 := ax (Fg.trans HF8.out hf)
 have HA9 := ax (hf.below_far HA8.out (by have := HG.out; omega))
 have HC9 := ax (hf.below_far HC8.out (by have := HG.out; have := HL.out; omega))
 rw [H4.out.2]
 clear hp hf HP8 HF8 HA8 HC8
 have hfz := blk_frozen HC9.out 1
 have hfc : w9.cell? ⟨a5, 1, none⟩ = some (.int .u16 0) := blk_cell HC9.out 1
 go_wp2_with (first
  | ((with_reducible refine gate_ (.load 3 (.tmp 27)) rfl ?_); refine Aside0.out ?_)
  | fail)
 refine ax ?_
 have hpt := Put1.set a5 1 w9 (.int .u16 q)
 have HC10 := ax (show (w9.setCell ⟨a5, 1, none⟩ (.int .u16 q)).heap[a5]? = some (.cells (f0 1 q v n) 47 (0, 0)) from blk_put HC9.out 1 _ rfl)
 have HA10 := ax ((hpt.block a4 (by have := HL.out; omega)).trans HA9.out)
 have HP10 := ax (HP9.out.put hpt (by have := HG.out; have := HL.out; omega))
 have HF10 := ax (HF9.out.put hpt (by have := HL.out; have := HW.out; omega))
 obtain ⟨w10, hw10⟩ : ∃ w10, w10 = w9.setCell ⟨a5, 1, none⟩ (.int .u16 q) := ⟨_, rfl⟩
 rw [← hw10] at HC10 HA10 HP10 HF10 ⊢
 clear hpt hw10 hfz hfc HP9 HF9 HA9 HC9
 have hc3 : w10.cell? ⟨a5, 3, none⟩ = some (.int .i64 n) := blk_cell HC10.out 3
 go_wp2_with (first
  | (go_at_call 78; refine Aside0.out ?_)
  | fail)
 refine ax ?_
 refine (HBT.out w10).mono ?_
 rintro e w11 ⟨rfl, hd⟩
 have HP11 := ax (HP10.out.below hd.below)
 have HF11 := ax (Fg.trans HF10.out (Fg.of_below hd.below))
 have HA11 := ax ((hd.below.block a4 (blk_lt HA10.out)).trans HA10.out)
 have HC11 := ax ((hd.below.block a5 (blk_lt HC10.out)).trans HC10.out)
 clear hc3 hd HBT HP10 HF10 HA10 HC10
 go_wp2_with (first
  | (go_at_call 73; refine Aside0.out ?_)
  | fail)
 refine ax ?_
 refine (pneed_calls HP11.out _ _).mono ?_
 rintro e w12 ⟨rfl, hb⟩
 have HP12 := ax (HP11.out.below hb)
 have HF12 := ax (Fg.trans HF11.out (Fg.of_below hb))
 have HA12 := ax ((hb.block a4 (blk_lt HA11.out)).trans HA11.out)
 have HC12 := ax ((hb.block a5 (blk_lt HC11.out)).trans HC11.out)
 clear hb HP11 HF11 HA11 HC11
 go_wp2_with (first
  | (go_at_call 73; refine Aside0.out ?_)
  | fail)
 refine ax ?_
 refine (pneed_calls HP12.out _ _).mono ?_
 rintro e w13 ⟨rfl, hb⟩
 have HP13 := ax (HP12.out.below hb)
 have HF13 := ax (Fg.trans HF12.out (Fg.of_below hb))
 have HA13 := ax ((hb.block a4 (blk_lt HA12.out)).trans HA12.out)
 have HC13 := ax ((hb.block a5 (blk_lt HC12.out)).trans HC12.out)
 clear hb HP12 HF12 HA12 HC12
 have huF := Tryz.underlying47
 go_wp2_with (first
  | (refine wpList_load_row rfl 47 (.tmp 5) rfl a5 rfl 47 (f0 1 q v n) (0, 0) _ HC13.out huF rfl fr_size ?_)
  | (refine wpList_store_row rfl 47 (.tmp 4) (.tmp 43) rfl a4 (f0 1 q v n) rfl rfl 47 _ HA13.out fr_size rfl (f0_one 1 q v n) ?_)
  | fail)
 refine bodyPost_ret (results_cell_row rfl _ _ a4 47 (f0 1 q v n) (0, 0) _ rfl (setRow_heap _ _ _ _ _ _ HA13.out) huF rfl fr_size) rfl ?_
 have hpr := Put1.row a4 w13 (f0 1 q v n)
 exact ⟨rfl, ⟨_, _, HP13.out.put hpr HG.out.2⟩, HF13.out.put hpr HW.out⟩
theorem weight_two : bits_Weight.f 3 [0, 0] = some 0 := by decide +kernel
theorem cut3 (A : Option Addr) (L c m : Nat) (hm : m ≤ c) : ∀ W : World, (Instr.slice 37 (.slice A L c) none (some (.int .i64 (m : Int))) (some (.int .i64 (m : Int)))).run Tryz.prog W = .ok (.slice A m m) W := by
 intro W
 have hu : Tryz.prog.underlying 37 = some (.slice (Tryz.prog.elem 37)) := by kernel_rfl
 obtain ⟨i0, hi0, _, hsz, _⟩ := info_parts u8_info
 have hel : Tryz.prog.elem 37 = 5 := by kernel_rfl
 have ha : (A.map fun x => x.add 0) = A := by cases A <;> simp [Addr.add]
 have h0 : (0 : Int) ≤ (m : Int) := by omega
 have h1 : (m : Int) ≤ (c : Int) := by omega
 simp [Instr.slice, run_underlying hu, Instr.sliceBounds, run_sliceBound, sizeOf, typeInfo, hel, hi0, hsz, sliced, Result.andThen, ha, h0, h1, hm]
theorem pbody_read {w : World} {lo gr g : Nat} {v0 : Value} {xs : List Int} (h : PP w lo gr g v0 xs) {A : Option Addr} {c : Nat} {B P : List Int} (hB : Kd.C (Kd.int .u8) w A B.length B) (hc : B.length ≤ c) (k : Nat) (hof : bits_Of.f k B = some (P ++ [0, 0])) (m : Nat) (hm : P.length = m) (hm1 : m ≤ 1000) :
  Calls Tryz.prog 77 #[.pointer (some ⟨g, 0, none⟩), .slice A B.length c, .int .i64 (m : Int)] w fun e w' => ∃ A', e = .returned (.slice A' m m) ∧ Kd.C (Kd.int .u8) w' A' P.length P ∧ (∀ d, A' = some d → w.heap.size ≤ d.block ∧ d.block < w'.heap.size) ∧ Below w.heap.size w w' := by
 have HH := ax h
 have HOC := ax (bits_Of.calls k A c B _ w hB hc hof)
 have HM := ax (And.intro hm hm1)
 have hc1 := blk_cell h.box 1
 clear h hB hc hof hm hm1
 obtain ⟨b, hb⟩ : ∃ b, b = B.length := ⟨_, rfl⟩
 rw [← hb] at HOC ⊢
 clear hb
 go_enter Tryz.func77, Tryz.ntmps77
 go_wp2_with (first
  | (go_at_call 57; refine Aside0.out ?_)
  | fail)
 refine ax ?_
 refine HOC.out.mono ?_
 rintro e w1 ⟨v7, rfl, hv, hb⟩
 obtain ⟨A7, c7, rfl⟩ := Kd.R_slice hv
 have hX : (P ++ [0, 0]).length = m + 2 := by rw [List.length_append, HM.out.1]; rfl
 have hrd := Kd.R_reads' hv
 obtain ⟨i0, hi0, hz0, hz1, hz2⟩ := info_parts u8_info
 have ht := (print_take_of (P := Tryz.prog) (Value.int .u8) 0 37 5 .i64 Tryz.underlying37 hi0 hz1 A7 c7 (P ++ [0, 0]) (m : Int) (by omega) (by omega) hrd.2.1).2.1 w1 (Kd.reads_of_C hrd.2.2)
 obtain ⟨A', hcut0, hA2, hC2⟩ := print_drop_of (P := Tryz.prog) (Value.int .u8) 0 37 5 .i64 Tryz.underlying37 hi0 hz1 A7 c7 (P ++ [0, 0]) (m : Int) (by omega) (by omega) hrd.2.1
 have hA2 := hA2 w1 (Kd.reads_of_C hrd.2.2)
 have hcut3 := cut3 A7 (m + 2) c7 m (by omega)
 have e1 : (P ++ [0, 0]).take m = P := by rw [← HM.out.1, List.take_left]
 have e2 : (P ++ [0, 0]).drop m = [0, 0] := by rw [← HM.out.1, List.drop_left]
 simp only [Int.toNat_natCast] at ht hcut0 hA2 hC2
 rw [e1] at ht
 rw [e2] at hA2 hC2 hcut0
 rw [hX] at hcut0 ⊢
 have hcut : ∀ W : World, (Instr.slice 37 (.slice A7 (m + 2) c7) (some (.int .i64 (m : Int))) none none).run Tryz.prog W = .ok (.slice A' 2 (c7 - m)) W := hcut0
 have HWT := ax (bits_Weight.calls 3 A' (c7 - m) [0, 0] 0 w1 (Kd.C_of_reads hA2) hC2 weight_two)
 have HPC := ax (Kd.C_of_reads (h1 := fun _ => rfl) ht)
 have HBD := ax (show ∀ d, A7 = some d → w.heap.size ≤ d.block ∧ d.block < w1.heap.size from by
  obtain ⟨g7, c7', he, h1, h2, _⟩ := Kd.R_form hv (by omega)
  cases he
  intro d hd; cases hd; exact ⟨h1, h2⟩)
 have HB1 := ax hb
 have HP1 := ax (HH.out.below hb)
 clear hv hb hX hrd ht hcut0 hA2 hC2 e1 e2 HOC HH hc1 hz0 hz1 hz2 hi0
 go_wp2_with (first
  | (go_at_call 126; refine Aside0.out ?_)
  | fail)
 refine ax ?_
 refine HWT.out.mono ?_
 rintro e w2 ⟨rfl, hd⟩
 have HP2 := ax (HP1.out.below hd.below)
 have HPC2 := ax (Kd.C_below HPC.out hd.below)
 have HB2 := ax (below_step HB1.out hd.below)
 have HS2 := ax hd.below.size
 clear hd HWT HP1 HPC HB1
 go_wp2_with (first
  | (go_at_call 73; refine Aside0.out ?_)
  | fail)
 refine ax ?_
 refine (pneed_calls HP2.out _ _).mono ?_
 rintro e w3 ⟨rfl, hb⟩
 have HPC3 := ax (Kd.C_below HPC2.out hb)
 have HB3 := ax (below_step HB2.out hb)
 have HS3 := ax (Nat.le_trans HS2.out hb.size)
 clear hb HP2 HPC2 HB2
 go_wp2_with fail
 have hrs : (Tryz.f77).results = #[.tmp 6] := by kernel_rfl
 refine bodyPost_ret (results_tmp hrs _ _ _) rfl ?_
 exact ⟨A7, rfl, HPC3.out, fun d hd => by have := HBD.out d hd; have := HS3.out; omega, HB3.out⟩
-- YtajiggmeappfaaaGreatDoorPKParse
structure DF (k : Nat) (q : Int) (v n : Nat) (l xs P : List Int) : Prop where
 of : bits_Of.f k l = some xs
 right : crc16_Right.f k (l.take 6) = some true
 body : bits_Of.f k (l.drop 6) = some (P ++ [0, 0])
 len : P.length = nb n
 all : l.length = 6 + (nb n + 7) / 8
 q0 : 0 ≤ q ∧ q ≤ 65535
 v4 : v < 4
 n64 : n ≤ 64
 t0 : tkE xs 4 = 0 ∧ tkN xs 4 = 1
 t1 : tkE (tkL xs 4) 2 = 0 ∧ tkN (tkL xs 4) 2 = v
 t2 : tkE (tkL (tkL xs 4) 2) 2 = 0 ∧ tkN (tkL (tkL xs 4) 2) 2 = 0
 t3 : tkE (tkL (tkL (tkL xs 4) 2) 2) 8 = 0 ∧ tkN (tkL (tkL (tkL xs 4) 2) 2) 8 = n
 t4 : tkE (tkL (tkL (tkL (tkL xs 4) 2) 2) 8) 16 = 0 ∧ tkN (tkL (tkL (tkL (tkL xs 4) 2) 2) 8) 16 = q
def kparse16.T : Bool × List (List Nat × List Nat) := (true, [([], []), ([], []), ([], []), ([1, 2], [1, 2]), ([], []), ([4], [4]), ([5], [5]), ([0, 3, 6, 6], [0, 3, 6]), ([0, 1, 2, 3, 4, 5, 6, 7], []), ([8, 7, 7, 0, 1, 2, 3, 4, 5, 6, 7], [7, 8])])
def kparse16.B : List Nat := [0, 0, 0, 6, 0, 16, 48, 127, 255, 511]
theorem kparse16.tab : rtab .any (opsOf Tryz.f35 16) = kparse16.T := by kernel_rfl
theorem kparse16.bits : waitsOk kparse16.T.2 kparse16.B = true := by kernel_rfl
def kread2.T : Bool × List (List Nat × List Nat) := (true, [([], []), ([], []), ([1], [1]), ([0, 2, 0], [0]), ([2, 3, 0, 1, 2, 3], [2])])
def kread2.B : List Nat := [0, 0, 2, 7, 15]
theorem kread2.tab : rtab .any (opsOf Tryz.f12 2) = kread2.T := by kernel_rfl
theorem kread2.bits : waitsOk kread2.T.2 kread2.B = true := by kernel_rfl
theorem parsed_calls {w : World} {A : Option Addr} {c : Nat} {l xs P : List Int} (hr : Kd.C (Kd.int .u8) w A l.length l) (hc : l.length ≤ c) {k : Nat} {q : Int} {v n : Nat} (hd : DF k q v n l xs P) :
  Calls Tryz.prog 35 #[.slice A l.length c] w fun e w' => ∃ A', e = .returned (.tuple #[.agg (fr 1 q v n (.slice A' (nb n) (nb n))), .nilIface]) ∧ Kd.C (Kd.int .u8) w' A' P.length P ∧ (∀ d, A' = some d → w.heap.size ≤ d.block ∧ d.block < w'.heap.size) ∧ Below w.heap.size w w' := by
 have HR := ax hr
 have HC := ax hc
 have HD := ax hd
 obtain ⟨r, hrd⟩ : ∃ r, r = (nb n + 7) / 8 := ⟨_, rfl⟩
 obtain ⟨m, hm⟩ : ∃ m, m = nb n := ⟨_, rfl⟩
 obtain ⟨L, hL⟩ : ∃ L, L = l.length := ⟨_, rfl⟩
 have HM := ax (show m = nb n ∧ L = l.length ∧ r = (nb n + 7) / 8 ∧ L = 6 + r ∧ r ≤ 100 ∧ m ≤ 1000 from ⟨hm, hL, hrd, by rw [hL, hrd]; exact hd.all, by have := hd.n64; rw [hrd]; unfold nb; omega, by have := hd.n64; rw [hm]; unfold nb; omega⟩)
 have hL6 : (6 : Int) ≤ (L : Int) := by have := HM.out; omega
 have hLb : (L : Int) ≤ 200 := by have := HM.out; omega
 have hrb : (r : Int) ≤ 100 := by have := HM.out; omega
 have hL7 : (L : Int) - 6 = (r : Int) := by have := HM.out; omega
 rw [← hL, ← hm]
 clear hr hc hd hrd hm hL
 go_enter Tryz.func35, Tryz.ntmps35
 go_wp2_with (first
  | (go_at_call 70; refine Aside0.out ?_)
  | fail)
 refine ax ?_
 have hba := below_alloc (Below.refl w.heap.size w) (.cells (f0 0 0 0 0) 47)
 have hbb := blk_new w (.cells (f0 0 0 0 0) 47)
 obtain ⟨w1, hw1⟩ : ∃ w1, w1 = w.alloc (.cells (f0 0 0 0 0) 47) := ⟨_, rfl⟩
 obtain ⟨a2, ha2⟩ : ∃ a2, a2 = w.heap.size := ⟨_, rfl⟩
 have HA0 := ax (show w.heap.size ≤ a2 by rw [ha2]; exact Nat.le_refl _)
 rw [← hw1] at hba hbb
 rw [← ha2] at hbb
 show Calls _ _ _ (w.alloc (.cells (f0 0 0 0 0) 47)) _
 rw [← hw1, ← ha2]
 have hof := bitioOf_calls A c l w1 (Kd.C_below HR.out hba) HC.out k xs HD.out.of
 rw [← HM.out.2.1] at hof
 refine hof.mono ?_
 rintro e w2 ⟨gr, v2, rfl, hgr, hrs, hb⟩
 have HRS := ax hrs
 have HB2 := ax (below_step hba hb)
 have HA2 := ax ((hb.block a2 (blk_lt hbb)).trans hbb)
 have HGR := ax (show w1.heap.size ≤ gr ∧ a2 < gr ∧ w.heap.size ≤ gr from ⟨hgr, by have := blk_lt hbb; omega, by have := hba.size; omega⟩)
 clear hba hbb hw1 ha2 hof hrs hgr hb
 go_wp2_with (first
  | (go_at_call 71; refine Aside0.out ?_)
  | fail)
 refine ax ?_
 have hba := below_alloc (Below.refl w2.heap.size w2) (.cells #[.pointer (some ⟨gr, 0, none⟩), .nilIface] 162)
 have hbb := blk_new w2 (.cells #[.pointer (some ⟨gr, 0, none⟩), .nilIface] 162)
 obtain ⟨w3, hw3⟩ : ∃ w3, w3 = w2.alloc (.cells #[.pointer (some ⟨gr, 0, none⟩), .nilIface] 162) := ⟨_, rfl⟩
 obtain ⟨g, hg⟩ : ∃ g, g = w2.heap.size := ⟨_, rfl⟩
 rw [← hw3] at hba hbb
 rw [← hg] at hbb
 rw [← hw3, ← hg]
 have hpp : PP w3 w1.heap.size gr g v2 xs := ⟨hbb, HRS.out.below hba HGR.out.1, HGR.out.1, by rw [hg]; exact HRS.out.lt⟩
 have HB3 := ax (below_step HB2.out hba)
 have HA3 := ax ((hba.block a2 (blk_lt HA2.out)).trans HA2.out)
 clear hba hbb hw3 hg HRS HB2 HA2
 refine (ptake_calls hpp _ 4 HD.out.t0.1).mono ?_
 rintro e w4 ⟨rfl, ⟨v4, hp⟩, hf⟩
 have HP4 := ax hp
 have HB4 := ax (HB3.out.trans (hf.to_below HGR.out.2.2 HB3.out.size))
 have HA4 := ax (hf.below_far HA3.out (by have := HGR.out; omega))
 rw [HD.out.t0.2]
 clear hp hf hpp HB3 HA3
 have HHD := ax (frame_Head.calls 1 6 w4 rfl)
 go_wp2_with (first
  | (go_at_call 72; refine Aside0.out ?_)
  | fail)
 refine ax ?_
 refine HHD.out.mono ?_
 rintro e w5 ⟨rfl, hd⟩
 have HP5 := ax (HP4.out.below hd.below)
 have HB5 := ax (below_step HB4.out hd.below)
 have HA5 := ax ((hd.below.block a2 (blk_lt HA4.out)).trans HA4.out)
 clear hd HP4 HB4 HA4 HHD
 go_wp2_with (first
  | (go_at_call 73; refine Aside0.out ?_)
  | fail)
 refine ax ?_
 refine (pneed_calls HP5.out _ _).mono ?_
 rintro e w6 ⟨rfl, hb⟩
 have HP6 := ax (HP5.out.below hb)
 have HB6 := ax (below_step HB5.out hb)
 have HA6 := ax ((hb.block a2 (blk_lt HA5.out)).trans HA5.out)
 clear hb HP5 HB5 HA5
 go_wp2_with (first
  | (go_at_call 73; refine Aside0.out ?_)
  | fail)
 refine ax ?_
 refine (pneed_calls HP6.out _ _).mono ?_
 rintro e w7 ⟨rfl, hb⟩
 have HP7 := ax (HP6.out.below hb)
 have HB7 := ax (below_step HB6.out hb)
 have HA7 := ax ((hb.block a2 (blk_lt HA6.out)).trans HA6.out)
 clear hb HP6 HB6 HA6
 have hc0 := blk_cell HP7.out.box 0
 have hc1 := blk_cell HP7.out.box 1
 obtain ⟨i0, hi0, hz0, hz1, hz2⟩ := info_parts u8_info
 have hA6 := (print_take_of (P := Tryz.prog) (Value.int .u8) 0 37 5 .i64 Tryz.underlying37 hi0 hz1 A c l 6 (by decide) (by have := HM.out; omega) HC.out).2
 have hcut : ∀ W : World, (Instr.slice 37 (.slice A L c) none (some (.int .i64 6)) none).run Tryz.prog W = .ok (.slice A 6 c) W :=
  cut_to (P := Tryz.prog) 37 5 .i64 Tryz.underlying37 hi0 A L c 6 (by decide) (by have := HM.out; omega) (by have := HC.out; have := HM.out; omega)
 have e6 : ((6 : Int).toNat) = 6 := rfl
 rw [e6] at hA6
 have l6 : (l.take 6).length = 6 := by rw [List.length_take]; have := HM.out; omega
 have hrt := crc16_Right.calls k A c (l.take 6) true w7 (Kd.C_of_reads (hA6.1 w7 (Kd.reads_of_C (Kd.C_below HR.out HB7.out)))) hA6.2 HD.out.right
 rw [l6] at hrt
 have HRT := ax hrt
 clear hrt hA6 hi0 hz0 hz1 hz2 e6 l6
 go_wp2_with (first
  | (go_at_call 74; refine Aside0.out ?_)
  | fail)
 refine ax ?_
 refine HRT.out.mono ?_
 rintro e w8 ⟨rfl, hd⟩
 have HP8 := ax (HP7.out.below hd.below)
 have HB8 := ax (below_step HB7.out hd.below)
 have HA8 := ax ((hd.below.block a2 (blk_lt HA7.out)).trans HA7.out)
 clear hd HP7 HB7 HA7 HRT hc0 hc1 hcut
 go_wp2_with (first
  | (go_at_call 73; refine Aside0.out ?_)
  | fail)
 refine ax ?_
 refine (pneed_calls HP8.out _ _).mono ?_
 rintro e w9 ⟨rfl, hb⟩
 have HP9 := ax (HP8.out.below hb)
 have HB9 := ax (below_step HB8.out hb)
 have HA9 := ax ((hb.block a2 (blk_lt HA8.out)).trans HA8.out)
 clear hb HP8 HB8 HA8
 have hc0 := blk_cell HP9.out.box 0
 have hc1 := blk_cell HP9.out.box 1
 go_wp2_with (first
  | (go_at_call 76; refine Aside0.out ?_)
  | fail)
 refine ax ?_
 have hba := below_alloc (Below.refl w9.heap.size w9) (.cells (f0 0 0 0 0) 47)
 have hbb := blk_new w9 (.cells (f0 0 0 0 0) 47)
 obtain ⟨w10, hw10⟩ : ∃ w10, w10 = w9.alloc (.cells (f0 0 0 0 0) 47) := ⟨_, rfl⟩
 obtain ⟨a7, ha7⟩ : ∃ a7, a7 = w9.heap.size := ⟨_, rfl⟩
 have HG := ax (show g < a7 ∧ a2 < a7 ∧ w.heap.size ≤ a7 from ⟨by rw [ha7]; exact HP9.out.size, by rw [ha7]; exact blk_lt HA9.out, by rw [ha7]; exact HB9.out.size⟩)
 rw [← hw10] at hba hbb
 rw [← ha7] at hbb
 show Calls _ _ _ (w9.alloc (.cells (f0 0 0 0 0) 47)) _
 rw [← hw10, ← ha7]
 have hpp := HP9.out.below hba
 have HB10 := ax (below_step HB9.out hba)
 have HA10 := ax ((hba.block a2 (blk_lt HA9.out)).trans HA9.out)
 refine (pdata_read hpp q v n r HD.out.q0 HD.out.v4 HD.out.n64 HM.out.2.2.1 HD.out.t1 HD.out.t2 HD.out.t3 HD.out.t4).mono ?_
 rintro e w11 ⟨rfl, ⟨v11, xs11, hp⟩, hf⟩
 have HP11 := ax hp
 have HB11 := ax (HB10.out.trans (hf.to_below HGR.out.2.2 HB10.out.size))
 have HA11 := ax (hf.below_far HA10.out (by have := HGR.out; omega))
 have HC11 := ax (hf.below_far hbb (by have := HG.out; have := HP9.out.lt; omega))
 clear hba hbb hw10 ha7 hpp hp hf HP9 HB9 HA9 HB10 HA10 hc0 hc1
 have hu := Tryz.underlying47
 go_wp2_with (first
  | (refine wpList_store_row rfl 47 (.tmp 7) (.tmp 63) rfl a7 (f0 1 q v n) rfl rfl 47 _ HC11.out fr_size rfl (f0_one 1 q v n) ?_; refine Aside0.out ?_)
  | fail)
 refine ax ?_
 have hpr := Put1.row a7 w11 (f0 1 q v n)
 have HP12 := ax (HP11.out.put hpr HG.out.1)
 have HB12 := ax (below_setRow HB11.out HG.out.2.2 (f0 1 q v n))
 have HA12 := ax ((hpr.block a2 (by have := HG.out; omega)).trans HA11.out)
 have HC12 := ax (setRow_heap w11 a7 _ (f0 1 q v n) _ _ HC11.out)
 obtain ⟨w12, hw12⟩ : ∃ w12, w12 = w11.setRow a7 (f0 1 q v n) := ⟨_, rfl⟩
 rw [← hw12] at HP12 HB12 HA12 HC12 ⊢
 clear hw12 hpr HP11 HB11 HA11 HC11
 obtain ⟨i0, hi0, hz0, hz1, hz2⟩ := info_parts u8_info
 obtain ⟨A', hcut0, hA2, hC2⟩ := print_drop_of (P := Tryz.prog) (Value.int .u8) 0 37 5 .i64 Tryz.underlying37 hi0 hz1 A c l 6 (by decide) (by have := HM.out; omega) HC.out
 have e6 : ((6 : Int).toNat) = 6 := rfl
 rw [← HM.out.2.1, e6] at hcut0
 rw [e6] at hA2 hC2
 have l6 : (l.drop 6).length = r := by rw [List.length_drop]; have := HM.out; omega
 have HBD := ax (fun w' (hb : Below w.heap.size w w') => Kd.C_of_reads (h1 := fun _ => rfl) (hA2 w' (Kd.reads_of_C (Kd.C_below HR.out hb))))
 have HC6 := ax hC2
 rw [l6] at hcut0
 have HCT := ax hcut0
 have HBT := ax (fun w => frame_Bits.calls (n : Int) _ w (fbits_f n HD.out.n64))
 rw [← HM.out.1] at HBT
 have HS := ax (show w12.drew.cell? ⟨a7, 3, none⟩ = some (.int .i64 n) from blk_cell HC12.out 3)
 have HL6 := ax l6
 clear hcut0 hA2 hC2 e6 l6 hi0 hz0 hz1 hz2
 go_wp2_with fail
 refine start_ (n := 10) (S := (fun w' => w'.cell? ⟨a7, 3, none⟩ = some (.int .i64 n))) (ds := [9]) #[false, false, false, false, false, false, false, false, false, false] kr rfl rfl HS.out (fun hHeld => ?_)
 refine with_tabW kparse16.tab kparse16.bits (fun HT_ HW_ => ?_)
 refine pu_ 0 64 HT_ ?_; refine pu_ 1 65 HT_ ?_; refine pu_ 2 66 HT_ ?_
 refine take_ (i := 3) (N := some 67) (v := ?_) (a' := ?_) #[true, true, true, true, false, false, false, false, false, false] rfl rfl (take_ofW HT_.out HW_.out kr) (fun _ _ _ h => h) (Or.inl ⟨by rfl, ?_⟩) hHeld ?_ ?_
 rotate_left
 ·rintro w' s0
  have hcv := HCT.out; go_simp; with_reducible rfl
 rotate_left
 ·simp only [Act.put, List.setIfInBounds_toArray, List.set_cons_zero, List.set_cons_succ, i64_w, i32_w]
  rfl
 refine pu_ 4 68 HT_ ?_; refine tk_ 5 69 HT_ HW_ hHeld ?_
 refine on_ 6 HT_ fun K hK => ?_
 refine goes_ Tryz.func78 kr rfl _ (by rfl) rfl rfl gs_ ?_
 refine (HBT.out _).mono ?_
 rintro e w14 ⟨rfl, hd⟩
 have HP14 := ax (HP12.out.below (below_step (below_drew1 (Below.refl _ _)) hd.below))
 have HB14 := ax (below_step HB12.out (below_step (below_drew1 (Below.refl _ _)) hd.below))
 have HA14 := ax (((below_step (below_drew1 (Below.refl _ _)) hd.below).block a2 (blk_lt HA12.out)).trans HA12.out)
 have HC14 := ax (((below_step (below_drew1 (Below.refl _ _)) hd.below).block a7 (blk_lt HC12.out)).trans HC12.out)
 clear hd HBT HP12 HB12 HA12 HC12
 refine ⟨_, rfl, ?_⟩
 refine hK.out _ _ (blk_cell HC14.out 3) (fun hHeld => ?_)
 clear hK K
 refine norm_ (a' := ?_) ?_ ?_
 rotate_left
 ·show Act.put _ (some 70) _ = _
  simp only [Act.put, List.setIfInBounds_toArray, List.set_cons_zero, List.set_cons_succ, i64_w, i32_w]
  rfl
 refine on_ 7 HT_ fun K hK => ?_
 refine goes_ Tryz.func77 kr rfl #[.pointer (some ⟨g, 0, none⟩), .slice A' r (c - 6), .int .i64 m] (by rfl) rfl rfl gs_ ?_
 have hpb := pbody_read HP14.out (HBD.out w14 HB14.out) HC6.out k HD.out.body m (by rw [HD.out.len]; exact HM.out.1.symm) HM.out.2.2.2.2.2
 rw [HL6.out] at hpb
 refine hpb.mono ?_
 rintro e w15 ⟨A8, rfl, hpc, hbd, hb⟩
 have HPC15 := ax hpc
 have HBD15 := ax (show ∀ d, A8 = some d → d.block ≠ a7 ∧ d.block ≠ a2 ∧ w.heap.size ≤ d.block ∧ d.block < w15.heap.size from fun d hd => by have := hbd d hd; have := blk_lt HC14.out; have := blk_lt HA14.out; have := HB14.out.size; omega)
 have HP15 := ax (HP14.out.below hb)
 have HB15 := ax (below_step HB14.out hb)
 have HA15 := ax ((hb.block a2 (blk_lt HA14.out)).trans HA14.out)
 have HC15 := ax ((hb.block a7 (blk_lt HC14.out)).trans HC14.out)
 clear hpc hbd hb hpb HP14 HB14 HA14 HC14
 refine ⟨_, rfl, ?_⟩
 refine hK.out _ _ (blk_cell HC15.out 3) (fun hHeld => ?_)
 clear hK K
 refine norm_ (a' := ?_) ?_ ?_
 rotate_left
 ·show Act.put _ (some 71) _ = _
  simp only [Act.put, List.setIfInBounds_toArray, List.set_cons_zero, List.set_cons_succ, i64_w, i32_w]
  rfl
 refine pu_ 8 72 HT_ ?_
 refine last_ (i := 9) (N := none) #[true, true, true, true, true, true, true, true, true, true] rfl rfl (one_of HT_.out kr) (by decide) (fun K hK => ?_)
 have hcl : w15.cell? ⟨a7, 4, none⟩ = some (.slice none 0 0) := blk_cell HC15.out 4
 have hfz := blk_frozen HC15.out 4
 refine skip_ (w1 := ?_) (by rfl) rfl ?_ ?_
 rotate_left 1
 ·go_simp
  rfl
 refine hK.out _ _ ?_
 clear hK K
 refine done_ (done_of HT_.out kr) ?_
 clear hHeld hcl hfz
 have hpt := Put1.set a7 4 w15 (.slice A8 m m)
 have HC16 := ax (show (w15.setCell ⟨a7, 4, none⟩ (.slice A8 m m)).heap[a7]? = some (.cells (fr 1 q v n (.slice A8 m m)) 47 (0, 0)) from blk_put HC15.out 4 _ rfl)
 have HA16 := ax ((hpt.block a2 (by have := HG.out; omega)).trans HA15.out)
 have HB16 := ax (HB15.out.trans (hpt.below HG.out.2.2))
 have HP16 := ax (HP15.out.put hpt HG.out.1)
 have HPC16 := ax (C_put HPC15.out hpt (fun d hd => (HBD15.out d hd).1))
 have HS16 := ax hpt.size
 obtain ⟨w16, hw16⟩ : ∃ w16, w16 = w15.setCell ⟨a7, 4, none⟩ (.slice A8 m m) := ⟨_, rfl⟩
 rw [← hw16] at HC16 HA16 HB16 HP16 HPC16 HS16 ⊢
 clear hw16 hpt HC15 HA15 HB15 HP15 HPC15
 have hc0 := blk_cell HP16.out.box 0
 have hc1 := blk_cell HP16.out.box 1
 go_wp2_with (first
  | (refine wpList_load_row rfl 47 (.tmp 7) rfl a7 rfl 47 (fr 1 q v n (.slice A8 m m)) (0, 0) _ HC16.out hu rfl fr_size ?_)
  | (refine wpList_store_row rfl 47 (.tmp 2) (.tmp 83) rfl a2 (fr 1 q v n (.slice A8 m m)) rfl rfl 47 _ HA16.out fr_size rfl (fr_one 1 q v n A8 m m) ?_)
  | fail)
 refine bodyPost_ret (results_ct rfl _ _ a2 47 (fr 1 q v n (.slice A8 m m)) (0, 0) _ rfl (setRow_heap _ _ _ _ _ _ HA16.out) hu rfl fr_size) rfl ?_
 have hpr := Put1.row a2 w16 (fr 1 q v n (.slice A8 m m))
 refine ⟨A8, rfl, C_put HPC16.out hpr (fun d hd => (HBD15.out d hd).2.1), fun d hd => ?_, below_setRow HB16.out HA0.out _⟩
 have h1 := HBD15.out d hd
 have h2 := hpr.size
 have h3 := HS16.out
 exact ⟨h1.2.2.1, by omega⟩
theorem readd_calls {w : World} {A : Option Addr} {c : Nat} {l xs P : List Int} (hr : Kd.C (Kd.int .u8) w A l.length l) (hc : l.length ≤ c) {k : Nat} {q : Int} {v n : Nat} (hd : DF k q v n l xs P) :
  Calls Tryz.prog 12 #[.slice A l.length c] w fun e w' => ∃ A', e = .returned (.tuple #[.agg (fr 1 q v n (.slice A' (nb n) (nb n))), .int .i64 0]) ∧ Kd.C (Kd.int .u8) w' A' P.length P ∧ (∀ d, A' = some d → w.heap.size ≤ d.block ∧ d.block < w'.heap.size) ∧ Below w.heap.size w w' := by
 have hba := below_alloc (Below.refl w.heap.size w) (.cells (f0 0 0 0 0) 47)
 have hbb := blk_new w (.cells (f0 0 0 0 0) 47)
 have HPC := ax (parsed_calls (Kd.C_below hr hba) hc hd)
 obtain ⟨m, hm⟩ : ∃ m, m = nb n := ⟨_, rfl⟩
 obtain ⟨L, hL⟩ : ∃ L, L = l.length := ⟨_, rfl⟩
 rw [← hm] at HPC ⊢
 rw [← hL] at HPC ⊢
 clear hr hc hd hm hL
 obtain ⟨w1, hw1⟩ : ∃ w1, w1 = w.alloc (.cells (f0 0 0 0 0) 47) := ⟨_, rfl⟩
 obtain ⟨a2, ha2⟩ : ∃ a2, a2 = w.heap.size := ⟨_, rfl⟩
 rw [← hw1] at hba hbb HPC
 rw [← ha2] at hbb
 have HB1 := ax hba
 have HA1 := ax hbb
 have HA0 := ax (show w.heap.size ≤ a2 by rw [ha2]; exact Nat.le_refl _)
 have HU := ax Tryz.underlying47
 clear hba hbb
 go_enter Tryz.func12, Tryz.ntmps12
 go_wp2_with (first
  | (go_at_call 35; refine Aside0.out ?_)
  | fail)
 refine ax ?_
 show Calls _ _ _ (w.alloc (.cells (f0 0 0 0 0) 47)) _
 rw [← hw1, ← ha2]
 clear hw1 ha2
 refine HPC.out.mono ?_
 rintro e w2 ⟨A8, rfl, hpc, hbd, hb⟩
 have HB2 := ax (below_step HB1.out hb)
 have HA2 := ax ((hb.block a2 (blk_lt HA1.out)).trans HA1.out)
 have HPC2 := ax hpc
 have HBD := ax (show ∀ d, A8 = some d → d.block ≠ a2 ∧ w.heap.size ≤ d.block ∧ d.block < w2.heap.size from fun d hd => by have := hbd d hd; have := blk_lt HA1.out; have := HB1.out.size; omega)
 clear hb hpc hbd HB1 HA1 HPC
 go_wp2_with (first
  | (refine wpList_store_row rfl 47 (.tmp 4) (.tmp 9) rfl w2.heap.size (fr 1 q v n (.slice A8 m m)) rfl rfl 47 _ (blk_new w2 _) fr_size rfl (fr_one 1 q v n A8 m m) ?_; refine Aside0.out ?_)
  | fail)
 refine ax ?_
 have hba := below_alloc (Below.refl w2.heap.size w2) (.cells (f0 0 0 0 0) 47)
 have hbb := setRow_heap (w2.alloc (.cells (f0 0 0 0 0) 47)) w2.heap.size _ (fr 1 q v n (.slice A8 m m)) _ _ (blk_new w2 (.cells (f0 0 0 0 0) 47))
 have hbs := below_setRow hba (Nat.le_refl _) (fr 1 q v n (.slice A8 m m))
 obtain ⟨a4, ha4⟩ : ∃ a4, a4 = w2.heap.size := ⟨_, rfl⟩
 obtain ⟨w3, hw3⟩ : ∃ w3, w3 = (w2.alloc (.cells (f0 0 0 0 0) 47)).setRow w2.heap.size (fr 1 q v n (.slice A8 m m)) := ⟨_, rfl⟩
 rw [← hw3] at hbs hbb
 show wpList _ _ _ _ _ ((w2.alloc (.cells (f0 0 0 0 0) 47)).setRow w2.heap.size (fr 1 q v n (.slice A8 m m)))
 rw [← hw3]
 have hbs : Below w2.heap.size w2 w3.drew := below_drew1 hbs
 have HB3 := ax (below_step HB2.out hbs)
 have HA3 := ax ((hbs.block a2 (blk_lt HA2.out)).trans HA2.out)
 have HPC3 := ax (Kd.C_below HPC2.out hbs)
 have HS3 := ax hbs.size
 rw [← ha4] at hbb ⊢
 have hcc := fun i => blk_cell (show w3.drew.heap[a4]? = some (.cells (fr 1 q v n (.slice A8 m m)) 47 (0, 0)) from hbb) i
 have HS := ax (show w3.drew.cell? ⟨a4, 0, none⟩ = some (.int .i64 1) ∧ w3.drew.cell? ⟨a4, 1, none⟩ = some (.int .u16 q) ∧ w3.drew.cell? ⟨a4, 2, none⟩ = some (.int .i64 v) ∧ w3.drew.cell? ⟨a4, 3, none⟩ = some (.int .i64 n) ∧ w3.drew.cell? ⟨a4, 4, none⟩ = some (.slice A8 m m) ∧ w3.drew.cell? ⟨a4, 5, none⟩ = some (.int .u16 0) ∧ w3.drew.cell? ⟨a4, 6, none⟩ = some (.int .u32 0) from ⟨hcc 0, hcc 1, hcc 2, hcc 3, hcc 4, hcc 5, hcc 6⟩)
 have HM := ax (show w3.drew.heap[a4]? = some (.cells (fr 1 q v n (.slice A8 m m)) 47 (0, 0)) from hbb)
 clear hba hbb hbs ha4 hw3 hcc HB2 HA2 HPC2
 go_wp2_with fail
 refine start_ (n := 5) (S := (fun w' => w'.cell? ⟨a4, 0, none⟩ = some (.int .i64 1) ∧ w'.cell? ⟨a4, 1, none⟩ = some (.int .u16 q) ∧ w'.cell? ⟨a4, 2, none⟩ = some (.int .i64 v) ∧ w'.cell? ⟨a4, 3, none⟩ = some (.int .i64 n) ∧ w'.cell? ⟨a4, 4, none⟩ = some (.slice A8 m m) ∧ w'.cell? ⟨a4, 5, none⟩ = some (.int .u16 0) ∧ w'.cell? ⟨a4, 6, none⟩ = some (.int .u32 0))) (ds := [3]) #[false, false, false, false, false] kr rfl rfl HS.out (fun hHeld => ?_)
 refine with_tabW kread2.tab kread2.bits (fun HT_ HW_ => ?_)
 refine tk_ 0 11 HT_ HW_ hHeld ?_; refine pu_ 1 12 HT_ ?_
 refine on_ 2 HT_ fun K hK => ?_
 refine goes_ Tryz.func36 kr rfl _ (by rfl) rfl rfl gs_ ?_
 refine (told_nil _).mono ?_
 rintro e w4 ⟨rfl, hb⟩
 have HB4 := ax (below_step HB3.out hb)
 have HA4 := ax ((hb.block a2 (blk_lt HA3.out)).trans HA3.out)
 have HPC4 := ax (Kd.C_below HPC3.out hb)
 have HS4 := ax (Nat.le_trans HS3.out hb.size)
 have hm := (hb.block a4 (blk_lt HM.out)).trans HM.out
 have hcc := fun i => blk_cell hm i
 refine ⟨_, rfl, ?_⟩
 refine hK.out _ _ ⟨hcc 0, hcc 1, hcc 2, hcc 3, hcc 4, hcc 5, hcc 6⟩ (fun hHeld => ?_)
 clear hK K
 refine norm_ (a' := ?_) ?_ ?_
 rotate_left
 ·show Act.put _ (some 13) _ = _
  simp only [Act.put, List.setIfInBounds_toArray, List.set_cons_zero, List.set_cons_succ, i64_w, i32_w]
  rfl
 refine last_ (i := 3) (N := none) #[true, true, true, true, false] rfl rfl (one_of HT_.out kr) (by decide) (fun K hK => ?_)
 rw [if_pos (by rfl)]
 refine wp_store_row 47 (.tmp 2) (.tmp 11) rfl a2 (fr 1 q v n (.slice A8 m m)) (by rfl) (by rfl) 47 _ HA4.out fr_size (by rfl) (fr_one 1 q v n A8 m m) ?_
 refine hK.out _ _ ?_
 clear hK K
 refine pu_ 4 3 HT_ ?_
 refine done_ (done_of HT_.out kr) ?_
 have HF := ax (below_setRow HB4.out HA0.out (fr 1 q v n (.slice A8 m m)))
 have HFH := ax (setRow_heap w4 a2 _ (fr 1 q v n (.slice A8 m m)) _ _ HA4.out)
 have hpr := Put1.row a2 w4 (fr 1 q v n (.slice A8 m m))
 have HPF := ax (C_put HPC4.out hpr (fun d hd => (HBD.out d hd).1))
 have HSF := ax hpr.size
 obtain ⟨w5, hw5⟩ : ∃ w5, w5 = w4.setRow a2 (fr 1 q v n (.slice A8 m m)) := ⟨_, rfl⟩
 rw [← hw5] at HF HFH HPF HSF ⊢
 clear hw5 hcc hm hpr
 go_wp2_with fail
 refine bodyPost_ret (results_ct rfl _ _ a2 47 (fr 1 q v n (.slice A8 m m)) (0, 0) _ rfl HFH.out HU.out rfl fr_size) rfl ?_
 exact ⟨A8, rfl, HPF.out, fun d hd => by have := HBD.out d hd; have := HS4.out; have := HSF.out; omega, HF.out⟩
-- YtajiggmeappfaaaGreatDoorPKTrip
theorem bytes_in (l : List Int) (h : ∀ x ∈ l, bit x) (m : Nat) : ∀ x ∈ (List.range m).map (byte l), 0 ≤ x ∧ x ≤ 255 := by
 intro x hx
 simp only [List.mem_map, List.mem_range] at hx
 obtain ⟨j, _, rfl⟩ := hx
 rw [byte_rb l h j]
 exact rb_256 l h j 8 (Nat.le_refl _)
theorem ofl_app (a b : List Int) : ofl (a ++ b) = ofl a ++ ofl b := by unfold ofl; rw [List.flatMap_append]
structure DTrip (q : Int) (v n : Nat) (P bs S BB xs : List Int) : Prop where
 body : bits_Bytes.f 2000 P = some (BB, 0)
 head : bits_Bytes.f 2000 (hk v n q 5) = some (bs, 0)
 seal_ : crc16_Seal.f 2000 bs = some S
 len : S.length + BB.length ≤ 1000
 df : DF 2000 q v n (S ++ BB) xs P
theorem dtrip (q : Int) (v n : Nat) (P : List Int) (hq : 0 ≤ q ∧ q ≤ 65535) (hv : v < 4) (hn : n ≤ 64) (hP : ∀ x ∈ P, isb x) (hl : P.length = nb n) : ∃ bs S BB xs, DTrip q v n P bs S BB xs := by
 obtain ⟨u, rfl⟩ := Int.eq_ofNat_of_zero_le hq.1
 have p0 : putE 1 4 = 0 := putE_ok 1 4 (by decide) (by decide) (by decide)
 have p1 : putE (v : Int) 2 = 0 := putE_ok v 2 (by decide) (by decide) (by omega)
 have p2 : putE 0 2 = 0 := putE_ok 0 2 (by decide) (by decide) (by decide)
 have p3 : putE (n : Int) 8 = 0 := putE_ok n 8 (by decide) (by decide) (by omega)
 have p4 : putE (u : Int) 16 = 0 := putE_ok u 16 (by decide) (by decide) (by have := hq.2; omega)
 have l0 := putL_len 1 4 p0
 have l1 := putL_len (v : Int) 2 p1
 have l2 := putL_len 0 2 p2
 have l3 := putL_len (n : Int) 8 p3
 have l4 := putL_len (u : Int) 16 p4
 obtain ⟨H, hH⟩ : ∃ H, H = hk (v : Int) (n : Int) (u : Int) 5 := ⟨_, rfl⟩
 have hH2 : H = putL 1 4 ++ putL (v : Int) 2 ++ putL 0 2 ++ putL (n : Int) 8 ++ putL (u : Int) 16 := hH
 have hb : ∀ z ∈ H, bit z := by
  intro z hz
  rw [hH2] at hz
  rcases List.mem_append.1 hz with hz | hz
  ·rcases List.mem_append.1 hz with hz | hz
   ·rcases List.mem_append.1 hz with hz | hz
    ·rcases List.mem_append.1 hz with hz | hz
     ·exact putL_bit 1 4 (by decide) z hz
     ·exact putL_bit (v : Int) 2 (by omega) z hz
    ·exact putL_bit 0 2 (by decide) z hz
   ·exact putL_bit (n : Int) 8 (by omega) z hz
  ·exact putL_bit (u : Int) 16 (by have := hq.2; omega) z hz
 have hlen : H.length = 32 := by rw [hH2]; simp only [List.length_append]; omega
 obtain ⟨bs, hbs⟩ : ∃ bs, bs = (List.range ((H.length + 7) / 8)).map (byte H) := ⟨_, rfl⟩
 have hbl : bs.length = 4 := by rw [hbs, List.length_map, List.length_range, hlen]
 have hbi : ∀ z ∈ bs, 0 ≤ z ∧ z ≤ 255 := by rw [hbs]; exact bytes_in H hb _
 obtain ⟨z, hz, hof⟩ := ofl_bytes H hb
 rw [← hbs] at hof
 have hz0 : z = 0 := by
  have := congrArg List.length hof
  rw [ofl_length, List.length_append, List.length_replicate, hbl, hlen] at this
  omega
 subst hz0
 rw [List.replicate_zero, List.append_nil] at hof
 have hPl : P.length ≤ 600 := by rw [hl]; unfold nb; omega
 obtain ⟨BB, hBB⟩ : ∃ BB, BB = (List.range ((P.length + 7) / 8)).map (byte P) := ⟨_, rfl⟩
 have hBl : BB.length = (nb n + 7) / 8 := by rw [hBB, List.length_map, List.length_range, hl]
 have hBi : ∀ z ∈ BB, 0 ≤ z ∧ z ≤ 255 := by rw [hBB]; exact bytes_in P hP _
 obtain ⟨y, hy, hoB⟩ := ofl_bytes P hP
 rw [← hBB] at hoB
 have hy2 : y = 2 := by
  have := congrArg List.length hoB
  rw [ofl_length, List.length_append, List.length_replicate, hBl, hl] at this
  unfold nb at this
  omega
 subst hy2
 obtain ⟨S, hS⟩ : ∃ S, S = bs ++ two (sum16 bs) := ⟨_, rfl⟩
 have hSl : S.length = 6 := by rw [hS, List.length_append, hbl]; rfl
 have hSi : ∀ z ∈ S, 0 ≤ z ∧ z ≤ 255 := by rw [hS]; exact fun z hz => (List.mem_append.1 hz).elim (hbi z) (two_in _ z)
 have hAi : ∀ z ∈ S ++ BB, 0 ≤ z ∧ z ≤ 255 := fun z hz => (List.mem_append.1 hz).elim (hSi z) (hBi z)
 have hAl : (S ++ BB).length = 6 + (nb n + 7) / 8 := by rw [List.length_append, hSl, hBl]
 have hnb : nb n ≤ 600 := by omega
 have hxs : ofl (S ++ BB) = putL 1 4 ++ (putL (v : Int) 2 ++ (putL 0 2 ++ (putL (n : Int) 8 ++ (putL (u : Int) 16 ++ (ofl (two (sum16 bs)) ++ ofl BB))))) := by
  rw [ofl_app, hS, ofl_app, hof, hH2]; simp only [List.append_assoc]
 obtain ⟨R, hR⟩ : ∃ R, R = ofl (two (sum16 bs)) ++ ofl BB := ⟨_, rfl⟩
 rw [← hR] at hxs
 have t0 := take_put 1 4 (putL (v : Int) 2 ++ (putL 0 2 ++ (putL (n : Int) 8 ++ (putL (u : Int) 16 ++ R)))) p0
 have t1 := take_put (v : Int) 2 (putL 0 2 ++ (putL (n : Int) 8 ++ (putL (u : Int) 16 ++ R))) p1
 have t2 := take_put 0 2 (putL (n : Int) 8 ++ (putL (u : Int) 16 ++ R)) p2
 have t3 := take_put (n : Int) 8 (putL (u : Int) 16 ++ R) p3
 have t4 := take_put (u : Int) 16 R p4
 rw [← hxs] at t0
 have hk6 : (S ++ BB).take 6 = S := by rw [← hSl, List.take_left]
 have hd6 : (S ++ BB).drop 6 = BB := by rw [← hSl, List.drop_left]
 refine ⟨bs, S, BB, ofl (S ++ BB), ?_, ?_, ?_, by rw [hSl, hBl]; omega, ?_⟩
 ·rw [hBB]; exact bytes_some hP (by omega) 2000 (by omega)
 ·rw [← hH, hbs]; exact bytes_some hb (by omega) 2000 (by omega)
 ·rw [hS]; exact seal_f bs (by omega) hbi 2000 (by omega)
 ·refine ⟨bof_f _ hAi (by omega) 2000 (by omega), ?_, ?_, hl, hAl, hq, hv, hn, ⟨t0.1, t0.2.1⟩, ?_, ?_, ?_, ?_⟩
  ·rw [hk6, rightc_f _ (by omega) hSi 2000 (by omega)]
   refine congrArg some (decide_eq_true ⟨by omega, (sum_end _ hSi (by omega)).2 ?_⟩)
   rw [hSl, hS, List.take_append_of_le_length (by omega), List.take_of_length_le (by omega)]
  ·rw [hd6, bof_f _ hBi (by omega) 2000 (by omega), hoB]; rfl
  ·rw [t0.2.2]; exact ⟨t1.1, t1.2.1⟩
  ·rw [t0.2.2, t1.2.2]; exact ⟨t2.1, t2.2.1⟩
  ·rw [t0.2.2, t1.2.2, t2.2.2]; exact ⟨t3.1, t3.2.1⟩
  ·rw [t0.2.2, t1.2.2, t2.2.2, t3.2.2]; exact ⟨t4.1, t4.2.1⟩
-- YtajiggmeappfaaaGreatDoorPSTry
abbrev encS (e : Nat × Nat × Nat) : Value := .slice (some ⟨e.1, 0, none⟩) e.2.1 e.2.2
abbrev kSl : Kd (Nat × Nat × Nat) := Kd.scalar encS (fun _ => rfl)
theorem sl_info : (Tryz.prog.info? 37).map (fun i => (i.zero, i.size, i.bytes)) = some (some (.slice none 0 0), 1, 24) := by kernel_rfl
def FRM (w : World) (q : Int) (M : List Int) (e : Nat × Nat × Nat) : Prop := ∃ (l xs : List Int) (v : Nat), PRT w (encS e) l ∧ DF 2000 q v M.length l xs (vp (code (bitsM M)) v (nb M.length))
theorem FRM.same {w w' : World} {q : Int} {M : List Int} {e : Nat × Nat × Nat} (h : FRM w q M e) (hs : Same5 w w') : FRM w' q M e := by
 obtain ⟨l, xs, v, h1, h2⟩ := h
 exact ⟨l, xs, v, h1.same hs, h2⟩
theorem WH.typed {w : World} {S g mp : Nat} {now : Int} {V : Nat → Value} {ts : List (Int × Int)} (h : WH w S g mp now V ts) {k : Nat} {cs : Array Value} {T : TypeId} (hk : w.heap[k]? = some (.cells cs T (0, 0))) (h1 : T ≠ 137) (h2 : T ≠ seqT) : ¬ WF g mp V k := by
 rintro (rfl | rfl | ⟨j, hj, e⟩)
 ·obtain ⟨C, hC, _⟩ := h.box
  rw [hC] at hk; injection hk with hk; injection hk with _ hk; exact h1 hk.symm
 ·obtain ⟨D, hD, _⟩ := h.own
  obtain ⟨es, clock, hm⟩ := ownT_map hD
  rw [hm] at hk; cases hk
 ·obtain ⟨cells, hc⟩ := Kd.R_typed (h.row j hj) k e
  rw [hc] at hk; injection hk with hk; injection hk with _ hk; exact h2 hk.symm
theorem row_shape8 {w : World} {e base : Nat} {ok : Nat → Prop} {v : Value} {xs : List Int} (h : Kd.R (Kd.int .u8) e w base ok v xs) (hne : xs ≠ []) : ∃ gr cap, v = .slice (some ⟨gr, 0, none⟩) xs.length cap := by
 obtain ⟨h0, inner, ⟨hlen, ho2⟩, hr⟩ := h
 rcases ho2 with ⟨hv, hi⟩ | ⟨g', cap', cur, hv, _⟩
 ·exact absurd (List.length_eq_zero_iff.1 hi) hne
 ·exact ⟨g', cap', hv⟩
theorem two_types {w : World} {k : Nat} {cs cs' : Array Value} {T T' : TypeId} (h1 : w.heap[k]? = some (.cells cs T (0, 0))) (h2 : w.heap[k]? = some (.cells cs' T' (0, 0))) (hT : T ≠ T') : False := by
 rw [h1] at h2; injection h2 with h2; injection h2 with _ h2; exact hT h2
theorem R_keepS {w w' : World} {base : Nat} {e : TypeId} {v : Value} {xs : List (Nat × Nat × Nat)} (h : Kd.R kSl e w base (fun _ => True) v xs) (hb : ∀ k, v.ownBlock = some k → w'.heap[k]? = w.heap[k]?) : Kd.R kSl e w' base (fun _ => True) v xs :=
 Kd.R_mono (Kd.R_step (show Kd.R kSl e w base (fun k => v.ownBlock = some k) v xs from ⟨fun _ hk => hk, h.2⟩) (fun k ok _ => hb k ok)) (fun _ _ => trivial)
def stry5.T : Bool × List (List Nat × List Nat) := (true, [([], []), ([0], [0]), ([1], [1]), ([2], [2]), ([], []), ([], []), ([5], [5]), ([6], [6]), ([7], [7]), ([], []), ([], []), ([9], [9]), ([11], [11]), ([12, 10], [10, 12]), ([13], [13]), ([3, 4, 8, 14], [3, 4, 8, 14]), ([15], [15]), ([16], [16]), ([17], [17]), ([17], [17]), ([18, 16, 0, 1, 2, 3, 4, 5, 6, 7, 8, 9, 10, 11, 12, 13, 14, 15, 16, 17, 18], [18]), ([19, 20, 0, 1, 2, 3, 4, 5, 6, 7, 8, 9, 10, 11, 12, 13, 14, 15, 16, 17, 18, 19, 20], [19])])
def stry5.B : List Nat := [0, 1, 3, 7, 0, 0, 32, 96, 224, 0, 0, 512, 2560, 7680, 15872, 32767, 65535, 131071, 262143, 262143, 524287, 2097151]
theorem stry5.tab : rtab .any (opsOf Tryz.f34 5) = stry5.T := by kernel_rfl
theorem stry5.bits : waitsOk stry5.T.2 stry5.B = true := by kernel_rfl
def stry11.T : Bool × List (List Nat × List Nat) := (true, [([], []), ([0], [0]), ([1], [1]), ([2], [2]), ([], []), ([4], [4]), ([5], [5]), ([6], [6]), ([], []), ([3, 7, 8], [3, 7, 8])])
def stry11.B : List Nat := [0, 1, 3, 7, 0, 16, 48, 112, 0, 511]
theorem stry11.tab : rtab .any (opsOf Tryz.f34 11) = stry11.T := by kernel_rfl
theorem stry11.bits : waitsOk stry11.T.2 stry11.B = true := by kernel_rfl
theorem stry_calls {w : World} {S sb x g mp : Nat} {base : Int} {kept : Value} {L R num : Int} {M : List Int} {p : Nat → Value} {q : Nat} {ack : Bool} {b t s now : Int} {V : Nat → Value} {ts : List (Int × Int)}
  (h : ENT w x num M.length p (some q) ack) (hp : ∀ v, v < 4 → PRT w (p v) (vp (code (bitsM M)) v (nb M.length))) (hM : byt M ∧ M.length ≤ 64) (hn : 0 ≤ num ∧ num ≤ 65535) (hq : PLN w q b t s) (hb : 1 ≤ b ∧ b ≤ 4) (ht : 0 ≤ t ∧ t ≤ 1000) (hs : 0 ≤ s ∧ s ≤ 10000)
  (hsb : SNB w sb base kept g L R) (hw : WH w S g mp now V ts) (hno : ts.any (fun p => p.1 == num) = false) (hfew : ts.length < 100) (hnow : 0 ≤ now ∧ now ≤ 1000) :
  Calls Tryz.prog 34 #[.pointer (some ⟨sb, 0, none⟩), .pointer (some ⟨x, 0, none⟩)] w fun e w' => ∃ (v : Value) (es : List (Nat × Nat × Nat)) (V' : Nat → Value) (n s' : Int) (B : Nat), e = .returned v ∧ w.heap.size ≤ B ∧ Kd.R kSl 37 w' B (fun _ => True) v es ∧ es ≠ [] ∧ es.length ≤ 4 ∧ (∀ e ∈ es, FRM w' num M e) ∧
   PLN w' q b (t + 1) s' ∧ (s ≤ s' ∧ s' ≤ s + 4) ∧ (1 ≤ n ∧ n ≤ 16) ∧ WH w' S g mp now V' (ts ++ [(num, now + n)]) ∧ Grow w (WF g mp V) (WF g mp V') ∧ Keep (fun k => k = q ∨ WF g mp V k) w w' := by
 have hc6 : w.cell? ⟨x, 6, none⟩ = some (.pointer (some ⟨q, 0, none⟩)) := blk_cell h 6
 have HN := ax (next_calls hq hb ht hs)
 have HH := ax (And.intro h (And.intro hsb (And.intro hw hq)))
 have HP := ax hp
 have HJ := ax (And.intro hM (And.intro hn (And.intro ht (And.intro hs (And.intro hno (And.intro hfew hnow))))))
 clear h hp hM hn hq hb ht hs hsb hw hno hfew hnow
 go_enter Tryz.func34, Tryz.ntmps34
 go_wp2_with (go_at_call 65; refine HN.out.mono ?_; rintro e w1 ⟨vv, vs, s', rfl, hr, h1, h2, h3, h4, h5, h6⟩; obtain ⟨A1, c1, rfl⟩ := Kd.R_slice hr; have H1 := ax (And.intro hr (And.intro h1 (And.intro h2 (And.intro h3 (And.intro h4 (And.intro h5 h6)))))); clear hr h1 h2 h3 h4 h5 h6)
 obtain ⟨m, hm⟩ : ∃ m, m = vs.length := ⟨_, rfl⟩
 have hx1 : ENT w1 x num M.length p (some q) ack := H1.out.2.2.2.2.2.2.at HH.out.1 (fun e => by
  have e : x = q := e; subst e; exact two_types HH.out.1 HH.out.2.2.2 (by decide))
 have hs1 : SNB w1 sb base kept g L R := H1.out.2.2.2.2.2.2.at HH.out.2.1 (fun e => by
  have e : sb = q := e; subst e; exact two_types HH.out.2.1 HH.out.2.2.2 (by decide))
 have h51 : Same5 w w1 := Same5.of_keep H1.out.2.2.2.2.2.2 (fun k cs e hk => by
  have e : k = q := e; subst e; exact two_types hk HH.out.2.2.2 (by decide))
 have hw1 : WH w1 S g mp now V ts := HH.out.2.2.1.keep (fun k hk => H1.out.2.2.2.2.2.2.block k (HH.out.2.2.1.foot k hk).1 (fun e => HH.out.2.2.1.typed HH.out.2.2.2 (by decide) (by decide) (by have e : k = q := e; rw [← e]; exact hk)))
 have HX1 := ax (And.intro hx1 (And.intro hs1 hw1))
 have HP1 := ax (fun v hv => (HP.out v hv).same h51)
 have HML := ax (And.intro hm H1.out.2.2.1)
 have HV1 := ax H1.out.1
 rw [← hm] at HV1 ⊢
 clear hx1 hs1 h51 hw1 hm hc6
 go_loopw [18, 5] (fun v18 v5 wr => ∃ (i : Nat) (es : List (Nat × Nat × Nat)), v18 = .int .i64 (i : Int) ∧ i ≤ m ∧ Aside0 (Kd.R kSl 37 wr w1.heap.size (fun _ => True) v5 es) ∧ Aside0 (es.length = i ∧ ∀ e ∈ es, FRM wr num M e) ∧ Aside0 (Below w1.heap.size w1 wr)) (fun v18 _ _ => m - (intOf v18).toNat)
 case atStart => exact ⟨0, [], by simp, by omega, ⟨Kd.R_nil _ _ _ _ _⟩, ⟨rfl, fun e he => by cases he⟩, ⟨Below.refl _ _⟩⟩
 case round =>
  obtain ⟨i, es, rfl, hi, HU, HE, HB⟩ := hrel
  by_cases hlt : i < m
  ·have hlb : decide ((i : Int) < (m : Int)) = true := decide_eq_true (by omega)
   have hi0 : (0 : Int) ≤ (i : Int) := by omega
   have hin : (i : Int) < (m : Int) := by omega
   have hil : i < vs.length := by rw [← HML.out.1]; exact hlt
   have hm4 : m ≤ 4 := by rw [HML.out.1]; exact HML.out.2
   obtain ⟨ad, rfl, hcx0⟩ := ReadsOf.at_ (Kd.reads_of_C (enc := Value.int .i64) (d := (0 : Int)) (h1 := fun _ => rfl) (Kd.C_below (Kd.R_reads' HV1.out).2.2 HB.out)) (i : Int) hi0 (by omega)
   rw [Int.toNat_natCast] at hcx0
   obtain ⟨v, hv, hv4⟩ : ∃ v : Nat, vs[i] = (v : Int) ∧ v < 4 := by
    have := H1.out.2.2.2.1 vs[i] (List.getElem_mem _)
    exact ⟨vs[i].toNat, by omega, by omega⟩
   have hcx : wr.cell? (ad.add i) = some (.int .i64 (v : Int)) := by
    have e : rdOf 0 vs (i : Int) = (v : Int) := by rw [← hv]; simp [rdOf, hil]
    rw [e] at hcx0; exact hcx0
   obtain ⟨P, hP⟩ : ∃ P, P = vp (code (bitsM M)) v (nb M.length) := ⟨_, rfl⟩
   have hPl : P.length = nb M.length := by rw [hP, vp_len]
   have hPi : ∀ y ∈ P, isb y := by rw [hP]; exact vp_isb (codeN_isb (bitsM_isb M) _) v _
   obtain ⟨bs, S', BB, xs, HDT⟩ := dtrip num v M.length P HJ.out.2.1 hv4 HJ.out.1.2 hPi hPl
   obtain ⟨Av, cv, hpv, hPC, hPc, _⟩ := HP1.out v hv4
   rw [← hP] at hPC hPc hpv
   have hbd := below_drew1 HB.out
   have hx := (hbd.block x (blk_lt HX1.out.1)).trans HX1.out.1
   have HS := ax (show wr.drew.cell? ⟨x, 0, none⟩ = some (.int .u16 num) ∧ wr.drew.cell? ⟨x, 1, none⟩ = some (.int .i64 (M.length : Int)) ∧ wr.drew.cell? ⟨x, 2 + v, none⟩ = some (.slice Av (nb M.length) cv) from ⟨blk_cell hx 0, blk_cell hx 1, by
    rw [hPl] at hpv
    rw [blk_cell hx (2 + v), ← hpv]
    have : v = 0 ∨ v = 1 ∨ v = 2 ∨ v = 3 := by omega
    rcases this with e | e | e | e <;> (rw [e]; rfl)⟩)
   have HWR := ax (writed_calls (Kd.C_below hPC hbd) hPc hPi num HJ.out.2.1 v M.length (nb M.length) hv4 HJ.out.1.2 hPl rfl bs S' BB 2000 HDT.body HDT.head HDT.seal_ HDT.len (by decide))
   have HDF := ax (show DF 2000 num v M.length (S' ++ BB) xs (vp (code (bitsM M)) v (nb M.length)) from by rw [← hP]; exact HDT.df)
   have HUd := ax (Kd.R_drew HU.out)
   have HBd := ax hbd
   have hv0 : (0 : Int) ≤ (v : Int) := by omega
   have hv4' : (v : Int) < 4 := by omega
   obtain ⟨n5, hn5⟩ : ∃ n5, n5 = M.length := ⟨_, rfl⟩
   obtain ⟨mb, hmb⟩ : ∃ mb, mb = nb M.length := ⟨_, rfl⟩
   rw [← hmb] at HS
   rw [← hn5] at HS
   rw [← hmb, ← hn5] at HWR
   clear hcx0 hv hP hPl hPi HDT hpv hPC hPc hbd hx hil hn5 hmb
   go_wp2_with fail
   refine start_ (n := 22) (S := (fun w' => w'.cell? ⟨x, 0, none⟩ = some (.int .u16 num) ∧ w'.cell? ⟨x, 1, none⟩ = some (.int .i64 (n5 : Int)) ∧ w'.cell? ⟨x, 2 + v, none⟩ = some (.slice Av mb cv))) (ds := [16]) #[false, false, false, false, false, false, false, false, false, false, false, false, false, false, false, false, false, false, false, false, false, false] kr rfl rfl HS.out (fun hHeld => ?_)
   refine with_tabW stry5.tab stry5.bits (fun HT_ HW_ => ?_)
   refine pu_ 0 23 HT_ ?_; refine pu_ 1 24 HT_ ?_; refine pu_ 2 25 HT_ ?_; refine tk_ 3 26 HT_ HW_ hHeld ?_; refine pu_ 4 27 HT_ ?_; refine pu_ 5 28 HT_ ?_; refine pu_ 6 29 HT_ ?_; refine pu_ 7 30 HT_ ?_; refine tk_ 8 31 HT_ HW_ hHeld ?_; refine pu_ 9 32 HT_ ?_; refine pu_ 10 33 HT_ ?_; refine pu_ 11 34 HT_ ?_; refine pu_ 12 35 HT_ ?_; refine pu_ 13 36 HT_ ?_; refine tk_ 14 37 HT_ HW_ hHeld ?_; refine pu_ 15 38 HT_ ?_
   refine last_ (i := 16) (N := some 39) #[true, true, true, true, true, true, true, true, true, true, true, true, true, true, true, true, true, false, false, false, false, false] rfl rfl (one_of HT_.out kr) (by decide) (fun K hK => ?_)
   refine goes_ Tryz.func66 kr rfl #[.agg (fr 1 num ↑v ↑n5 (.slice Av mb cv))] (by rfl) rfl rfl gs_ ?_
   refine HWR.out.mono ?_
   rintro e w2 ⟨u2, rfl, hu, hb⟩
   have HU2 := ax hu
   have HB2 := ax hb
   clear hu hb
   refine ⟨_, rfl, ?_⟩
   refine hK.out _ _ ?_
   clear hK K
   refine norm_ (a' := ?_) ?_ ?_
   rotate_left
   ·show Act.put _ (some 39) _ = _
    simp only [Act.put, List.setIfInBounds_toArray, List.set_cons_zero, List.set_cons_succ, i64_w, i32_w]
    rfl
   refine pu_ 17 22 HT_ ?_; refine pu_ 18 40 HT_ ?_; refine pu_ 19 41 HT_ ?_; refine pu_ 20 8 HT_ ?_; refine pu_ 21 9 HT_ ?_
   refine done_ (done_of HT_.out kr) ?_
   clear hHeld HT_ HW_
   obtain ⟨b2, c2, he2⟩ := row_shape8 HU2.out (fun e => by have := HDF.out.all; rw [e] at this; simp at this; omega)
   subst he2
   obtain ⟨n2, hn2⟩ : ∃ n2, n2 = (S' ++ BB).length := ⟨_, rfl⟩
   have HF2 := ax (show FRM w2 num M (b2, n2, c2) from ⟨S' ++ BB, xs, v, by rw [hn2]; exact PRT.of_R HU2.out, HDF.out⟩)
   rw [← hn2]
   clear hn2
   have HUe := ax (Kd.R_below HUd.out HB2.out)
   have HBe := ax (below_step HBd.out HB2.out)
   have HEe := ax (show es.length = i ∧ ∀ e ∈ es, FRM w2 num M e from ⟨HE.out.1, fun e he => (HE.out.2 e he).same (fun k cs hk => (HB2.out.block k (blk_lt hk)))⟩)
   clear HUd HBd HE HU HB
   go_wp2_with ((with_reducible refine gate_builtin (b := .append) (xs := #[.tmp 44, .tmp 46]) rfl ?_); at_builtin; refine Kd.R_append kSl (w0 := w1) w1.heap.size rfl (.tmp 44) (.tmp 46) 23 37 (.slice none 0 0) 24 rfl Tryz.underlying23 sl_info rfl (by decide) (by decide) u5 es (b2, n2, c2) [encS (b2, n2, c2)] (fun _ => True) (fun _ => False) rfl (by first | rfl | (go_simp; done) | (go_simp; rfl)) rfl (fun _ hk => hk.elim) (fun _ _ => trivial) HUe.out HBe.out HBe.out.size (by have := HEe.out.1; omega) ?_; intro v1 w3 ho hb hg hat; have HU3 := ax ho; have HG3 := ax hg; have HB3 := ax hb; clear ho hb hg hat)
   go_roundw
   case rel =>
    have h5 : Same5 w2 w3 := fun k cs hk => HG3.out.block k (blk_lt hk) (fun e => by
     obtain ⟨cs', hcs'⟩ := Kd.R_typed HUe.out k e.symm
     exact two_types hk hcs' (by decide))
    refine ⟨i + 1, es ++ [(b2, n2, c2)], by simp, by omega, HU3, ⟨by rw [List.length_append, HEe.out.1]; rfl, fun e he => ?_⟩, HB3⟩
    ·rcases List.mem_append.1 he with he | he
     ·exact (HEe.out.2 e he).same h5
     ·rw [List.mem_singleton] at he; subst he; exact HF2.out.same h5
   case measure => simp [intOf]; omega
  ·have hlb : decide ((i : Int) < (m : Int)) = false := decide_eq_false (by omega)
   obtain ⟨A5, c5, rfl⟩ := Kd.R_slice HU.out
   have hpl := (HB.out.block q (blk_lt H1.out.2.2.2.2.1)).trans H1.out.2.2.2.2.1
   have hx := (HB.out.block x (blk_lt HX1.out.1)).trans HX1.out.1
   have hsn := (HB.out.block sb (blk_lt HX1.out.2.1)).trans HX1.out.2.1
   have hwh := HX1.out.2.2.below HB.out
   have hcx : wr.cell? ⟨x, 6, none⟩ = some (.pointer (some ⟨q, 0, none⟩)) := blk_cell hx 6
   have HQ := ax (And.intro hpl (And.intro hx (And.intro hsn hwh)))
   have HTR := ax (tries_calls hpl)
   have HIM := ax (show es.length = m from by rw [HE.out.1]; omega)
   clear hpl hx hsn hwh
   go_wp2_with (first
    | (go_at_call 68; refine HTR.out.mono ?_; rintro e w2 ⟨rfl, hb⟩; have HB2 := ax hb; clear hb)
    | (go_at_call 67; refine (wait_calls (t + 1) (by have := HJ.out.2.2.1; omega) _).mono ?_; rintro e w3 ⟨n, rfl, hn1, hn2, hb⟩; have HB3 := ax (below_step HB2.out hb); have HN3 := ax (And.intro hn1 hn2); clear hb hn1 hn2))
   have hd3 := below_drew1 HB3.out
   have hx3 := (hd3.block x (blk_lt HQ.out.2.1)).trans HQ.out.2.1
   have hsn3 := (hd3.block sb (blk_lt HQ.out.2.2.1)).trans HQ.out.2.2.1
   have hw3 := HQ.out.2.2.2.below hd3
   have HS3 := ax (show w3.drew.cell? ⟨sb, 5, none⟩ = some (.pointer (some ⟨g, 0, none⟩)) ∧ w3.drew.cell? ⟨x, 0, none⟩ = some (.int .u16 num) from ⟨blk_cell hsn3 5, blk_cell hx3 0⟩)
   have HWS := ax (wset_calls hw3 HJ.out.2.1 HJ.out.2.2.2.2.1 HJ.out.2.2.2.2.2.1 HJ.out.2.2.2.2.2.2 (n := n) ⟨HN3.out.1, by have := HN3.out.2; omega⟩)
   have HW3 := ax hw3
   have HD3 := ax hd3
   clear hx3 hsn3 hd3 hw3 hcx
   refine start_ (n := 10) (S := (fun w' => w'.cell? ⟨sb, 5, none⟩ = some (.pointer (some ⟨g, 0, none⟩)) ∧ w'.cell? ⟨x, 0, none⟩ = some (.int .u16 num))) (ds := [9]) #[false, false, false, false, false, false, false, false, false, false] kr rfl rfl HS3.out (fun hHeld => ?_)
   refine with_tabW stry11.tab stry11.bits (fun HT_ HW_ => ?_)
   refine pu_ 0 60 HT_ ?_; refine pu_ 1 61 HT_ ?_; refine pu_ 2 62 HT_ ?_; refine tk_ 3 63 HT_ HW_ hHeld ?_; refine pu_ 4 64 HT_ ?_; refine pu_ 5 65 HT_ ?_; refine pu_ 6 66 HT_ ?_; refine tk_ 7 67 HT_ HW_ hHeld ?_; refine pu_ 8 68 HT_ ?_
   refine last_ (i := 9) (N := some 69) #[true, true, true, true, true, true, true, true, true, true] rfl rfl (one_of HT_.out kr) (by decide) (fun K hK => ?_)
   refine goes_ Tryz.func69 kr rfl #[.pointer (some ⟨g, 0, none⟩), .int .u16 num, .int .i64 n] (by rfl) rfl rfl gs_ ?_
   refine HWS.out.mono ?_
   rintro e w4 ⟨rfl, V4, hw4, hg4, hk4⟩
   have H4 := ax (And.intro hw4 (And.intro hg4 hk4))
   clear hw4 hg4 hk4
   refine ⟨_, rfl, ?_⟩
   refine hK.out _ _ ?_
   clear hK K
   refine norm_ (a' := ?_) ?_ ?_
   rotate_left
   ·show Act.put _ (some 69) _ = _
    simp only [Act.put, List.setIfInBounds_toArray, List.set_cons_zero, List.set_cons_succ, i64_w, i32_w]
    rfl
   refine done_ (done_of HT_.out kr) ?_
   clear hHeld HT_ HW_
   go_wp2_with fail
   have hrs : (Tryz.f34).results = #[.tmp 4] := by kernel_rfl
   refine bodyPost_ret (results_tmp hrs _ _ _) rfl ?_
   have hu3 := Kd.R_below (Kd.R_below HU.out HB3.out) (below_drew1 (Below.refl _ w3))
   have h54 : Same5 w3.drew w4 := Same5.of_keep H4.out.2.2 (fun k cs hk hc => HW3.out.typed hc (by decide) (by decide) hk)
   have h5r : Same5 wr w4 := Same5.trans (fun k cs hk => HD3.out.block k (blk_lt hk)) h54
   have hq3 := (HD3.out.block q (blk_lt HQ.out.1)).trans HQ.out.1
   have hsz : w.heap.size ≤ w3.drew.heap.size := Nat.le_trans H1.out.2.2.2.2.2.2.size (Nat.le_trans HB.out.size HD3.out.size)
   refine ⟨_, es, V4, n, s', w1.heap.size, rfl, H1.out.2.2.2.2.2.2.size, ?_, ?_, by rw [HIM.out, HML.out.1]; exact HML.out.2, fun e he => (HE.out.2 e he).same h5r, H4.out.2.2.at hq3 (HW3.out.typed hq3 (by decide) (by decide)), H1.out.2.2.2.2.2.1, HN3.out, H4.out.1, fun k hk => ?_, ?_⟩
   ·refine R_keepS hu3 (fun k hk => H4.out.2.2.block k (Kd.R_lt hu3 k hk) ?_)
    obtain ⟨cs, hc⟩ := Kd.R_typed hu3 k hk
    exact HW3.out.typed hc (by decide) (by decide)
   ·intro e
    exact H1.out.2.1 (List.length_eq_zero_iff.1 (by rw [← HML.out.1, ← HIM.out, e]; rfl))
   ·rcases H4.out.2.1 k hk with e | e
    ·exact .inl e
    ·exact .inr (Nat.le_trans hsz e)
   ·exact (H1.out.2.2.2.2.2.2.mono (fun k _ e => .inl e)).seq ((Keep.of_below (below_step HB.out HD3.out)).seq (H4.out.2.2.mono (fun k _ e => .inr e)))
-- YtajiggmeappfaaaGreatDoorPSKept
abbrev encP (b : Nat) : Value := .pointer (some ⟨b, 0, none⟩)
abbrev kPt : Kd Nat := Kd.scalar encP (fun _ => rfl)
structure KR (w : World) (gk off cap : Nat) (L : List Nat) : Prop where
 blk : ∃ cs, w.heap[gk]? = some (.cells cs 93 (0, 0))
 cap_ : L.length ≤ cap
 few : L.length ≤ 100
 at_ : ∀ i (h : i < L.length), w.cell? ⟨gk, off + i, none⟩ = some (encP L[i])
abbrev kv (gk off cap : Nat) (L : List Nat) : Value := .slice (some ⟨gk, off, none⟩) L.length cap
theorem KR.keep {w w' : World} {gk off cap : Nat} {L : List Nat} (h : KR w gk off cap L) (hb : w'.heap[gk]? = w.heap[gk]?) : KR w' gk off cap L := by
 obtain ⟨cs, hc⟩ := h.blk
 exact ⟨⟨cs, hb.trans hc⟩, h.cap_, h.few, fun i hi => (World.cell?_of_block (a := ⟨gk, off + i, none⟩) hb).trans (h.at_ i hi)⟩
theorem KR.tail {w : World} {gk off cap x : Nat} {L : List Nat} (h : KR w gk off cap (x :: L)) : KR w gk (off + 1) (cap - 1) L := by
 refine ⟨h.blk, by have := h.cap_; simp at this; omega, by have := h.few; simp at this; omega, fun i hi => ?_⟩
 have := h.at_ (i + 1) (by simp; omega)
 rw [show off + (i + 1) = off + 1 + i by omega] at this
 simpa using this
theorem kept_calls {w : World} {sb gk off cap g : Nat} {base : Int} {L : List Nat} {lv rn : Int} (h : SNB w sb base (kv gk off cap L) g lv rn) :
  Calls Tryz.prog 10 #[.pointer (some ⟨sb, 0, none⟩)] w fun e w' => e = .returned (.int .i64 (L.length : Int)) ∧ Below w.heap.size w w' := by
 have hc : w.cell? ⟨sb, 4, none⟩ = some (kv gk off cap L) := blk_cell h 4
 obtain ⟨n, hn⟩ : ∃ n, n = L.length := ⟨_, rfl⟩
 rw [kv, ← hn] at hc
 rw [← hn]
 clear h hn
 go_enter Tryz.func10, Tryz.ntmps10
 go_wp2_with fail
 go_ret
 exact ⟨rfl, Below.refl _ _⟩
theorem sbase_calls {w : World} {sb g : Nat} {base : Int} {kept : Value} {lv rn : Int} (h : SNB w sb base kept g lv rn) :
  Calls Tryz.prog 17 #[.pointer (some ⟨sb, 0, none⟩)] w fun e w' => e = .returned (.int .u16 base) ∧ Below w.heap.size w w' := by
 have hc : w.cell? ⟨sb, 3, none⟩ = some (.int .u16 base) := blk_cell h 3
 clear h
 go_enter Tryz.func17, Tryz.ntmps17
 go_wp2_with fail
 go_ret
 exact ⟨rfl, Below.refl _ _⟩
-- YtajiggmeappfaaaGreatDoorPSUnder
theorem pt_info : (Tryz.prog.info? 93).map (fun i => (i.zero, i.size, i.bytes)) = some (some (.pointer none), 1, 8) := by kernel_rfl
def under2.T : Bool × List (List Nat × List Nat) := (true, [([], []), ([0], [0]), ([1], [1]), ([2], [2]), ([], []), ([4], [4]), ([5], [5]), ([6], [6]), ([7], [7]), ([], []), ([9], [9]), ([10], [10]), ([11], [11]), ([12], [12]), ([8, 13], [8, 13]), ([3, 14], [3, 14]), ([15], [15]), ([], [])])
def under2.B : List Nat := [0, 1, 3, 7, 0, 16, 48, 112, 240, 0, 512, 1536, 3584, 7680, 16368, 32767, 65535, 0]
theorem under2.tab : rtab .any (opsOf Tryz.f31 2) = under2.T := by kernel_rfl
theorem under2.bits : waitsOk under2.T.2 under2.B = true := by kernel_rfl
theorem under_calls {w : World} {sb gk off cap g : Nat} {base : Int} {L : List Nat} {lv rn : Int} (h : SNB w sb base (kv gk off cap L) g lv rn) (hk : KR w gk off cap L) (ack : Nat → Bool) (hx : ∀ x ∈ L, w.cell? ⟨x, 7, none⟩ = some (.bool (ack x))) :
  Calls Tryz.prog 31 #[.pointer (some ⟨sb, 0, none⟩)] w fun e w' => ∃ v : Value, e = .returned v ∧ Kd.R kPt 93 w' w.heap.size (fun _ => True) v ((L.take 3).filter fun x => !ack x) ∧ Below w.heap.size w w' := by
 obtain ⟨n, hn⟩ : ∃ n, n = L.length := ⟨_, rfl⟩
 have HS := ax (show w.drew.cell? ⟨sb, 4, none⟩ = some (.slice (some ⟨gk, off, none⟩) n cap) ∧ w.drew.cell? ⟨sb, 0, none⟩ = some (.int .i64 3) from ⟨by rw [hn]; exact blk_cell h 4, blk_cell h 0⟩)
 have HK := ax (And.intro hk hx)
 have HN := ax hn
 have hcap : n ≤ cap := by rw [hn]; exact hk.cap_
 have hfew : n ≤ 100 := by rw [hn]; exact hk.few
 obtain ⟨m, hm, hmn, hm3⟩ : ∃ m : Nat, (if (3 : Int) < (n : Int) then (3 : Int) else (n : Int)) = (m : Int) ∧ m ≤ n ∧ m = min 3 n := ⟨min 3 n, by split <;> omega, by omega, rfl⟩
 have HM := ax hm3
 have hmc : (m : Int) ≤ (cap : Int) := by omega
 have hm0 : (0 : Int) ≤ (m : Int) := by omega
 clear h hk hx hn hm3
 go_enter Tryz.func31, Tryz.ntmps31
 go_wp2_with fail
 refine start_ (n := 18) (S := (fun w' => w'.cell? ⟨sb, 4, none⟩ = some (.slice (some ⟨gk, off, none⟩) n cap) ∧ w'.cell? ⟨sb, 0, none⟩ = some (.int .i64 3))) (ds := []) #[false, false, false, false, false, false, false, false, false, false, false, false, false, false, false, false, false, false] kr rfl rfl HS.out (fun hHeld => ?_)
 refine with_tabW under2.tab under2.bits (fun HT_ HW_ => ?_)
 refine pu_ 0 6 HT_ ?_; refine pu_ 1 7 HT_ ?_; refine pu_ 2 8 HT_ ?_; refine tk_ 3 9 HT_ HW_ hHeld ?_; refine pu_ 4 10 HT_ ?_; refine pu_ 5 11 HT_ ?_; refine pu_ 6 12 HT_ ?_; refine tk_ 7 13 HT_ HW_ hHeld ?_; refine pu_ 8 14 HT_ ?_; refine pu_ 9 15 HT_ ?_; refine pu_ 10 16 HT_ ?_; refine pu_ 11 17 HT_ ?_; refine pu_ 12 18 HT_ ?_; refine tk_ 13 19 HT_ HW_ hHeld ?_; refine pu_ 14 20 HT_ ?_; refine pu_ 15 21 HT_ ?_; refine pu_ 16 22 HT_ ?_; refine pu_ 17 23 HT_ ?_
 refine done_ (done_of HT_.out kr) ?_
 clear hHeld HT_ HW_
 have HB0 := ax (below_drew1 (Below.refl w.heap.size w))
 clear hm HS
 go_wp2_with fail
 go_loopw [23, 3] (fun v23 v3 wr => ∃ (i : Nat), v23 = .int .i64 (i : Int) ∧ i ≤ m ∧ Aside0 (Kd.R kPt 93 wr w.heap.size (fun _ => True) v3 ((L.take i).filter fun x => !ack x)) ∧ Aside0 (Below w.heap.size w wr)) (fun v23 _ _ => m - (intOf v23).toNat)
 case atStart => exact ⟨0, by simp, by omega, ⟨Kd.R_nil _ _ _ _ _⟩, HB0⟩
 case round =>
  clear HB0
  obtain ⟨i, rfl, hi, HU, HB⟩ := hrel
  by_cases hlt : i < m
  ·have hlb : decide ((i : Int) < (m : Int)) = true := decide_eq_true (by omega)
   have hi0 : (0 : Int) ≤ (i : Int) := by omega
   have hin : (i : Int) < (m : Int) := by omega
   have hil : i < L.length := by rw [← HN.out]; omega
   obtain ⟨x, hx⟩ : ∃ x, x = L[i] := ⟨_, rfl⟩
   obtain ⟨cs, hgk⟩ := HK.out.1.blk
   have hcx : wr.cell? ⟨gk, off + i, none⟩ = some (.pointer (some ⟨x, 0, none⟩)) := (HB.out.cell (p := ⟨gk, off + i, none⟩) (blk_lt hgk)).trans (by rw [hx]; exact HK.out.1.at_ i hil)
   have hax0 := HK.out.2 x (by rw [hx]; exact List.getElem_mem _)
   have hax : wr.cell? ⟨x, 7, none⟩ = some (.bool (ack x)) := (HB.out.cell (p := ⟨x, 7, none⟩) (World.block_lt_of_cell? w _ hax0)).trans hax0
   have HF := ax (show (L.take (i + 1)).filter (fun x => !ack x) = (L.take i).filter (fun x => !ack x) ++ (if ack x then [] else [x]) from by
    rw [List.take_succ_eq_append_getElem hil, List.filter_append, ← hx]
    cases hz : ack x <;> simp [hz])
   have hln := ax (show ((L.take i).filter fun x => !ack x).length ≤ 100 from by
    have h1 := List.length_filter_le (fun x => !ack x) (L.take i)
    have h2 := List.length_take_le i L
    omega)
   obtain ⟨z, hz⟩ : ∃ z, z = ack x := ⟨_, rfl⟩
   rw [← hz] at hax HF
   clear hax0 hx hgk hil hz
   cases z with
   | true =>
    go_wp2_with fail
    go_roundw
    case rel => exact ⟨i + 1, by simp, by omega, ⟨by rw [HF.out]; simpa using HU.out⟩, HB⟩
    case measure => simp [intOf]; omega
   | false =>
    go_wp2_with ((with_reducible refine gate_builtin (b := .append) (xs := #[.tmp 32, .tmp 34]) rfl ?_); at_builtin; refine Kd.R_append kPt (w0 := w) w.heap.size rfl (.tmp 32) (.tmp 34) 78 93 (.pointer none) 8 rfl Tryz.underlying78 pt_info rfl (by decide) (by decide) u3 ((L.take i).filter fun x => !ack x) x [encP x] (fun _ => True) (fun _ => False) rfl (by first | rfl | (go_simp; done) | (go_simp; rfl)) rfl (fun _ hk => hk.elim) (fun _ _ => trivial) HU.out HB.out HB.out.size (by have := hln.out; omega) ?_; intro v1 w3 ho hb hg hat; have HU3 := ax ho; have HB3 := ax hb; clear ho hb hg hat)
    go_roundw
    case rel => exact ⟨i + 1, by simp, by omega, ⟨by rw [HF.out]; exact HU3.out⟩, HB3⟩
    case measure => simp [intOf]; omega
  ·have hlb : decide ((i : Int) < (m : Int)) = false := decide_eq_false (by omega)
   go_wp2_with fail
   have hrs : (Tryz.f31).results = #[.tmp 2] := by kernel_rfl
   refine bodyPost_ret (results_tmp hrs _ _ _) rfl ?_
   refine ⟨_, rfl, ?_, HB.out⟩
   have e : L.take 3 = L.take i := by
    have h1 := HM.out
    have h2 := HN.out
    have h3 : i = m := by omega
    by_cases e3 : 3 ≤ n
    ·rw [h3, h1, Nat.min_eq_left e3]
    ·rw [List.take_of_length_le (by omega), List.take_of_length_le (by omega)]
   rw [e]
   exact HU.out
-- YtajiggmeappfaaaGreatDoorPSSeq
def nm (first : Int) (i : Nat) : Int := (first + i) % 65536
theorem nm_rng (first : Int) (i : Nat) : 0 ≤ nm first i ∧ nm first i ≤ 65535 := by unfold nm; omega
theorem nm_inj {first : Int} {i j : Nat} (hi : i ≤ 100) (hj : j ≤ 100) (h : nm first i = nm first j) : i = j := by unfold nm at h; omega
theorem ahead_calls (a b : Int) (w : World) : Calls Tryz.prog 91 #[.int .u16 a, .int .u16 b] w fun e w' => e = .returned (.int .i64 ((b - a) % 65536)) ∧ Below w.heap.size w w' := by
 go_enter Tryz.func91, Tryz.ntmps91
 go_wp2_with fail
 go_ret
 exact ⟨by first | rfl | (simp [IntKind.wrap, IntKind.signed, IntKind.bits]; done) | (simp [IntKind.wrap, IntKind.signed, IntKind.bits]; (try unfold wrap64); omega), Below.refl _ _⟩
theorem before_calls (a b : Int) (w : World) : Calls Tryz.prog 81 #[.int .u16 a, .int .u16 b] w fun e w' => e = .returned (.bool (decide (1 ≤ (b - a) % 65536) && decide ((b - a) % 65536 < 32768))) ∧ Below w.heap.size w w' := by
 obtain ⟨d, hd⟩ : ∃ d, d = (b - a) % 65536 := ⟨_, rfl⟩
 have H := ax (ahead_calls a b)
 rw [← hd] at H ⊢
 clear hd
 go_enter Tryz.func81, Tryz.ntmps81
 go_wp2_with (go_at_call 91; refine (H.out _).mono ?_; rintro e w1 ⟨rfl, hb⟩; have HB1 := ax hb; clear hb)
 all_goals
  go_ret
  exact ⟨by first | (simp_all; done) | (simp_all; intro _; omega) | (simp_all; omega), HB1.out⟩
theorem before_nm (first : Int) (i j : Nat) (hi : i ≤ 100) (hj : j ≤ 100) : (decide (1 ≤ (nm first j - nm first i) % 65536) && decide ((nm first j - nm first i) % 65536 < 32768)) = decide (i < j) := by
 unfold nm
 by_cases h : i < j
 ·rw [decide_eq_true h, decide_eq_true (by omega), decide_eq_true (by omega)]; rfl
 ·rw [decide_eq_false h]
  by_cases e : i = j
  ·subst e; rw [decide_eq_false (by omega)]; rfl
  ·rw [decide_eq_false (p := _ < (32768 : Int)) (by omega), Bool.and_false]
theorem ahead_nm (first : Int) (i j : Nat) (h : i ≤ j) (hj : j ≤ 100) : (nm first j - nm first i) % 65536 = (j : Int) - i := by unfold nm; omega
-- YtajiggmeappfaaaGreatDoorPSFar
theorem beyond_calls {w : World} {sb g : Nat} {first : Int} {kept : Value} {lv rn : Int} {lo i : Nat} (h : SNB w sb (nm first lo) kept g lv rn) (hi : i ≤ 100) (hlo : lo ≤ 100) (most : Int) (hm : (i : Int) - lo ≤ most) :
  Calls Tryz.prog 94 #[.pointer (some ⟨sb, 0, none⟩), .int .u16 (nm first i), .int .i64 most] w fun e w' => e = .returned (.bool false) ∧ Below w.heap.size w w' := by
 have hc : w.cell? ⟨sb, 3, none⟩ = some (.int .u16 (nm first lo)) := blk_cell h 3
 have HS := ax h
 have hbe := before_calls (nm first i) (nm first lo)
 rw [before_nm first i lo hi hlo] at hbe
 have HB := ax hbe
 clear h hbe
 by_cases c : i < lo
 ·rw [decide_eq_true c] at HB
  go_enter Tryz.func94, Tryz.ntmps94
  go_wp2_with (go_at_call 81; refine (HB.out _).mono ?_; rintro e w1 ⟨rfl, hb⟩; have HB1 := ax hb; clear hb)
  go_ret
  exact ⟨rfl, HB1.out⟩
 ·rw [decide_eq_false c] at HB
  have hah := ahead_calls (nm first lo) (nm first i)
  rw [ahead_nm first lo i (by omega) hi] at hah
  obtain ⟨d, hd⟩ : ∃ d, d = (i : Int) - lo := ⟨_, rfl⟩
  rw [← hd] at hah hm
  have HA := ax hah
  have hdm : ¬ d > most := by omega
  clear hah hd c hm
  go_enter Tryz.func94, Tryz.ntmps94
  go_wp2_with (first
   | (go_at_call 81; refine (HB.out _).mono ?_; rintro e w1 ⟨rfl, hb⟩; have HB1 := ax hb; have hc1 := blk_cell ((hb.block sb (blk_lt HS.out)).trans HS.out) 3; clear hb)
   | (go_at_call 91; refine (HA.out _).mono ?_; rintro e w2 ⟨rfl, hb⟩; have HB2 := ax (below_step HB1.out hb); clear hb))
  go_ret
  exact ⟨by simp_all, HB2.out⟩
-- YtajiggmeappfaaaGreatDoorPWSort
theorem nan_calls (x : Int) (w : World) : Calls Tryz.prog 205 #[.int .u16 x] w fun e w' => e = .returned (.bool false) ∧ Below w.heap.size w w' := by
 go_enter Tryz.func205, Tryz.ntmps205
 go_wp2_with fail
 go_ret
 exact ⟨rfl, Below.refl _ _⟩
theorem less_calls (x y : Int) (w : World) : Calls Tryz.prog 165 #[.int .u16 x, .int .u16 y] w fun e w' => e = .returned (.bool (decide (x < y))) ∧ Below w.heap.size w w' := by
 go_enter Tryz.func165, Tryz.ntmps165
 go_wp2_with (go_at_call 205; refine (nan_calls x _).mono ?_; rintro e w1 ⟨rfl, hb⟩; have HB1 := ax hb; clear hb)
 go_ret
 exact ⟨by simp, HB1.out⟩
theorem perm_swap {M L : List Int} (h : M.Perm L) {k : Nat} (hk : k + 1 < M.length) : ((M.set (k + 1) (M.getD k 0)).set k (M.getD (k + 1) 0)).Perm L := by
 have e1 : M.getD k 0 = M[k] := by rw [List.getD_eq_getElem?_getD, List.getElem?_eq_getElem (by omega)]; rfl
 have e2 : M.getD (k + 1) 0 = M[k + 1] := by rw [List.getD_eq_getElem?_getD, List.getElem?_eq_getElem (by omega)]; rfl
 rw [e1, e2]
 exact (List.set_set_perm hk (by omega)).trans h
def isort4a.T : Bool × List (List Nat × List Nat) := (true, [([], []), ([], []), ([0, 1], [0, 1]), ([2], [2]), ([3], [3]), ([3], [3]), ([4, 5, 3], [3, 4, 5]), ([6, 3], [3, 6]), ([3], [3]), ([3], [3]), ([9, 3], [3, 9]), ([8, 10, 3], [3, 8, 10]), ([11, 3], [3, 11]), ([7, 12, 3, 3], [3, 7, 12]), ([3, 13], [3, 13])])
def isort4a.B : List Nat := [0, 0, 3, 7, 15, 15, 63, 127, 15, 15, 527, 1807, 3855, 8191, 16383]
theorem isort4a.tab : rtab .any (opsOf Tryz.f159 4) = isort4a.T := by kernel_rfl
theorem isort4a.bits : waitsOk isort4a.T.2 isort4a.B = true := by kernel_rfl
def isort4b.T : Bool × List (List Nat × List Nat) := (true, [([], []), ([], []), ([0, 1], [0, 1]), ([2], [2]), ([3], [3]), ([3], [3]), ([4, 5, 3], [3, 4, 5]), ([6, 3], [3, 6]), ([3], [3]), ([3], [3]), ([9, 3], [3, 9]), ([8, 10, 3], [3, 8, 10]), ([11, 3], [3, 11]), ([7, 12, 3, 3], [3, 7, 12]), ([3, 13], [3, 13])])
def isort4b.B : List Nat := [0, 0, 3, 7, 15, 15, 63, 127, 15, 15, 527, 1807, 3855, 8191, 16383]
theorem isort4b.tab : rtab .any (opsOf Tryz.f159 4) = isort4b.T := by kernel_rfl
theorem isort4b.bits : waitsOk isort4b.T.2 isort4b.B = true := by kernel_rfl
def isort6.T : Bool × List (List Nat × List Nat) := (true, [([], []), ([], []), ([], []), ([], []), ([3], [3]), ([], []), ([], []), ([6], [6]), ([5, 7], [5, 7]), ([8], [8]), ([], []), ([], []), ([10, 11], [10, 11]), ([12], [12]), ([0, 1, 0, 1, 5, 6, 7, 8, 9, 13], [0, 1]), ([14, 9, 0, 1, 5, 6, 7, 8, 9, 13], [9, 14]), ([2, 4, 0, 1, 2, 3, 4, 5, 6, 7, 8, 9, 10, 11, 12, 13, 14, 15], [2, 4]), ([16, 13, 15, 0, 1, 2, 3, 4, 5, 6, 7, 8, 9, 10, 11, 12, 13, 14, 15], [13, 16])])
def isort6.B : List Nat := [0, 0, 0, 0, 8, 0, 0, 64, 224, 480, 0, 0, 3072, 7168, 16355, 32739, 65535, 131071]
theorem isort6.tab : rtab .any (opsOf Tryz.f159 6) = isort6.T := by kernel_rfl
theorem isort6.bits : waitsOk isort6.T.2 isort6.B = true := by kernel_rfl
theorem isort_calls {w : World} {base gr n cap : Nat} {ok : Nat → Prop} {L : List Int} (hr : Kd.R (Kd.int .u16) 31 w base ok (.slice (some ⟨gr, 0, none⟩) n cap) L) (hn5 : n ≤ 5000) :
  Calls Tryz.prog 159 #[.slice (some ⟨gr, 0, none⟩) n cap, .int .i64 0, .int .i64 (n : Int)] w fun e w' =>
   ∃ M, e = .returned (.tuple #[]) ∧ M.Perm L ∧ Kd.R (Kd.int .u16) 31 w' base ok (.slice (some ⟨gr, 0, none⟩) n cap) M ∧ w.grownBy w' (some gr) := by
 have HR := ax hr
 have HL := ax ((Kd.R_reads' hr).1)
 clear hr
 go_enter Tryz.func159, Tryz.ntmps159
 go_wp2_with fail
 go_loopw [6] (fun v6 wr => ∃ (i : Nat) (M : List Int), v6 = .int .i64 (i : Int) ∧ i ≤ n + 1 ∧ Aside0 (M.Perm L) ∧ Aside0 (Kd.R (Kd.int .u16) 31 wr base ok (.slice (some ⟨gr, 0, none⟩) n cap) M) ∧ Aside0 (w.grownBy wr (some gr))) (fun v6 _ => n + 1 - (intOf v6).toNat)
 case atStart => exact ⟨1, L, by simp, by omega, ⟨List.Perm.refl _⟩, HR, ⟨grownBy_below (Below.refl _ _)⟩⟩
 case round =>
  obtain ⟨i, M, rfl, hi, HP, HRM, HG⟩ := hrel
  by_cases hlt : i < n
  ·have hlb : decide ((i : Int) < (n : Int)) = true := decide_eq_true (by omega)
   go_wp2_with fail
   go_loopw [7] (fun v7 wr => ∃ (j : Nat) (M : List Int), v7 = .int .i64 (j : Int) ∧ j ≤ i ∧ Aside0 (M.Perm L) ∧ Aside0 (Kd.R (Kd.int .u16) 31 wr base ok (.slice (some ⟨gr, 0, none⟩) n cap) M) ∧ Aside0 (w.grownBy wr (some gr))) (fun v7 _ => (intOf v7).toNat)
   case atStart => exact ⟨i, M, by simp, by omega, HP, HRM, HG⟩
   case round =>
    clear HP HRM HG hlb
    obtain ⟨j, M, rfl, hj, HP, HRM, HG⟩ := hrel
    cases j with
    | zero =>
     rw [show ((0 : Nat) : Int) = 0 from rfl]
     have HRD := ax (Kd.R_drew HRM.out)
     have HGD := ax (grownBy_trans HG.out (grownBy_below (below_drew1 (Below.refl _ wr))))
     go_wp2_with fail
     refine start_ (n := 15) (S := fun _ => True) (ds := []) #[false, false, false, false, false, false, false, false, false, false, false, false, false, false, false] kr rfl rfl trivial (fun hHeld => ?_)
     refine with_tabW isort4a.tab isort4a.bits (fun HT_ HW_ => ?_)
     refine pu_ 0 16 HT_ ?_; refine pu_ 1 17 HT_ ?_; refine pu_ 2 18 HT_ ?_; refine pu_ 3 19 HT_ ?_; refine pn_ 4 20 HT_ ?_; refine pn_ 5 21 HT_ ?_; refine pn_ 6 22 HT_ ?_; refine pn_ 7 23 HT_ ?_; refine pn_ 8 24 HT_ ?_; refine pn_ 9 25 HT_ ?_; refine pn_ 10 26 HT_ ?_; refine pn_ 11 27 HT_ ?_; refine pn_ 12 28 HT_ ?_; refine pn_ 13 29 HT_ ?_; refine pu_ 14 30 HT_ ?_
     refine done_ (done_of HT_.out kr) ?_
     go_wp2_with fail
     go_roundw
     case rel => exact ⟨i + 1, M, by simp, by omega, HP, HRD, HGD⟩
     case measure => simp [intOf]; omega
    | succ k =>
     have hlen : M.length = n := by rw [HP.out.length_eq]; exact HL.out.symm
     have hkn : k + 1 < n := by omega
     have HPM := ax (perm_swap HP.out (k := k) (by omega))
     obtain ⟨x, hx⟩ : ∃ x, x = M.getD (k + 1) 0 := ⟨_, rfl⟩
     obtain ⟨y, hy⟩ : ∃ y, y = M.getD k 0 := ⟨_, rfl⟩
     have HRD := ax (Kd.R_drew HRM.out)
     have HGD := ax (grownBy_trans HG.out (grownBy_below (below_drew1 (Below.refl _ wr))))
     have hcx := (R_put1 HRD.out (k + 1) hkn 0).2.1
     have hcy := (R_put1 HRD.out k (by omega) 0).2.1
     rw [← hx] at hcx HPM
     rw [← hy] at hcy HPM
     have HS := ax (And.intro hcx hcy)
     have hk1 : ((k + 1 : Nat) : Int) - 1 = (k : Int) := by omega
     have hk2 : decide ((0 : Int) < ((k + 1 : Nat) : Int)) = true := decide_eq_true (by omega)
     have hk3 : (k : Int) + 1 < (n : Int) := by omega
     have hk4 : (k : Int) < (n : Int) := by omega
     have hk5 : (0 : Int) ≤ (k : Int) + 1 := by omega
     have hk7 : (0 : Int) ≤ (k : Int) := by omega
     have hkw : wrap64 (k : Int) = (k : Int) := by unfold wrap64; omega
     have HX := ax (And.intro hx hy)
     clear hcx hcy hx hy
     go_wp2_with fail
     refine start_ (n := 15) (S := (fun w' => w'.cell? ⟨gr, k + 1, none⟩ = some (.int .u16 x) ∧ w'.cell? ⟨gr, k, none⟩ = some (.int .u16 y))) (ds := [13]) #[false, false, false, false, false, false, false, false, false, false, false, false, false, false, false] kr rfl rfl HS.out (fun hHeld => ?_)
     refine with_tabW isort4b.tab isort4b.bits (fun HT_ HW_ => ?_)
     refine pu_ 0 16 HT_ ?_; refine pu_ 1 17 HT_ ?_; refine pu_ 2 18 HT_ ?_; refine pu_ 3 19 HT_ ?_; refine pu_ 4 20 HT_ ?_; refine pu_ 5 21 HT_ ?_; refine pu_ 6 22 HT_ ?_; refine tk_ 7 23 HT_ HW_ hHeld ?_; refine pu_ 8 24 HT_ ?_; refine pu_ 9 25 HT_ ?_; refine pu_ 10 26 HT_ ?_; refine pu_ 11 27 HT_ ?_; refine tk_ 12 28 HT_ HW_ hHeld ?_
     refine last_ (i := 13) (N := some 29) #[true, true, true, true, true, true, true, true, true, true, true, true, true, true, false] rfl rfl (one_of HT_.out kr) (by decide) (fun K hK => ?_)
     refine goes_ Tryz.func165 kr rfl #[.int .u16 x, .int .u16 y] (by rfl) rfl rfl gs_ ?_
     refine (less_calls x y _).mono ?_; rintro e w1 ⟨rfl, hb⟩
     have HR1 := ax (Kd.R_below HRD.out hb)
     have HG1 := ax (grownBy_trans HGD.out (grownBy_below hb))
     clear hb
     refine ⟨_, rfl, ?_⟩
     refine hK.out _ _ ?_
     clear hK K
     refine norm_ (a' := ?_) ?_ ?_
     rotate_left
     ·show Act.put _ (some 29) _ = _
      simp only [Act.put, List.setIfInBounds_toArray, List.set_cons_zero, List.set_cons_succ, i64_w, i32_w]
      rfl
     refine pu_ 14 30 HT_ ?_
     refine done_ (done_of HT_.out kr) ?_
     obtain ⟨z, hz⟩ : ∃ z, z = decide (x < y) := ⟨_, rfl⟩
     rw [← hz]
     clear hz hHeld HT_ HW_
     cases z with
     | false =>
      go_wp2_with fail
      go_roundw
      case rel => exact ⟨i + 1, M, by simp, by omega, HP, HR1, HG1⟩
      case measure => simp [intOf]; omega
     | true =>
      have hp1 := R_put1 HR1.out (k + 1) hkn y
      have hp2 := R_put1 hp1.1.1 k (by omega) x
      have HP2 := ax (And.intro hp1 hp2)
      have HR2 := ax (Kd.R_drew HR1.out)
      have HS1 := ax (show w1.drew.cell? ⟨gr, k + 1, none⟩ = some (.int .u16 x) ∧ w1.drew.cell? ⟨gr, k, none⟩ = some (.int .u16 y) from by
       have e1 := (R_put1 HR2.out (k + 1) hkn 0).2.1
       have e2 := (R_put1 HR2.out k (by omega) 0).2.1
       rw [← HX.out.1] at e1; rw [← HX.out.2] at e2
       exact ⟨e1, e2⟩)
      clear hp1 hp2
      go_wp2_with fail
      refine start_ (n := 18) (S := (fun w' => w'.cell? ⟨gr, k + 1, none⟩ = some (.int .u16 x) ∧ w'.cell? ⟨gr, k, none⟩ = some (.int .u16 y))) (ds := [15, 17]) #[false, false, false, false, false, false, false, false, false, false, false, false, false, false, false, false, false, false] kr rfl rfl HS1.out (fun hHeld => ?_)
      refine with_tabW isort6.tab isort6.bits (fun HT_ HW_ => ?_)
      refine pu_ 0 33 HT_ ?_; refine pu_ 1 34 HT_ ?_; refine pu_ 2 35 HT_ ?_; refine pu_ 3 36 HT_ ?_; refine pu_ 4 37 HT_ ?_; refine pu_ 5 38 HT_ ?_; refine pu_ 6 39 HT_ ?_; refine pu_ 7 40 HT_ ?_; refine pu_ 8 41 HT_ ?_; refine tk_ 9 42 HT_ HW_ hHeld ?_; refine pu_ 10 43 HT_ ?_; refine pu_ 11 44 HT_ ?_; refine pu_ 12 45 HT_ ?_; refine tk_ 13 46 HT_ HW_ hHeld ?_; refine pu_ 14 47 HT_ ?_
      refine last_ (i := 15) (N := none) #[true, true, true, true, true, true, true, true, true, true, true, true, true, true, true, true, false, false] rfl rfl (one_of HT_.out kr) (by decide) (fun K hK => ?_)
      rw [if_pos (by rfl)]
      have hpa := R_put1 HR2.out (k + 1) hkn y
      have hca := hpa.2.1
      have hfa := hpa.2.2
      have HRA := ax hpa.1.1
      have HGA := ax hpa.1.2
      unfold Oper.wp
      clear hpa hHeld
      go_simp
      refine hK.out _ _ ?_
      clear hK K
      refine pu_ 16 48 HT_ ?_
      refine last_ (i := 17) (N := none) #[true, true, true, true, true, true, true, true, true, true, true, true, true, true, true, true, true, true] rfl rfl (one_of HT_.out kr) (by decide) (fun K hK => ?_)
      rw [if_pos (by rfl)]
      have hpa := R_put1 HRA.out k (by omega) x
      have hcb := (R_put1 HR1.out k (by omega) 0).2.1
      have hfb := (R_put1 HR1.out k (by omega) 0).2.2
      have HRB := ax hpa.1.1
      have HGB := ax hpa.1.2
      unfold Oper.wp
      clear hpa hca hfa
      go_simp
      refine hK.out _ _ ?_
      clear hK K
      refine done_ (done_of HT_.out kr) ?_
      go_wp2_with fail
      go_roundw
      case rel => exact ⟨k, (M.set (k + 1) y).set k x, by simp, by omega, HPM, ⟨HRB.out⟩, ⟨grownBy_trans HG1.out (grownBy_trans (grownBy_below (below_drew1 (Below.refl _ _))) (grownBy_trans HGA.out HGB.out))⟩⟩
      case measure => simp [intOf]
  ·have hlb : decide ((i : Int) < (n : Int)) = false := decide_eq_false (by omega)
   go_wp2
   first | go_end0 | ((try simp only [Exit.inBlock, Exit.then]); refine bodyPost_ret (results_none rfl _ _ _) rfl ?_)
   exact ⟨M, by simp, HP.out, HRM.out, HG.out⟩
-- YtajiggmeappfaaaGreatDoorPWSort2
theorem len64_calls (n : Nat) (hn : n ≤ 3) (w : World) : Calls Tryz.prog 169 #[.int .u64 (n : Int)] w fun e w' => ∃ r : Int, e = .returned (.int .i64 r) ∧ Below w.heap.size w w' := by
 have h : n = 0 ∨ n = 1 ∨ n = 2 ∨ n = 3 := by omega
 rcases h with rfl | rfl | rfl | rfl
 all_goals
  go_enter Tryz.func169, Tryz.ntmps169
  go_wp2_with fail
  go_ret
  exact ⟨_, rfl, Below.refl _ _⟩
theorem len_calls (n : Nat) (hn : n ≤ 3) (w : World) : Calls Tryz.prog 119 #[.int .u64 (n : Int)] w fun e w' => ∃ r : Int, e = .returned (.int .i64 r) ∧ Below w.heap.size w w' := by
 have H := ax hn
 clear hn
 go_enter Tryz.func119, Tryz.ntmps119
 go_wp2_with (go_at_call 169; refine (len64_calls n H.out _).mono ?_; rintro e w1 ⟨r, rfl, hb⟩; have HB1 := ax hb; clear hb)
 go_ret
 exact ⟨_, rfl, HB1.out⟩
theorem pdq_calls {w : World} {base gr n cap : Nat} {ok : Nat → Prop} {L : List Int} (r : Int) (hr : Kd.R (Kd.int .u16) 31 w base ok (.slice (some ⟨gr, 0, none⟩) n cap) L) (hn5 : n ≤ 3) :
  Calls Tryz.prog 118 #[.slice (some ⟨gr, 0, none⟩) n cap, .int .i64 0, .int .i64 (n : Int), .int .i64 r] w fun e w' =>
   ∃ M, e = .returned (.tuple #[]) ∧ M.Perm L ∧ Kd.R (Kd.int .u16) 31 w' base ok (.slice (some ⟨gr, 0, none⟩) n cap) M ∧ w.grownBy w' (some gr) := by
 have HK := ax (isort_calls hr (by omega))
 clear hr
 go_enter Tryz.func118, Tryz.ntmps118
 go_wp2_with fail
 go_loopw [1, 2, 3, 8, 9] (fun v1 v2 v3 v8 v9 wr => v1 = .int .i64 0 ∧ v2 = .int .i64 (n : Int) ∧ v3 = .int .i64 r ∧ v8 = .bool true ∧ v9 = .bool true ∧ wr = w) (fun _ _ _ _ _ _ => 0)
 case atStart => exact ⟨rfl, rfl, rfl, rfl, rfl, rfl⟩
 case round =>
  obtain ⟨rfl, rfl, rfl, rfl, rfl, rfl⟩ := hrel
  have h12 : decide ((n : Int) ≤ 12) = true := decide_eq_true (by omega)
  go_wp2_with (go_at_call 159; refine HK.out.mono ?_; rintro e w1 ⟨M, rfl, hr⟩; have H1 := ax hr; clear hr)
  first | go_end0 | ((try simp only [Exit.inBlock, Exit.then]); refine bodyPost_ret (results_none rfl _ _ _) rfl ?_)
  exact ⟨M, rfl, H1.out⟩
theorem sort_calls {w : World} {base gr n cap : Nat} {ok : Nat → Prop} {L : List Int} (hr : Kd.R (Kd.int .u16) 31 w base ok (.slice (some ⟨gr, 0, none⟩) n cap) L) (hn5 : n ≤ 3) :
  Calls Tryz.prog 61 #[.slice (some ⟨gr, 0, none⟩) n cap] w fun e w' =>
   ∃ M, e = .returned (.tuple #[]) ∧ M.Perm L ∧ Kd.R (Kd.int .u16) 31 w' base ok (.slice (some ⟨gr, 0, none⟩) n cap) M ∧ w.grownBy w' (some gr) := by
 have HR := ax hr
 have HN := ax hn5
 have hcv : IntKind.u64.wrap (n : Int) = (n : Int) := by rw [IntKind.wrap_u64]; omega
 clear hr
 go_enter Tryz.func61, Tryz.ntmps61
 go_wp2_with (first
  | (go_at_call 119; refine (len_calls n HN.out _).mono ?_; rintro e w1 ⟨r, rfl, hb⟩; have HB1 := ax hb; clear hb)
  | (go_at_call 118; refine (pdq_calls r (Kd.R_below HR.out HB1.out) HN.out).mono ?_; rintro e w2 ⟨M, rfl, hp, hr2, hg⟩; have H2 := ax (And.intro hp (And.intro hr2 (grownBy_trans (grownBy_below HB1.out) hg))); clear hp hr2 hg))
 first | go_end0 | ((try simp only [Exit.inBlock, Exit.then]); refine bodyPost_ret (results_none rfl _ _ _) rfl ?_)
 exact ⟨M, rfl, H2.out⟩
theorem isort0_calls (A : Option Addr) (c : Nat) (w : World) :
  Calls Tryz.prog 159 #[.slice A 0 c, .int .i64 0, .int .i64 0] w fun e w' => e = .returned (.tuple #[]) ∧ Below w.heap.size w w' := by
 go_enter Tryz.func159, Tryz.ntmps159
 go_wp2_with fail
 go_loopw [6] (fun v6 wr => v6 = .int .i64 1 ∧ wr = w) (fun _ _ => 0)
 case atStart => exact ⟨rfl, rfl⟩
 case round =>
  obtain ⟨rfl, rfl⟩ := hrel
  go_wp2_with fail
  first | go_end0 | ((try simp only [Exit.inBlock, Exit.then]); refine bodyPost_ret (results_none rfl _ _ _) rfl ?_)
  exact ⟨rfl, Below.refl _ _⟩
theorem pdq0_calls (A : Option Addr) (c : Nat) (w : World) (r : Int) :
  Calls Tryz.prog 118 #[.slice A 0 c, .int .i64 0, .int .i64 0, .int .i64 r] w fun e w' => e = .returned (.tuple #[]) ∧ Below w.heap.size w w' := by
 go_enter Tryz.func118, Tryz.ntmps118
 go_wp2_with fail
 go_loopw [1, 2, 3, 8, 9] (fun v1 v2 v3 v8 v9 wr => v1 = .int .i64 0 ∧ v2 = .int .i64 0 ∧ v3 = .int .i64 r ∧ v8 = .bool true ∧ v9 = .bool true ∧ wr = w) (fun _ _ _ _ _ _ => 0)
 case atStart => exact ⟨rfl, rfl, rfl, rfl, rfl, rfl⟩
 case round =>
  obtain ⟨rfl, rfl, rfl, rfl, rfl, rfl⟩ := hrel
  go_wp2_with (go_at_call 159; refine (isort0_calls A c _).mono ?_; rintro e w1 ⟨rfl, hb⟩; have H1 := ax hb; clear hb)
  first | go_end0 | ((try simp only [Exit.inBlock, Exit.then]); refine bodyPost_ret (results_none rfl _ _ _) rfl ?_)
  exact ⟨rfl, H1.out⟩
theorem sort0_calls (A : Option Addr) (c : Nat) (w : World) :
  Calls Tryz.prog 61 #[.slice A 0 c] w fun e w' => e = .returned (.tuple #[]) ∧ Below w.heap.size w w' := by
 have hl := len_calls 0 (by omega)
 rw [show ((0 : Nat) : Int) = 0 from rfl] at hl
 have HL := ax hl
 clear hl
 go_enter Tryz.func61, Tryz.ntmps61
 go_wp2_with (first
  | (go_at_call 119; refine (HL.out _).mono ?_; rintro e w1 ⟨r, rfl, hb⟩; have HB1 := ax hb; clear hb)
  | (go_at_call 118; refine (pdq0_calls A c _ r).mono ?_; rintro e w2 ⟨rfl, hb⟩; have H2 := ax (below_step HB1.out hb); clear hb))
 first | go_end0 | ((try simp only [Exit.inBlock, Exit.then]); refine bodyPost_ret (results_none rfl _ _ _) rfl ?_)
 exact ⟨rfl, H2.out⟩
end Go.Proofs.YtajiggmeappfaaaGreatDoor.P
