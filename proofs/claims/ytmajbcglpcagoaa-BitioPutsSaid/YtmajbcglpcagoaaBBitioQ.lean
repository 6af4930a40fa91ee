/- What was put is taken again, in plain words. No condition but bounds. -/
import Derived.Test.YtmajbcglpcagoaaBBitioT
import Derived.Test.YtmajbcglpcagoaaB13
namespace Go.Proofs.Ytmajbcglpcagoaa.B
open Go Go.RowKit Go.Proofs.YtmajbcglpcagoaaW.PrintWords Go.Proofs.YtmajbcglpcagoaaW.PrintLast Go.Proofs.YtmajbcglpcagoaaW.PrintMore
set_option linter.unusedVariables false
set_option linter.unusedSimpArgs false

theorem num_bitL (W : Nat) : ∀ n : Nat, n < 2 ^ W → n < 9223372036854775808 → num (bitL (n : Int) W 0) = n := by
  induction W with
  | zero => intro n hn _; simp [bitL, num]; omega
  | succ W ih =>
    intro n hn h6
    have e := bitL_two n W 1 h6
    rw [show W + 1 = W + 1 from rfl, e]
    have hd : n / 2 ^ 1 < 2 ^ W := by rw [Nat.pow_succ] at hn; omega
    have h1 : bitL ((n % 2 ^ 1 : Nat) : Int) 1 0 = [((n % 2 : Nat) : Int)] := by
      have hm : n % 2 ^ 1 < 9223372036854775808 := by omega
      simp only [bitL, show (1 - 0 : Nat) = 1 from rfl, List.range_one, List.map_cons, List.map_nil]
      rw [bitv_nat _ _ hm]
      simp
    rw [h1, num_snoc, ih _ hd (by omega)]
    omega
theorem shl1 (W : Nat) (h : W ≤ 32) : shl .i64 1 (W : Int) = ((2 ^ W : Nat) : Int) := by
  have all : ∀ s : Fin 33, shl .i64 1 ((s.val : Nat) : Int) = ((2 ^ s.val : Nat) : Int) := by decide +kernel
  exact all ⟨W, by omega⟩
theorem shr_nat (n i : Nat) (h : i ≤ 63) : shr .i64 (n : Int) (i : Int) = ((n / 2 ^ i : Nat) : Int) := by
  unfold shr
  rw [show min ((i : Int)).toNat IntKind.i64.bits = i from by simp [IntKind.bits]; omega]
  rw [show ((2 : Int) ^ i) = ((2 ^ i : Nat) : Int) from by simp]
  exact (Int.natCast_ediv _ _).symm
theorem rput_l0 (n : Nat) (hn : n < 4294967296) (W : Nat) (hW : W ≤ 32) (d : Nat) : ∀ (k : Nat) (acc : List Int), d ≤ W → acc.length + d = W → d < k → acc = bitL (n : Int) W d →
    shuttleref02_Put.l0 k (n : Int) acc ((d : Int) - 1) = some (bitL (n : Int) W 0, 0) := by
  induction d with
  | zero =>
    intro k acc _ hl hk ha
    obtain ⟨k, rfl⟩ := pred hk
    simp only [shuttleref02_Put.l0]
    rw [if_neg (by omega), ha]
  | succ d ih =>
    intro k acc hd hl hk ha
    obtain ⟨k, rfl⟩ := pred hk
    simp only [shuttleref02_Put.l0]
    rw [show (((d + 1 : Nat) : Int) - 1) = (d : Int) by omega, if_pos (by omega), if_pos (by omega), if_pos (by omega), shr_nat n d (by omega), wrap_in (by omega) (by omega)]
    refine ih k _ (by omega) (by rw [List.length_append, List.length_singleton]; omega) (by omega) ?_
    rw [bitL_succ (n : Int) W d (by omega), ← ha, bitv_nat n d (by omega)]
    congr 2
    generalize n / 2 ^ d = q
    rw [Int.tmod_eq_emod_of_nonneg (by omega)]
    omega
theorem putE_val (n wd : Int) : putE n wd = 0 → 0 ≤ n ∧ 1 ≤ wd ∧ wd ≤ 32 ∧ n < 2 ^ wd.toNat := by
  intro h
  unfold putE at h
  by_cases hw : bitioWidthF wd = true
  · rw [if_pos hw] at h
    have hw2 : 1 ≤ wd ∧ wd ≤ 32 := by simpa [bitioWidthF] using hw
    by_cases hn : n < 0
    · rw [if_pos hn] at h; omega
    · rw [if_neg hn] at h
      by_cases hz : n / 2 ^ wd.toNat = 0
      · refine ⟨by omega, hw2.1, hw2.2, ?_⟩
        have hp : (0 : Int) < 2 ^ wd.toNat := Int.pow_pos (by decide)
        exact Int.lt_of_not_ge fun hge => by
          have := Int.le_ediv_of_mul_le hp (show 1 * 2 ^ wd.toNat ≤ n by rw [Int.one_mul]; exact hge)
          omega
      · rw [if_neg hz] at h; omega
  · rw [if_neg hw] at h; omega
theorem rput_f (n wd : Int) (hb : -9223372036854775808 ≤ n ∧ n ≤ 9223372036854775807) : shuttleref02_Put.f 100 n wd = some (putL n wd, putE n wd) := by
  unfold shuttleref02_Put.f
  by_cases h1 : wd < 1
  · have hw : bitioWidthF wd = false := by unfold bitioWidthF; rw [Bool.and_eq_false_iff]; left; exact decide_eq_false (by omega)
    have e : putE n wd = 1 := by unfold putE; rw [hw, if_neg (by decide)]
    have e2 : putL n wd = [] := by unfold putL; rw [e, if_neg (by decide)]
    rw [if_pos h1, e, e2]; rfl
  · rw [if_neg h1]
    by_cases h2 : wd > 32
    · have hw : bitioWidthF wd = false := by unfold bitioWidthF; rw [Bool.and_eq_false_iff]; right; exact decide_eq_false (by omega)
      have e : putE n wd = 1 := by unfold putE; rw [hw, if_neg (by decide)]
      have e2 : putL n wd = [] := by unfold putL; rw [e, if_neg (by decide)]
      rw [decide_eq_true h2, e, e2]; rfl
    · have hw : bitioWidthF wd = true := by unfold bitioWidthF; rw [Bool.and_eq_true]; exact ⟨decide_eq_true (by omega), decide_eq_true (by omega)⟩
      rw [decide_eq_false h2, shuttleref02_Put.j0.eq_2, if_neg (by decide)]
      obtain ⟨W, rfl⟩ := Int.eq_ofNat_of_zero_le (show 0 ≤ wd by omega)
      by_cases hn : n < 0
      · have e : putE n (W : Int) = 5 := by unfold putE; rw [hw, if_pos rfl, if_pos hn]
        have e2 : putL n (W : Int) = [] := by unfold putL; rw [e, if_neg (by decide)]
        rw [if_pos hn, e, e2]; rfl
      · rw [if_neg hn, if_pos (by omega), shl1 W (by omega), shuttleref02_Put.j1.eq_2]
        obtain ⟨m, rfl⟩ := Int.eq_ofNat_of_zero_le (show 0 ≤ n by omega)
        have hp : 2 ^ W ≤ 2 ^ 32 := Nat.pow_le_pow_right (by decide) (by omega)
        by_cases hg : m < 2 ^ W
        · rw [decide_eq_false (by omega), if_neg (by decide), putE_ok m W (by omega) (by omega) hg, putL_ok m W (by omega) (by omega) hg, wrap_in (by omega) (by omega)]
          exact rput_l0 m (by omega) W (by omega) W 98 [] (Nat.le_refl _) (by simp) (by omega) (by simp [bitL])
        · have hz : ¬ (m : Int) / 2 ^ W = 0 := by
            intro hz
            have : putE (m : Int) (W : Int) = 0 := by unfold putE; rw [hw, if_pos rfl, if_neg hn, Int.toNat_natCast, if_pos hz]
            have := (putE_val _ _ this).2.2.2
            rw [Int.toNat_natCast] at this
            apply hg
            have e3 : ((2 : Int) ^ W) = ((2 ^ W : Nat) : Int) := by simp
            rw [e3] at this
            omega
          have e : putE (m : Int) (W : Int) = 5 := by unfold putE; rw [hw, if_pos rfl, if_neg hn, Int.toNat_natCast, if_neg hz]
          have e2 : putL (m : Int) (W : Int) = [] := by unfold putL; rw [e, if_neg (by decide)]
          rw [decide_eq_true (by omega), if_pos rfl, e, e2]
theorem putL_bit (n wd : Int) (hb : -9223372036854775808 ≤ n ∧ n ≤ 9223372036854775807) : ∀ x ∈ putL n wd, bit x := by
  intro x hx
  unfold putL at hx
  by_cases h : putE n wd = 0
  · rw [if_pos h] at hx
    have hv := putE_val n wd h
    obtain ⟨m, rfl⟩ := Int.eq_ofNat_of_zero_le hv.1
    exact bitL_bit m _ 0 (by omega) x hx
  · rw [if_neg h] at hx; cases hx
theorem putL_len (n wd : Int) (h : putE n wd = 0) : ((putL n wd).length : Int) = wd := by
  have hv := putE_val n wd h
  unfold putL
  rw [if_pos h, bitL_length]; omega
theorem putL_len32 (n wd : Int) : (putL n wd).length ≤ 32 := by
  by_cases h : putE n wd = 0
  · have := putL_len n wd h; have := putE_val n wd h; omega
  · unfold putL; rw [if_neg h]; simp
theorem take_put (n wd : Int) (r : List Int) (h : putE n wd = 0) : tkE (putL n wd ++ r) wd = 0 ∧ tkN (putL n wd ++ r) wd = n ∧ tkL (putL n wd ++ r) wd = r := by
  have hv := putE_val n wd h
  have hl := putL_len n wd h
  have hw : bitioWidthF wd = true := by unfold bitioWidthF; rw [Bool.and_eq_true]; exact ⟨decide_eq_true hv.2.1, decide_eq_true hv.2.2.1⟩
  have e : tkE (putL n wd ++ r) wd = 0 := by
    unfold tkE; rw [hw, if_pos rfl, if_neg (by rw [List.length_append]; omega)]
  obtain ⟨m, rfl⟩ := Int.eq_ofNat_of_zero_le hv.1
  obtain ⟨W, rfl⟩ := Int.eq_ofNat_of_zero_le (show 0 ≤ wd by omega)
  have hlW : (putL (m : Int) (W : Int)).length = W := by omega
  have e3 : ((2 : Int) ^ W) = ((2 ^ W : Nat) : Int) := by simp
  have hm : m < 2 ^ W := by have := hv.2.2.2; rw [Int.toNat_natCast, e3] at this; omega
  have hp : 2 ^ W ≤ 2 ^ 32 := Nat.pow_le_pow_right (by decide) (by omega)
  refine ⟨e, ?_, ?_⟩
  · unfold tkN
    rw [if_pos e, Int.toNat_natCast, List.take_append_of_le_length (by omega), List.take_of_length_le (by omega)]
    unfold putL
    rw [if_pos h, Int.toNat_natCast, tk_fold _ (bitL_bit m W 0 (by omega)) (by rw [bitL_length]; omega), num_bitL W m hm (by omega)]
  · unfold tkL
    rw [if_pos e, Int.toNat_natCast, List.drop_append_of_le_length (by omega), List.drop_of_length_le (by omega)]; rfl
-- the bytes' bits are the bits, and noughts
theorem bits8_byte (l : List Int) (h : ∀ x ∈ l, bit x) (x : Nat) : ∀ k, k < 8 → (bits8 (byte l x)).getD k 0 = l.getD (8 * x + k) 0 := by
  intro k hk
  obtain ⟨r, hr⟩ := eight l h x
  have e : byte l x = (r.val : Int) := by
    rw [byte_rb l h x, rb_congr l (bits8 (r.val : Int)) x 0 8 hr]; exact rb_all r
  rw [e, hr k hk]
  simp
theorem ofl_bytes (l : List Int) (h : ∀ x ∈ l, bit x) : ∃ z : Nat, z < 8 ∧ ofl ((List.range ((l.length + 7) / 8)).map (byte l)) = l ++ List.replicate z 0 := by
  refine ⟨8 * ((l.length + 7) / 8) - l.length, by omega, ?_⟩
  apply List.ext_getElem
  · rw [ofl_length, List.length_map, List.length_range, List.length_append, List.length_replicate]; omega
  · intro i h1 h2
    rw [ofl_length, List.length_map, List.length_range] at h1
    have hx : i / 8 < (l.length + 7) / 8 := by omega
    have e := ofl_getD ((List.range ((l.length + 7) / 8)).map (byte l)) (i / 8) (by simpa using hx) (i % 8) (Nat.mod_lt _ (by decide))
    rw [show 8 * (i / 8) + i % 8 = i by omega, List.getElem_map, List.getElem_range, show 8 * 0 + i % 8 = i % 8 by omega, bits8_byte l h _ _ (Nat.mod_lt _ (by decide)), show 8 * (i / 8) + i % 8 = i by omega] at e
    rw [List.getD_eq_getElem?_getD, List.getElem?_eq_getElem (by rw [ofl_length, List.length_map, List.length_range]; exact h1)] at e
    simp only [Option.getD_some] at e
    rw [e]
    by_cases hi : i < l.length
    · rw [List.getElem_append_left hi, List.getD_eq_getElem?_getD, List.getElem?_eq_getElem hi]; rfl
    · rw [List.getElem_append_right (by omega), List.getElem_replicate, List.getD_eq_getElem?_getD, List.getElem?_eq_none (by omega)]; rfl
theorem wt_rep (z : Nat) : wt (List.replicate z 0) (List.replicate z (0 : Int)).length = 0 := by
  rw [wt_zero]
  intro j hj
  rw [List.length_replicate] at hj
  rw [List.getD_eq_getElem?_getD, List.getElem?_replicate]
  simp [hj]
end Go.Proofs.Ytmajbcglpcagoaa.B
