/- Versions of a code in plain words, without the coder: a code is split into four, and joined again. No condition but lengths. -/
import Derived.Test.YtmajbcglpcagoaaXBit
import Derived.Test.YtmajbcglpcagoaaXBitsRight
import Derived.Test.YtmajbcglpcagoaaXStr
import Derived.Test.YtmajbcglpcagoaaX12
import Derived.Test.YtmajbcglpcagoaaX13
import Derived.Test.YtmajbcglpcagoaaX14
import Derived.Test.YtmajbcglpcagoaaX5
import Derived.Test.YtmajbcglpcagoaaX6
import Derived.Test.YtmajbcglpcagoaaX7
namespace Go.Proofs.Ytmajbcglpcagoaa.X
open Go.RowKit Go.Proofs.YtmajbcglpcagoaaW.PrintWords Go.Proofs.YtmajbcglpcagoaaW.PrintLast Go.Proofs.YtmajbcglpcagoaaW.PrintMore
set_option linter.unusedVariables false
/-- Which stream a version tells at a step. -/
def strm (v t : Nat) : Nat := (v + t % 4) % 4
theorem strm_lt (v t : Nat) : strm v t < 4 := by unfold strm; omega
theorem rstream_f (v t : Nat) (hv : v < 4) (ht : (t : Int) ≤ 9223372036854775807) : shuttleref10_Stream.f (v : Int) (t : Int) = some ((strm v t : Nat) : Int) := by
  unfold shuttleref10_Stream.f
  rw [Int.tmod_eq_emod_of_nonneg (show (0 : Int) ≤ (t : Int) by omega), wrap_in (by omega) (by omega), Int.tmod_eq_emod_of_nonneg (by omega)]
  unfold strm
  congr 1
theorem getD_out (a : List Int) (j : Nat) (h : a.length ≤ j) : a.getD j 0 = 0 := by
  rw [List.getD_eq_getElem?_getD, List.getElem?_eq_none h]; rfl
theorem big_isb {l : List Int} (h0 : ∀ x ∈ l, 0 ≤ x) : l.any big = false ↔ ∀ x ∈ l, isb x := by
  constructor
  · intro h x hx
    have := List.any_eq_false.1 h x hx
    unfold big at this
    have := h0 x hx
    exact isb_of this (by simpa using ‹¬decide (x > 1) = true›)
  · intro h
    rw [List.any_eq_false]
    intro x hx
    have := isb01 (h x hx)
    unfold big
    simp; omega
/-- A version's first m bits. -/
def pk (c : List Int) (v : Nat) : Nat → List Int
  | 0 => []
  | m + 1 => pk c v m ++ [c.getD (4 * m + strm v m) 0]
theorem pk_length (c : List Int) (v : Nat) : ∀ m, (pk c v m).length = m
  | 0 => rfl
  | m + 1 => by unfold pk; rw [List.length_append, pk_length c v m]; rfl
theorem pk_getD (c : List Int) (v : Nat) : ∀ m t, t < m → (pk c v m).getD t 0 = c.getD (4 * t + strm v t) 0
  | 0, t, h => by omega
  | m + 1, t, h => by
    unfold pk
    rw [List.getD_eq_getElem?_getD]
    by_cases e : t < m
    · rw [List.getElem?_append_left (by rw [pk_length]; omega), ← List.getD_eq_getElem?_getD]
      exact pk_getD c v m t e
    · obtain rfl : t = m := by omega
      rw [List.getElem?_append_right (by rw [pk_length]; omega), pk_length]
      simp
theorem pk_isb {c : List Int} (h : ∀ x ∈ c, isb x) (v : Nat) : ∀ m, ∀ x ∈ pk c v m, isb x
  | 0 => by intro x hx; cases hx
  | m + 1 => by
    intro x hx
    unfold pk at hx
    rcases List.mem_append.1 hx with k | k
    · exact pk_isb h v m x k
    · rw [List.mem_singleton.1 k]; exact getD_isb h _
/-- How many bits of a version stand among a code's first i. -/
def cnt (v i : Nat) : Nat := i / 4 + if strm v (i / 4) < i % 4 then 1 else 0
theorem cnt_here (v i : Nat) (hv : v < 4) (h : strm v (i / 4) = i % 4) : cnt v i = i / 4 ∧ cnt v (i + 1) = i / 4 + 1 ∧ i = 4 * (i / 4) + strm v (i / 4) := by
  unfold cnt
  refine ⟨by rw [if_neg (by omega)]; rfl, ?_, by omega⟩
  by_cases c : i % 4 = 3
  · have e : (i + 1) / 4 = i / 4 + 1 := by omega
    rw [e, if_neg (by omega)]
  · have e : (i + 1) / 4 = i / 4 := by omega
    rw [e, if_pos (by omega)]
theorem cnt_else (v i : Nat) (hv : v < 4) (h : strm v (i / 4) ≠ i % 4) : cnt v (i + 1) = cnt v i := by
  have hs := strm_lt v (i / 4)
  unfold cnt
  by_cases c : i % 4 = 3
  · have e : (i + 1) / 4 = i / 4 + 1 := by omega
    rw [e, if_neg (by omega), if_pos (by omega)]
  · have e : (i + 1) / 4 = i / 4 := by omega
    rw [e]
    by_cases c2 : strm v (i / 4) < i % 4
    · rw [if_pos c2, if_pos (by omega)]
    · rw [if_neg c2, if_neg (by omega)]
theorem cnt_len (v m : Nat) : cnt v (4 * m) = m := by
  unfold cnt
  rw [if_neg (by omega)]; omega
theorem pk_step (c : List Int) (v i : Nat) (hv : v < 4) (h : strm v (i / 4) = i % 4) : pk c v (cnt v i) ++ [c.getD i 0] = pk c v (cnt v (i + 1)) := by
  obtain ⟨h1, h2, h3⟩ := cnt_here v i hv h
  rw [h2, h1]
  show _ = pk c v (i / 4) ++ [c.getD (4 * (i / 4) + strm v (i / 4)) 0]
  rw [← h3]
theorem cnt_le (v i : Nat) : cnt v i ≤ i + 1 := by unfold cnt; split <;> omega
theorem vers_f (i : Nat) (hi : (i : Int) ≤ 1000000) : pattern_Version.f (Int.tmod (i : Int) 4) (wrap64 (Int.tdiv (i : Int) 4)) = some ((((i % 4 + 4 - i / 4 % 4) % 4 : Nat) : Int), 0) := by
  unfold pattern_Version.f pattern_one.f
  have e1 : Int.tmod (i : Int) 4 = ((i % 4 : Nat) : Int) := by rw [Int.tmod_eq_emod_of_nonneg (by omega)]; omega
  have e2 : Int.tdiv (i : Int) 4 = ((i / 4 : Nat) : Int) := by rw [Int.tdiv_eq_ediv_of_nonneg (by omega)]; omega
  rw [e1, e2, wrap_in (n := ((i / 4 : Nat) : Int)) (by omega) (by omega), if_pos (by omega), if_pos (by omega), decide_eq_true (show ((i / 4 : Nat) : Int) ≥ 0 by omega), Option.bind_some, if_pos rfl]
  have e3 : Int.tmod ((i / 4 : Nat) : Int) 4 = ((i / 4 % 4 : Nat) : Int) := by rw [Int.tmod_eq_emod_of_nonneg (by omega)]; omega
  rw [e3, wrap_in (n := ((i % 4 : Nat) : Int) + 4) (by omega) (by omega), wrap_in (by omega) (by omega), Int.tmod_eq_emod_of_nonneg (by omega)]
  refine congrArg some (Prod.ext ?_ rfl)
  show _ = (((i % 4 + 4 - i / 4 % 4) % 4 : Nat) : Int)
  omega
theorem split_l0 (c : List Int) (hl : c.length ≤ 100000) (d : Nat) : ∀ k i : Nat, i + d = c.length → d < k →
    version_Split.l0 k c (c.length : Int) (i : Int) (pk c 0 (cnt 0 i)) (pk c 1 (cnt 1 i)) (pk c 2 (cnt 2 i)) (pk c 3 (cnt 3 i)) = some (pk c 0 (cnt 0 c.length), pk c 1 (cnt 1 c.length), pk c 2 (cnt 2 c.length), pk c 3 (cnt 3 c.length), 0) := by
  induction d with
  | zero =>
    intro k i hi hk
    obtain ⟨k, rfl⟩ := pred hk
    obtain rfl : i = c.length := by omega
    rw [version_Split.l0.eq_2, if_neg (by omega)]
  | succ d ih =>
    intro k i hi hk
    obtain ⟨k, rfl⟩ := pred hk
    have hn := ih k (i + 1) (by omega) (by omega)
    have l0 := cnt_le 0 i; have l1 := cnt_le 1 i; have l2 := cnt_le 2 i; have l3 := cnt_le 3 i
    rw [version_Split.l0.eq_2, if_pos (by omega), if_pos (by omega), if_pos (by omega), vers_f i (by omega), Option.bind_some, if_pos rfl, wrap_succ i (by omega), rd_getD]
    obtain ⟨w, hw⟩ : ∃ w, (i % 4 + 4 - i / 4 % 4) % 4 = w := ⟨_, rfl⟩
    have hw4 : w < 4 := by omega
    have hhere : strm w (i / 4) = i % 4 := by unfold strm; omega
    have helse : ∀ u, u < 4 → u ≠ w → strm u (i / 4) ≠ i % 4 := by intro u hu hne; unfold strm; omega
    rw [hw]
    obtain rfl | rfl | rfl | rfl : w = 0 ∨ w = 1 ∨ w = 2 ∨ w = 3 := by omega
    · rw [show ((0 : Nat) : Int) = 0 from rfl, if_pos rfl, if_pos (by rw [pk_length]; omega), pk_step c 0 i (by omega) hhere, ← cnt_else 1 i (by omega) (helse 1 (by omega) (by omega)), ← cnt_else 2 i (by omega) (helse 2 (by omega) (by omega)), ← cnt_else 3 i (by omega) (helse 3 (by omega) (by omega))]
      exact hn
    · rw [show ((1 : Nat) : Int) = 1 from rfl, if_neg (by decide), if_pos rfl, if_pos (by rw [pk_length]; omega), pk_step c 1 i (by omega) hhere, ← cnt_else 0 i (by omega) (helse 0 (by omega) (by omega)), ← cnt_else 2 i (by omega) (helse 2 (by omega) (by omega)), ← cnt_else 3 i (by omega) (helse 3 (by omega) (by omega))]
      exact hn
    · rw [show ((2 : Nat) : Int) = 2 from rfl, if_neg (by decide), if_neg (by decide), if_pos rfl, if_pos (by rw [pk_length]; omega), pk_step c 2 i (by omega) hhere, ← cnt_else 0 i (by omega) (helse 0 (by omega) (by omega)), ← cnt_else 1 i (by omega) (helse 1 (by omega) (by omega)), ← cnt_else 3 i (by omega) (helse 3 (by omega) (by omega))]
      exact hn
    · rw [show ((3 : Nat) : Int) = 3 from rfl, if_neg (by decide), if_neg (by decide), if_neg (by decide), if_pos rfl, if_pos (by rw [pk_length]; omega), pk_step c 3 i (by omega) hhere, ← cnt_else 0 i (by omega) (helse 0 (by omega) (by omega)), ← cnt_else 1 i (by omega) (helse 1 (by omega) (by omega)), ← cnt_else 2 i (by omega) (helse 2 (by omega) (by omega))]
      exact hn
theorem split_f (c : List Int) (hc : ∀ x ∈ c, isb x) (m : Nat) (hm : c.length = 4 * m) (hl : c.length ≤ 100000) (k : Nat) (hk : c.length < k) :
    version_Split.f k c = some (pk c 0 m, pk c 1 m, pk c 2 m, pk c 3 m, 0) := by
  unfold version_Split.f
  rw [right_f c (by omega) k (by omega), (big_isb (fun x hx => (isb01 (hc x hx)).1)).2 hc, Option.bind_some, if_pos (show (!false) = true from rfl), if_pos (by omega)]
  have := split_l0 c hl c.length k 0 (by omega) hk
  rw [hm, cnt_len, cnt_len, cnt_len, cnt_len] at this
  rw [hm]
  exact this
theorem pick_l0 (c : List Int) (v : Nat) (hv : v < 4) (m : Nat) (hm : c.length = 4 * m) (hl : m ≤ 100000) (d : Nat) : ∀ k i : Nat, i + d = m → d < k →
    shuttleref10_Pick.l0 k c (v : Int) (pk c v i) (i : Int) = some (pk c v m) := by
  induction d with
  | zero =>
    intro k i hi hk
    obtain ⟨k, rfl⟩ := pred hk
    obtain rfl : i = m := by omega
    rw [shuttleref10_Pick.l0.eq_2, wrap_in (by omega) (by omega), if_neg (by omega)]
  | succ d ih =>
    intro k i hi hk
    obtain ⟨k, rfl⟩ := pred hk
    have hn := ih k (i + 1) (by omega) (by omega)
    have hs := strm_lt v i
    have ei : wrap64 (4 * (i : Int) + ((strm v i : Nat) : Int)) = ((4 * i + strm v i : Nat) : Int) := by rw [wrap_in (by omega) (by omega)]; omega
    rw [shuttleref10_Pick.l0.eq_2, wrap_in (n := 4 * (i : Int)) (by omega) (by omega), if_pos (by omega), rstream_f v i hv (by omega), Option.bind_some, ei, if_pos (by omega), if_pos (by omega), if_pos (by rw [pk_length]; omega), rd_getD, wrap_succ i (by omega)]
    exact hn
theorem pick_f (c : List Int) (v : Nat) (hv : v < 4) (m : Nat) (hm : c.length = 4 * m) (hl : m ≤ 100000) (k : Nat) (hk : m < k) : shuttleref10_Pick.f k c (v : Int) = some (pk c v m) :=
  pick_l0 c v hv m hm hl m k 0 (by omega) (by omega)
theorem vers_g (s t : Nat) (hs : s < 4) (ht : (t : Int) ≤ 1000000) : pattern_Version.f (s : Int) (t : Int) = some ((((s + 4 - t % 4) % 4 : Nat) : Int), 0) := by
  unfold pattern_Version.f pattern_one.f
  rw [if_pos (by omega), if_pos (by omega), decide_eq_true (show (t : Int) ≥ 0 by omega), Option.bind_some, if_pos rfl]
  have e3 : Int.tmod (t : Int) 4 = ((t % 4 : Nat) : Int) := by rw [Int.tmod_eq_emod_of_nonneg (by omega)]; omega
  rw [e3, wrap_in (n := (s : Int) + 4) (by omega) (by omega), wrap_in (by omega) (by omega), Int.tmod_eq_emod_of_nonneg (by omega)]
  refine congrArg some (Prod.ext ?_ rfl)
  show _ = (((s + 4 - t % 4) % 4 : Nat) : Int)
  omega
theorem take_succ_getD (l : List Int) (t : Nat) (h : t < l.length) : l.take (t + 1) = l.take t ++ [l.getD t 0] := by
  rw [take_snoc l t h, List.getD_eq_getElem?_getD, List.getElem?_eq_getElem h]; rfl
theorem join_l3 (l : List Int) (m : Nat) (hm : l.length = 4 * m) (hl : l.length ≤ 10000) (t : Nat) (ht : t < m) (s : Nat) (hs : s < 4) (k : Nat) :
    version_Join.l3 (k + 1) (l.take (4 * t + s)) (t : Int) (m : Int) (t : Int) (s : Int) (pk l 0 m) (pk l 1 m) (pk l 2 m) (pk l 3 m) =
      version_Join.l3 k (l.take (4 * t + (s + 1))) (t : Int) (m : Int) (t : Int) ((s + 1 : Nat) : Int) (pk l 0 m) (pk l 1 m) (pk l 2 m) (pk l 3 m) := by
  have hlen : (l.take (4 * t + s)).length < 140737488355328 := by rw [List.length_take]; omega
  obtain ⟨w, hw⟩ : ∃ w, (s + 4 - t % 4) % 4 = w := ⟨_, rfl⟩
  have hw4 : w < 4 := by omega
  have hst : strm w t = s := by unfold strm; omega
  have e : l.take (4 * t + s) ++ [rd (pk l w m) (t : Int)] = l.take (4 * t + (s + 1)) := by
    rw [rd_getD, pk_getD l w m t ht, hst, ← take_succ_getD l (4 * t + s) (by omega)]
    rfl
  have q0 := pk_length l 0 m; have q1 := pk_length l 1 m; have q2 := pk_length l 2 m; have q3 := pk_length l 3 m
  rw [version_Join.l3.eq_2, if_pos (by omega), vers_g s t hs (by omega), Option.bind_some, if_pos rfl, wrap_succ s (by omega), hw]
  obtain rfl | rfl | rfl | rfl : w = 0 ∨ w = 1 ∨ w = 2 ∨ w = 3 := by omega
  · rw [show ((0 : Nat) : Int) = 0 from rfl, if_pos rfl, if_pos (by omega), if_pos (by omega), if_pos hlen, e]
  · rw [show ((1 : Nat) : Int) = 1 from rfl, if_neg (by decide), if_pos rfl, if_pos (by omega), if_pos (by omega), if_pos hlen, e]
  · rw [show ((2 : Nat) : Int) = 2 from rfl, if_neg (by decide), if_neg (by decide), if_pos rfl, if_pos (by omega), if_pos (by omega), if_pos hlen, e]
  · rw [show ((3 : Nat) : Int) = 3 from rfl, if_neg (by decide), if_neg (by decide), if_neg (by decide), if_pos rfl, if_pos (by omega), if_pos (by omega), if_pos hlen, e]
theorem join_l2 (l : List Int) (m : Nat) (hm : l.length = 4 * m) (hl : l.length ≤ 10000) (d : Nat) : ∀ k t : Nat, t + d = m → 6 * d < k →
    version_Join.l2 k (l.take (4 * t)) (m : Int) (t : Int) (pk l 0 m) (pk l 1 m) (pk l 2 m) (pk l 3 m) = some (l, 0) := by
  induction d with
  | zero =>
    intro k t ht hk
    obtain ⟨k, rfl⟩ := pred hk
    rw [version_Join.l2.eq_2, if_neg (by omega), List.take_of_length_le (by omega)]
  | succ d ih =>
    intro k t ht hk
    obtain ⟨k, rfl⟩ : ∃ q, k = q + 6 := ⟨k - 6, by omega⟩
    have hn := ih k (t + 1) (by omega) (by omega)
    rw [version_Join.l2.eq_2, if_pos (by omega)]
    have e0 := join_l3 l m hm hl t (by omega) 0 (by omega) (k + 4)
    have e1 := join_l3 l m hm hl t (by omega) 1 (by omega) (k + 3)
    have e2 := join_l3 l m hm hl t (by omega) 2 (by omega) (k + 2)
    have e3 := join_l3 l m hm hl t (by omega) 3 (by omega) (k + 1)
    have e4 : version_Join.l3 (k + 1) (l.take (4 * t + 4)) (t : Int) (m : Int) (t : Int) ((4 : Nat) : Int) (pk l 0 m) (pk l 1 m) (pk l 2 m) (pk l 3 m) = version_Join.l2 k (l.take (4 * (t + 1))) (m : Int) ((t + 1 : Nat) : Int) (pk l 0 m) (pk l 1 m) (pk l 2 m) (pk l 3 m) := by
      rw [version_Join.l3.eq_2, if_neg (by decide), wrap_succ t (by omega)]
      rfl
    exact e0.trans (e1.trans (e2.trans (e3.trans (e4.trans hn))))
theorem join_f (l : List Int) (hp : ∀ x ∈ l, isb x) (m : Nat) (hm : l.length = 4 * m) (hl : l.length ≤ 1000) (k : Nat) (hk : 10000 < k) :
    version_Join.f k (pk l 0 m) (pk l 1 m) (pk l 2 m) (pk l 3 m) = some (l, 0) := by
  have q0 := pk_length l 0 m; have q1 := pk_length l 1 m; have q2 := pk_length l 2 m; have q3 := pk_length l 3 m
  have hr : ∀ v j, m < j → bits_Right.f j (pk l v m) = some true := fun v j hj => by
    have := pk_length l v m
    rw [right_f (pk l v m) (by omega) j (by omega), (big_isb (fun x hx => (isb01 (pk_isb hp v m x hx)).1)).2 (pk_isb hp v m)]
    rfl
  obtain ⟨k, rfl⟩ : ∃ q, k = q + 10 := ⟨k - 10, by omega⟩
  unfold version_Join.f
  rw [version_Join.l0.eq_2, if_pos (by decide), if_pos rfl, hr 0 _ (by omega), Option.bind_some, if_pos rfl]
  rw [version_Join.l0.eq_2, if_pos (by decide), if_neg (by decide), if_pos (by decide), hr 1 _ (by omega), Option.bind_some, if_pos rfl]
  rw [version_Join.l0.eq_2, if_pos (by decide), if_neg (by decide), if_neg (by decide), if_pos (by decide), hr 2 _ (by omega), Option.bind_some, if_pos rfl]
  rw [version_Join.l0.eq_2, if_pos (by decide), if_neg (by decide), if_neg (by decide), if_neg (by decide), if_pos (by decide), hr 3 _ (by omega), Option.bind_some, if_pos rfl]
  rw [version_Join.l0.eq_2, if_neg (by decide)]
  rw [version_Join.l1.eq_2, if_pos (by decide), if_pos rfl, if_pos rfl]
  rw [version_Join.l1.eq_2, if_pos (by decide), if_neg (by decide), if_pos (by decide), if_pos (by omega)]
  rw [version_Join.l1.eq_2, if_pos (by decide), if_neg (by decide), if_neg (by decide), if_pos (by decide), if_pos (by omega)]
  rw [version_Join.l1.eq_2, if_pos (by decide), if_neg (by decide), if_neg (by decide), if_neg (by decide), if_pos (by decide), if_pos (by omega)]
  rw [version_Join.l1.eq_2, if_neg (by decide), q0]
  exact join_l2 l m hm (by omega) m k 0 (by omega) (by omega)
end Go.Proofs.Ytmajbcglpcagoaa.X
