/- More of the coder in plain words: its answers place by place, of lists by exclusive or, behind noughts; what its first test says. No condition. -/
import Derived.Test.YtmjilfeadgancaaDoorXConv
import Derived.Test.YtmjilfeadgancaaDoorX11
import Derived.Test.YtmjilfeadgancaaDoorX8
import Derived.Test.YtmjilfeadgancaaDoorX9
namespace Go.Proofs.YtmjilfeadgancaaDoor.X
open Go.RowKit Go.Proofs.YtmjilfeadgancaaDoorW.PrintWords Go.Proofs.YtmjilfeadgancaaDoorW.PrintLast Go.Proofs.YtmjilfeadgancaaDoorW.PrintMore
set_option linter.unusedVariables false
theorem codeN_succ (l : List Int) (n : Nat) : codeN l (n + 1) = codeN l n ++ code4 l n := rfl
theorem codes_ok : shuttlelaw06_codes.f = some true := by decide +kernel
theorem code4_getD (l : List Int) (t s : Nat) (hs : s < 4) : (code4 l t).getD s 0 = bitB (lb l t) s 7 := by
  obtain rfl | rfl | rfl | rfl : s = 0 ∨ s = 1 ∨ s = 2 ∨ s = 3 := by omega
  all_goals rfl
theorem codeN_getD (l : List Int) (t s : Nat) (hs : s < 4) : ∀ n, t < n → (codeN l n).getD (4 * t + s) 0 = bitB (lb l t) s 7
  | 0, h => by omega
  | n + 1, h => by
    unfold codeN
    rw [List.getD_eq_getElem?_getD]
    by_cases c : t < n
    · rw [List.getElem?_append_left (by rw [codeN_length]; omega), ← List.getD_eq_getElem?_getD]
      exact codeN_getD l t s hs n c
    · obtain rfl : t = n := by omega
      rw [List.getElem?_append_right (by rw [codeN_length]; omega), codeN_length, show 4 * t + s - 4 * t = s from by omega, ← List.getD_eq_getElem?_getD]
      exact code4_getD l t s hs
/-- Two lists by exclusive or, their first n places. -/
def zx (a b : List Int) (n : Nat) : List Int := (List.range n).map fun j => Go.bits .xor .u8 (a.getD j 0) (b.getD j 0)
theorem zx_length (a b : List Int) (n : Nat) : (zx a b n).length = n := by simp [zx]
theorem zx_succ (a b : List Int) (n : Nat) : zx a b (n + 1) = zx a b n ++ [Go.bits .xor .u8 (a.getD n 0) (b.getD n 0)] := by
  unfold zx; rw [List.range_succ, List.map_append]; rfl
theorem zx_isb {a b : List Int} (ha : ∀ x ∈ a, isb x) (hb : ∀ x ∈ b, isb x) (n : Nat) : ∀ x ∈ zx a b n, isb x := by
  intro x hx
  simp only [zx, List.mem_map] at hx
  obtain ⟨j, _, rfl⟩ := hx
  exact xor_isb (getD_isb ha j) (getD_isb hb j)
theorem take_getD (a : List Int) (n j : Nat) (h : j < n) : (a.take n).getD j 0 = a.getD j 0 := by
  rw [List.getD_eq_getElem?_getD, List.getElem?_take, if_pos h, ← List.getD_eq_getElem?_getD]
theorem getD_out (a : List Int) (j : Nat) (h : a.length ≤ j) : a.getD j 0 = 0 := by
  rw [List.getD_eq_getElem?_getD, List.getElem?_eq_none h]; rfl
theorem zx_getD (a b : List Int) (n j : Nat) : (zx a b n).getD j 0 = Go.bits .xor .u8 ((a.take n).getD j 0) ((b.take n).getD j 0) := by
  by_cases h : j < n
  · rw [take_getD a n j h, take_getD b n j h]
    unfold zx
    rw [List.getD_eq_getElem?_getD, List.getElem?_map, List.getElem?_range h]; rfl
  · rw [getD_out _ _ (by rw [zx_length]; omega), getD_out (a.take n) j (by rw [List.length_take]; omega), getD_out (b.take n) j (by rw [List.length_take]; omega)]
    decide +kernel
theorem lb_zx (a b : List Int) (n t k : Nat) : lb (zx a b n) t k = Go.bits .xor .u8 (lb (a.take n) t k) (lb (b.take n) t k) := by
  unfold lb
  by_cases h : k ≤ t
  · rw [if_pos h, if_pos h, if_pos h, zx_getD]
  · rw [if_neg h, if_neg h, if_neg h]; decide +kernel
theorem take_isb {a : List Int} (h : ∀ x ∈ a, isb x) (n : Nat) : ∀ x ∈ a.take n, isb x := fun x hx => h x (List.mem_of_mem_take hx)
theorem bit_zx {a b : List Int} (ha : ∀ x ∈ a, isb x) (hb : ∀ x ∈ b, isb x) (n t s : Nat) :
    bitB (lb (zx a b n) t) s 7 = Go.bits .xor .u8 (bitB (lb (a.take n) t) s 7) (bitB (lb (b.take n) t) s 7) := by
  rw [← bitB_xor (lb_isb (take_isb ha n) t) (lb_isb (take_isb hb n) t) s 7]
  exact bitB_congr s 7 fun j _ => lb_zx a b n t j
/-- The newest bit is told by each stream. -/
theorem newest_all : ∀ w : Fin 64, ∀ s : Fin 4, bitB (bw w.val) s.val 7 ≠ bitB (bw (64 + w.val)) s.val 7 := by decide +kernel
theorem bitB_wd {b : Nat → Int} (hb : ∀ j, isb (b j)) (s : Nat) : bitB b s 7 = bitB (bw (wd b).toNat) s 7 := bitB_congr s 7 fun j hj => (bw_wd hb j hj).symm
theorem newest {b c : Nat → Int} (hb : ∀ j, isb (b j)) (hc : ∀ j, isb (c j)) (h : ∀ j, 1 ≤ j → j ≤ 6 → b j = c j) (s : Nat) (hs : s < 4) (e : bitB b s 7 = bitB c s 7) : b 0 = c 0 := by
  have hsd : sd b = sd c := by
    unfold sd
    rw [h 1 (by omega) (by omega), h 2 (by omega) (by omega), h 3 (by omega) (by omega), h 4 (by omega) (by omega), h 5 (by omega) (by omega), h 6 (by omega) (by omega)]
  have i1 := sd_in hb
  rw [bitB_wd hb, bitB_wd hc] at e
  have n1 := newest_all ⟨(sd b).toNat, by omega⟩ ⟨s, hs⟩
  have e1 : wd b = 64 * b 0 + sd b := rfl
  have e2 : wd c = 64 * c 0 + sd b := by rw [hsd]; rfl
  rcases hb 0 with h0 | h0 <;> rcases hc 0 with k0 | k0
  · rw [h0, k0]
  · exfalso
    rw [e1, e2, h0, k0, show (64 * 0 + sd b).toNat = (sd b).toNat from by omega, show (64 * 1 + sd b).toNat = 64 + (sd b).toNat from by omega] at e
    exact n1 e
  · exfalso
    rw [e1, e2, h0, k0, show (64 * 0 + sd b).toNat = (sd b).toNat from by omega, show (64 * 1 + sd b).toNat = 64 + (sd b).toNat from by omega] at e
    exact n1 e.symm
  · rw [h0, k0]
/-- Lists that tell the same in one stream at each step are the same. -/
theorem same_of {a b : List Int} (ha : ∀ x ∈ a, isb x) (hb : ∀ x ∈ b, isb x) (hl : a.length = b.length) (sel : Nat → Nat) (hs : ∀ t, sel t < 4)
    (h : ∀ t, t < a.length → bitB (lb a t) (sel t) 7 = bitB (lb b t) (sel t) 7) : a = b := by
  have key : ∀ m t, t < m → t < a.length → a.getD t 0 = b.getD t 0 := by
    intro m
    induction m with
    | zero => intro t h1; omega
    | succ m ih =>
      intro t h1 h2
      have := newest (lb_isb ha t) (lb_isb hb t) (fun j h3 h4 => by
        unfold lb
        by_cases c : j ≤ t
        · rw [if_pos c, if_pos c]; exact ih (t - j) (by omega) (by omega)
        · rw [if_neg c, if_neg c]) (sel t) (hs t) (h t h2)
      rwa [lb_zero, lb_zero] at this
  refine List.ext_getElem? fun t => ?_
  by_cases c : t < a.length
  · have := key (t + 1) t (by omega) c
    rw [List.getD_eq_getElem?_getD, List.getD_eq_getElem?_getD, List.getElem?_eq_getElem c, List.getElem?_eq_getElem (by omega)] at this
    rw [List.getElem?_eq_getElem c, List.getElem?_eq_getElem (by omega)]
    exact congrArg some this
  · rw [List.getElem?_eq_none (by omega), List.getElem?_eq_none (by omega)]
/-- Behind noughts. -/
theorem lb_late (l : List Int) (n m k : Nat) : lb (List.replicate n 0 ++ l) (n + m) k = lb l m k := by
  unfold lb
  by_cases c : k ≤ m
  · rw [if_pos (by omega), if_pos c, List.getD_eq_getElem?_getD, List.getElem?_append_right (by rw [List.length_replicate]; omega), List.length_replicate, show n + m - k - n = m - k from by omega, ← List.getD_eq_getElem?_getD]
  · rw [if_neg c]
    by_cases c2 : k ≤ n + m
    · rw [if_pos c2, List.getD_eq_getElem?_getD, List.getElem?_append_left (by rw [List.length_replicate]; omega), List.getElem?_replicate, if_pos (by omega)]; rfl
    · rw [if_neg c2]
theorem lb_nought (l : List Int) (n t k : Nat) (h : t < n) : lb (List.replicate n 0 ++ l) t k = 0 := by
  unfold lb
  by_cases c : k ≤ t
  · rw [if_pos c, List.getD_eq_getElem?_getD, List.getElem?_append_left (by rw [List.length_replicate]; omega), List.getElem?_replicate, if_pos (by omega)]; rfl
  · rw [if_neg c]
theorem codeN_nought (l : List Int) (n : Nat) : ∀ m, m ≤ n → codeN (List.replicate n 0 ++ l) m = List.replicate (4 * m) 0
  | 0, _ => rfl
  | m + 1, h => by
    unfold codeN
    rw [codeN_nought l n m (by omega)]
    have e : ∀ s, bitB (lb (List.replicate n 0 ++ l) m) s 7 = 0 := fun s => (bitB_congr s 7 fun j _ => lb_nought l n m j (by omega)).trans (bitB_zero s 7)
    unfold code4
    rw [e, e, e, e, show 4 * (m + 1) = 4 * m + 4 from by omega, ← List.replicate_append_replicate]
    rfl
theorem codeN_late (l : List Int) (n : Nat) : ∀ m, codeN (List.replicate n 0 ++ l) (n + m) = List.replicate (4 * n) 0 ++ codeN l m
  | 0 => by rw [Nat.add_zero, codeN_nought l n n (Nat.le_refl _)]; show _ = _ ++ []; rw [List.append_nil]
  | m + 1 => by
    have e : ∀ s, bitB (lb (List.replicate n 0 ++ l) (n + m)) s 7 = bitB (lb l m) s 7 := fun s => bitB_congr s 7 fun j _ => lb_late l n m j
    have e4 : code4 (List.replicate n 0 ++ l) (n + m) = code4 l m := by unfold code4; rw [e, e, e, e]
    rw [show n + (m + 1) = (n + m) + 1 from rfl, codeN_succ, codeN_late l n m, e4, codeN_succ, List.append_assoc]
theorem code_late (l : List Int) (n : Nat) : code (List.replicate n 0 ++ l) = List.replicate (4 * n) 0 ++ code l := by
  unfold code
  rw [List.length_append, List.length_replicate, Nat.add_assoc, codeN_late]
end Go.Proofs.YtmjilfeadgancaaDoor.X
