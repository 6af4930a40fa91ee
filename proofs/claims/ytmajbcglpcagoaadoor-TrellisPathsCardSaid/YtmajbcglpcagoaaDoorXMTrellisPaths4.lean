/- Texts of this seat, one behind the other (merge.py): the walks of the functions that the law TrellisPaths uses, and plain words on what they come to. No condition. -/
import Derived.Laws.BitsAllLaws
import Derived.OpenShut
import Derived.Test.YtmajbcglpcagoaaDoorXMTrellisPaths3
-- YtmajbcglpcagoaaDoorXPlain
namespace Go.Proofs.YtmajbcglpcagoaaDoor.X
open Go.RowKit Go.Proofs.YtmajbcglpcagoaaDoorW.PrintWords Go.Proofs.YtmajbcglpcagoaaDoorW.PrintLast Go.Proofs.YtmajbcglpcagoaaDoorW.PrintMore
set_option linter.unusedVariables false

theorem rd_get (l : List Int) (i : Nat) (h : i < l.length) : rd l (i : Int) = l[i] := by
  unfold rd
  simp [List.getD_eq_getElem?_getD, h]
theorem rd_getD (l : List Int) (i : Nat) : rd l (i : Int) = l.getD i 0 := by
  unfold rd; simp
theorem wrap_in {n : Int} (h0 : -9223372036854775808 ≤ n) (h1 : n ≤ 9223372036854775807) : wrap64 n = n := by
  unfold wrap64; omega
theorem wrap_succ (i : Nat) (h : (i : Int) < 9223372036854775807) : wrap64 ((i : Int) + 1) = ((i + 1 : Nat) : Int) := by
  rw [wrap_in (by omega) (by omega)]; omega
theorem u8_of_wf {l : List Int} (h : ∀ x ∈ l, (Lit.int .u8 x).wf = true) : ∀ x ∈ l, 0 ≤ x ∧ x ≤ 255 := fun x hx => Go.bounds_u8 (h x hx)
theorem i64_of_wf {l : List Int} (h : ∀ x ∈ l, (Lit.int .i64 x).wf = true) : ∀ x ∈ l, -9223372036854775808 ≤ x ∧ x ≤ 9223372036854775807 := fun x hx => Go.bounds_i64 (h x hx)
theorem pred {k d : Nat} (h : d < k) : ∃ m, k = m + 1 := ⟨k - 1, by omega⟩
theorem drop_cons {α : Type} (l : List α) (i : Nat) (h : i < l.length) : l.drop i = l[i] :: l.drop (i + 1) := List.drop_eq_getElem_cons h
theorem take_snoc {α : Type} (l : List α) (i : Nat) (h : i < l.length) : l.take (i + 1) = l.take i ++ [l[i]] := by
  rw [List.take_succ_eq_append_getElem h]
/-- f, so many times. -/
def it {α : Type} (f : α → α) : Nat → α → α
  | 0, x => x
  | n + 1, x => it f n (f x)
theorem it_succ {α : Type} (f : α → α) (n : Nat) (x : α) : it f (n + 1) x = it f n (f x) := rfl
theorem it_add {α : Type} (f : α → α) (m n : Nat) : ∀ x : α, it f (m + n) x = it f n (it f m x) := by
  induction m with
  | zero => intro x; simp [it]
  | succ m ih => intro x; rw [show m + 1 + n = (m + n) + 1 from by omega, it_succ, ih, it_succ]
theorem it_last {α : Type} (f : α → α) (n : Nat) (x : α) : it f (n + 1) x = f (it f n x) := by
  rw [it_add f n 1]; rfl

end Go.Proofs.YtmajbcglpcagoaaDoor.X

-- YtmajbcglpcagoaaDoorXBit
namespace Go.Proofs.YtmajbcglpcagoaaDoor.X
open Go.RowKit Go.Proofs.YtmajbcglpcagoaaDoorW.PrintWords Go.Proofs.YtmajbcglpcagoaaDoorW.PrintLast Go.Proofs.YtmajbcglpcagoaaDoorW.PrintMore
set_option linter.unusedVariables false
def isb (x : Int) : Prop := x = 0 ∨ x = 1
theorem isb01 {x : Int} (h : isb x) : 0 ≤ x ∧ x ≤ 1 := by unfold isb at h; omega
theorem isb_of {x : Int} (h0 : 0 ≤ x) (h1 : x ≤ 1) : isb x := by unfold isb; omega
theorem getD_isb {l : List Int} (h : ∀ x ∈ l, isb x) (i : Nat) : isb (l.getD i 0) := by
  by_cases hi : i < l.length
  · rw [List.getD_eq_getElem?_getD, List.getElem?_eq_getElem hi]; exact h _ (List.getElem_mem hi)
  · rw [List.getD_eq_getElem?_getD, List.getElem?_eq_none (by omega)]; exact .inl rfl
theorem xor_isb {x y : Int} (hx : isb x) (hy : isb y) : isb (Go.bits .xor .u8 x y) := by
  rcases hx with rfl | rfl <;> rcases hy with rfl | rfl <;> (unfold isb; decide +kernel)
theorem and_isb {x y : Int} (hx : isb x) (hy : isb y) : isb (Go.bits .and .u8 x y) := by
  rcases hx with rfl | rfl <;> rcases hy with rfl | rfl <;> (unfold isb; decide +kernel)
theorem xor_zero {x : Int} (hx : isb x) : Go.bits .xor .u8 x 0 = x := by
  rcases hx with rfl | rfl <;> decide +kernel
theorem and_zero {x : Int} (hx : isb x) : Go.bits .and .u8 x 0 = 0 := by
  rcases hx with rfl | rfl <;> decide +kernel
theorem step_lin {p q t x y : Int} (hp : isb p) (hq : isb q) (ht : isb t) (hx : isb x) (hy : isb y) :
    Go.bits .xor .u8 (Go.bits .xor .u8 p q) (Go.bits .and .u8 t (Go.bits .xor .u8 x y)) = Go.bits .xor .u8 (Go.bits .xor .u8 p (Go.bits .and .u8 t x)) (Go.bits .xor .u8 q (Go.bits .and .u8 t y)) := by
  rcases hp with rfl | rfl <;> rcases hq with rfl | rfl <;> rcases ht with rfl | rfl <;> rcases hx with rfl | rfl <;> rcases hy with rfl | rfl <;> decide +kernel
end Go.Proofs.YtmajbcglpcagoaaDoor.X

-- YtmajbcglpcagoaaDoorXBitsRight
namespace Go.Proofs.YtmajbcglpcagoaaDoor.X
open Go.RowKit Go.Proofs.YtmajbcglpcagoaaDoorW.PrintWords Go.Proofs.YtmajbcglpcagoaaDoorW.PrintLast Go.Proofs.YtmajbcglpcagoaaDoorW.PrintMore
set_option linter.unusedVariables false

def big (x : Int) : Bool := decide (x > 1)
theorem index_l0 (l : List Int) (hl : l.length ≤ 140737488355328) (d : Nat) : ∀ k i : Nat, i + d = l.length → d < k →
    ∃ r, slices_IndexFunc_byte_byte.l0 k l (l.length : Int) (i : Int) = some r ∧ decide (r ≥ 0) = (l.drop i).any big := by
  induction d with
  | zero =>
    intro k i hi hk
    obtain ⟨k, rfl⟩ := pred hk
    refine ⟨-1, ?_, ?_⟩
    · simp only [slices_IndexFunc_byte_byte.l0]; rw [if_neg (by omega)]
    · rw [List.drop_eq_nil_of_le (by omega)]; rfl
  | succ d ih =>
    intro k i hi hk
    obtain ⟨k, rfl⟩ := pred hk
    have hlt : i < l.length := by omega
    simp only [slices_IndexFunc_byte_byte.l0]
    rw [if_pos (by omega), if_pos (by omega), if_pos (by omega), rd_get l i hlt, drop_cons l i hlt, List.any_cons]
    unfold bits_Right_1.f
    simp only [Option.bind_some]
    cases hb : big l[i] with
    | true =>
      unfold big at hb
      rw [if_pos hb]
      exact ⟨_, rfl, by rw [Bool.true_or]; exact decide_eq_true (by omega)⟩
    | false =>
      unfold big at hb
      rw [if_neg (by rw [hb]; decide), wrap_succ i (by omega), Bool.false_or]
      exact ih k (i + 1) (by omega) (by omega)
theorem right_f (l : List Int) (hl : l.length ≤ 140737488355328) (k : Nat) (hk : l.length < k) : bits_Right.f k l = some (!l.any big) := by
  obtain ⟨r, h1, h2⟩ := index_l0 l hl l.length k 0 (by omega) hk
  unfold bits_Right.f slices_ContainsFunc_byte_byte.f slices_IndexFunc_byte_byte.f
  rw [show slices_IndexFunc_byte_byte.l0 k l (l.length : Int) 0 = some r from h1]
  simp only [Option.bind_some]
  rw [h2]; rfl
theorem rright_l0 (l : List Int) (hl : l.length ≤ 140737488355328) (d : Nat) : ∀ k i : Nat, i + d = l.length → d < k → shuttleref01_Right.l0 k l (i : Int) = some (!(l.drop i).any big) := by
  induction d with
  | zero =>
    intro k i hi hk
    obtain ⟨k, rfl⟩ := pred hk
    simp only [shuttleref01_Right.l0]
    rw [if_neg (by omega), List.drop_eq_nil_of_le (by omega)]; rfl
  | succ d ih =>
    intro k i hi hk
    obtain ⟨k, rfl⟩ := pred hk
    have hlt : i < l.length := by omega
    simp only [shuttleref01_Right.l0]
    rw [if_pos (by omega), if_pos (by omega), rd_get l i hlt, drop_cons l i hlt, List.any_cons]
    cases hb : big l[i] with
    | true =>
      rw [if_pos (of_decide_eq_true hb)]; rfl
    | false =>
      rw [if_neg (of_decide_eq_false hb), wrap_succ i (by omega), Bool.false_or]
      exact ih k (i + 1) (by omega) (by omega)
theorem rright_f (l : List Int) (hl : l.length ≤ 140737488355328) (k : Nat) (hk : l.length < k) : shuttleref01_Right.f k l = some (!l.any big) := by
  have := rright_l0 l hl l.length k 0 (by omega) hk
  exact this

end Go.Proofs.YtmajbcglpcagoaaDoor.X

-- YtmajbcglpcagoaaDoorXConv
namespace Go.Proofs.YtmajbcglpcagoaaDoor.X
open Go.RowKit Go.Proofs.YtmajbcglpcagoaaDoorW.PrintWords Go.Proofs.YtmajbcglpcagoaaDoorW.PrintLast Go.Proofs.YtmajbcglpcagoaaDoorW.PrintMore
set_option linter.unusedVariables false
theorem tap_isb (s k : Nat) : isb (tapAt s k) := getD_isb (l := tapsL) (by unfold isb tapsL; decide) _
/-- Of seven bits, the newest first, what a stream tells. -/
def bitB (b : Nat → Int) (s : Nat) : Nat → Int
  | 0 => 0
  | k + 1 => Go.bits .xor .u8 (bitB b s k) (Go.bits .and .u8 (tapAt s k) (b k))
theorem bitB_isb {b : Nat → Int} (hb : ∀ j, isb (b j)) (s : Nat) : ∀ k, isb (bitB b s k)
  | 0 => .inl rfl
  | k + 1 => xor_isb (bitB_isb hb s k) (and_isb (tap_isb s k) (hb k))
theorem bitB_congr {b c : Nat → Int} (s : Nat) : ∀ k, (∀ j, j < k → b j = c j) → bitB b s k = bitB c s k
  | 0, _ => rfl
  | k + 1, h => by unfold bitB; rw [bitB_congr s k (fun j hj => h j (by omega)), h k (by omega)]
theorem bitB_zero (s : Nat) : ∀ k, bitB (fun _ => 0) s k = 0
  | 0 => rfl
  | k + 1 => by unfold bitB; rw [bitB_zero s k, and_zero (tap_isb s k)]; decide +kernel
theorem bitB_xor {b c : Nat → Int} (hb : ∀ j, isb (b j)) (hc : ∀ j, isb (c j)) (s : Nat) : ∀ k, bitB (fun j => Go.bits .xor .u8 (b j) (c j)) s k = Go.bits .xor .u8 (bitB b s k) (bitB c s k)
  | 0 => by show (0 : Int) = Go.bits .xor .u8 0 0; decide +kernel
  | k + 1 => by
    unfold bitB
    rw [bitB_xor hb hc s k]
    exact step_lin (bitB_isb hb s k) (bitB_isb hc s k) (tap_isb s k) (hb k) (hc k)
/-- The bit of a list that lies k steps behind a step. -/
def lb (l : List Int) (t k : Nat) : Int := if k ≤ t then l.getD (t - k) 0 else 0
theorem lb_isb {l : List Int} (h : ∀ x ∈ l, isb x) (t k : Nat) : isb (lb l t k) := by
  unfold lb; split
  · exact getD_isb h _
  · exact .inl rfl
theorem lb_succ (l : List Int) (t k : Nat) : lb l (t + 1) (k + 1) = lb l t k := by
  unfold lb
  by_cases h : k ≤ t
  · rw [if_pos h, if_pos (by omega), show t + 1 - (k + 1) = t - k from by omega]
  · rw [if_neg h, if_neg (by omega)]
theorem lb_zero (l : List Int) (t : Nat) : lb l t 0 = l.getD t 0 := by unfold lb; rw [if_pos (by omega)]; rfl
theorem bitR_eq {l : List Int} (h : ∀ x ∈ l, isb x) (t s : Nat) : ∀ k, bitR l t s k = bitB (lb l t) s k
  | 0 => rfl
  | k + 1 => by
    unfold bitR bitB
    rw [bitR_eq h t s k]
    by_cases c : k ≤ t ∧ t - k < l.length
    · rw [if_pos c]; unfold lb; rw [if_pos c.1]
    · rw [if_neg c]
      have e : lb l t k = 0 := by
        unfold lb
        split
        · rw [List.getD_eq_getElem?_getD, List.getElem?_eq_none (by omega)]; rfl
        · rfl
      rw [e, and_zero (tap_isb s k), xor_zero (bitB_isb (lb_isb h t) s k)]
/-- A state's number, a word's. -/
def sd (b : Nat → Int) : Int := 32 * b 1 + 16 * b 2 + 8 * b 3 + 4 * b 4 + 2 * b 5 + b 6
def wd (b : Nat → Int) : Int := 64 * b 0 + sd b
def bw (w j : Nat) : Int := ((w / 2 ^ (6 - j) % 2 : Nat) : Int)
theorem bw_isb (w j : Nat) : isb (bw w j) := by unfold bw; exact isb_of (by omega) (by omega)
theorem sd_in {b : Nat → Int} (hb : ∀ j, isb (b j)) : 0 ≤ sd b ∧ sd b ≤ 63 := by
  have h1 := isb01 (hb 1); have h2 := isb01 (hb 2); have h3 := isb01 (hb 3); have h4 := isb01 (hb 4); have h5 := isb01 (hb 5); have h6 := isb01 (hb 6)
  unfold sd; omega
theorem wd_in {b : Nat → Int} (hb : ∀ j, isb (b j)) : 0 ≤ wd b ∧ wd b ≤ 127 := by
  have := sd_in hb; have h0 := isb01 (hb 0)
  unfold wd; omega
theorem bw_wd {b : Nat → Int} (hb : ∀ j, isb (b j)) (j : Nat) (hj : j < 7) : bw (wd b).toNat j = b j := by
  have h0 := isb01 (hb 0); have h1 := isb01 (hb 1); have h2 := isb01 (hb 2); have h3 := isb01 (hb 3); have h4 := isb01 (hb 4); have h5 := isb01 (hb 5); have h6 := isb01 (hb 6)
  unfold bw wd sd
  obtain rfl | rfl | rfl | rfl | rfl | rfl | rfl : j = 0 ∨ j = 1 ∨ j = 2 ∨ j = 3 ∨ j = 4 ∨ j = 5 ∨ j = 6 := by omega
  all_goals (simp only [Nat.sub_zero, Nat.reduceSub, Nat.reducePow]; omega)
theorem out_all : ∀ w : Fin 128, conv_out.f ((w.val : Nat) : Int) = some (bitB (bw w.val) 0 7, bitB (bw w.val) 1 7, bitB (bw w.val) 2 7, bitB (bw w.val) 3 7) := by decide +kernel
theorem word_all : ∀ s : Fin 64, ∀ b : Fin 2, conv_word.f ((s.val : Nat) : Int) ((b.val : Nat) : Int) = some ((64 * b.val + s.val : Nat) : Int) := by decide +kernel
theorem word_f {s b : Int} (hs : 0 ≤ s ∧ s ≤ 63) (hb : isb b) : conv_word.f s b = some (64 * b + s) := by
  have hb' := isb01 hb
  have := word_all ⟨s.toNat, by omega⟩ ⟨b.toNat, by omega⟩
  rw [show (((⟨s.toNat, by omega⟩ : Fin 64).val : Nat) : Int) = s from by show ((s.toNat : Nat) : Int) = s; omega, show (((⟨b.toNat, by omega⟩ : Fin 2).val : Nat) : Int) = b from by show ((b.toNat : Nat) : Int) = b; omega] at this
  rw [this]
  congr 1
  show ((64 * b.toNat + s.toNat : Nat) : Int) = _
  omega
theorem out_f {b : Nat → Int} (hb : ∀ j, isb (b j)) : conv_out.f (wd b) = some (bitB b 0 7, bitB b 1 7, bitB b 2 7, bitB b 3 7) := by
  have hw := wd_in hb
  have := out_all ⟨(wd b).toNat, by omega⟩
  rw [show (((⟨(wd b).toNat, by omega⟩ : Fin 128).val : Nat) : Int) = wd b from by show (((wd b).toNat : Nat) : Int) = _; omega] at this
  rw [this]
  have e : ∀ s, bitB (bw (wd b).toNat) s 7 = bitB b s 7 := fun s => bitB_congr s 7 (fun j hj => bw_wd hb j hj)
  simp only [e]
/-- What is told at a step, of a list's first steps. -/
def code4 (l : List Int) (t : Nat) : List Int := [bitB (lb l t) 0 7, bitB (lb l t) 1 7, bitB (lb l t) 2 7, bitB (lb l t) 3 7]
def codeN (l : List Int) : Nat → List Int
  | 0 => []
  | n + 1 => codeN l n ++ code4 l n
def code (l : List Int) : List Int := codeN l (l.length + 6)
theorem codeN_length (l : List Int) : ∀ n, (codeN l n).length = 4 * n
  | 0 => rfl
  | n + 1 => by unfold codeN; rw [List.length_append, codeN_length l n]; show _ + 4 = _; omega
theorem code_length (l : List Int) : (code l).length = 4 * (l.length + 6) := codeN_length l _
theorem code4_isb {l : List Int} (h : ∀ x ∈ l, isb x) (t : Nat) : ∀ x ∈ code4 l t, isb x := by
  intro x hx
  simp only [code4, List.mem_cons, List.not_mem_nil, or_false] at hx
  rcases hx with rfl | rfl | rfl | rfl <;> exact bitB_isb (lb_isb h t) _ _
theorem codeN_isb {l : List Int} (h : ∀ x ∈ l, isb x) : ∀ n, ∀ x ∈ codeN l n, isb x
  | 0 => by intro x hx; cases hx
  | n + 1 => by
    intro x hx
    unfold codeN at hx
    rcases List.mem_append.1 hx with hx | hx
    · exact codeN_isb h n x hx
    · exact code4_isb h n x hx
theorem sd_succ (l : List Int) (h : ∀ x ∈ l, isb x) (t : Nat) : sd (lb l (t + 1)) = wd (lb l t) / 2 := by
  have h6 := isb01 (lb_isb h t 6)
  unfold wd sd
  rw [lb_succ, lb_succ, lb_succ, lb_succ, lb_succ, lb_succ]
  omega
theorem sd_start (l : List Int) : sd (lb l 0) = 0 := by
  unfold sd lb; rfl
theorem code_l0 (l : List Int) (h : ∀ x ∈ l, isb x) (hl : l.length ≤ 16384) (d : Nat) : ∀ k i : Nat, i + d = l.length + 6 → d < k →
    conv_Code.l0 k l (codeN l i) (sd (lb l i)) ((l.length : Int) + 6) (i : Int) = some (code l, 0) := by
  induction d with
  | zero =>
    intro k i hi hk
    obtain ⟨k, rfl⟩ := pred hk
    obtain rfl : i = l.length + 6 := by omega
    simp only [conv_Code.l0]
    rw [if_neg (by omega)]; rfl
  | succ d ih =>
    intro k i hi hk
    obtain ⟨k, rfl⟩ := pred hk
    have hs := sd_in (lb_isb h i)
    have hw := wd_in (lb_isb h i)
    have hn := ih k (i + 1) (by omega) (by omega)
    have ew : conv_word.f (sd (lb l i)) (lb l i 0) = some (wd (lb l i)) := word_f hs (lb_isb h i 0)
    have hlen : (codeN l i).length + [bitB (lb l i) 0 7, bitB (lb l i) 1 7, bitB (lb l i) 2 7, bitB (lb l i) 3 7].length < 140737488355328 := by
      rw [codeN_length]; show 4 * i + 4 < _; omega
    have e2 : wrap64 (wd (lb l i) / 2) = sd (lb l (i + 1)) := by rw [sd_succ l h, wrap_in (by omega) (by omega)]
    simp only [conv_Code.l0]
    rw [if_pos (by omega)]
    by_cases c : (i : Int) < (l.length : Int)
    · rw [if_pos c, if_pos (by omega), rd_getD, ← lb_zero l i, ew, Option.bind_some, out_f (lb_isb h i), Option.bind_some, if_pos hlen, e2, wrap_succ i (by omega)]
      exact hn
    · have e0 : lb l i 0 = 0 := by
        rw [lb_zero, List.getD_eq_getElem?_getD, List.getElem?_eq_none (by omega)]; rfl
      rw [if_neg c]
      rw [e0] at ew
      rw [ew, Option.bind_some, out_f (lb_isb h i), Option.bind_some, if_pos hlen, e2, wrap_succ i (by omega)]
      exact hn
theorem big_isb {l : List Int} (h0 : ∀ x ∈ l, 0 ≤ x) : l.any big = false ↔ ∀ x ∈ l, isb x := by
  constructor
  · intro h x hx
    have := List.any_eq_false.1 h x hx
    unfold big at this
    have := h0 x hx
    exact isb_of this (by simpa using ‹¬decide (x > 1) = true›)
  · intro h
    rw [List.any_eq_false]
    intro x hx
    have := isb01 (h x hx)
    unfold big
    simp; omega
theorem Code_f (l : List Int) (h : ∀ x ∈ l, isb x) (hl : l.length ≤ 16384) (k : Nat) (hk : l.length + 6 < k) : conv_Code.f k l = some (code l, 0) := by
  unfold conv_Code.f
  rw [right_f l (by omega) k (by omega), (big_isb (fun x hx => (isb01 (h x hx)).1)).2 h, Option.bind_some, if_pos (show (!false) = true from rfl), if_neg (by omega)]
  unfold conv_Steps.f
  rw [if_neg (by omega), Option.bind_some, wrap_in (by omega) (by omega)]
  have := code_l0 l h hl (l.length + 6) k 0 (by omega) (by omega)
  rw [sd_start] at this
  exact this
theorem Code_no (l : List Int) (h : l.any big = true) (hl : l.length ≤ 16384) (k : Nat) (hk : l.length < k) : conv_Code.f k l = some ([], 5) := by
  unfold conv_Code.f
  rw [right_f l (by omega) k (by omega), h, Option.bind_some, if_neg (show ¬ (!true) = true by decide)]
theorem rbit_f (l : List Int) (h : ∀ x ∈ l, isb x) (t s : Nat) (ht : (t : Int) ≤ 9223372036854775807) (hs : s < 4) : shuttleref06_Bit.f l (t : Int) (s : Int) = some (bitB (lb l t) s 7) := by
  unfold shuttleref06_Bit.f
  rw [if_pos ⟨by omega, ht, by omega, by omega⟩]
  show some (bitR l t s 7) = _
  rw [bitR_eq h]
theorem rcode_l0 (l : List Int) (h : ∀ x ∈ l, isb x) (hl : l.length ≤ 16384) (d : Nat) : ∀ k i : Nat, i + d = l.length + 6 → 6 * d < k →
    shuttleref06_Code.l0 k l (codeN l i) (i : Int) = some (code l) := by
  induction d with
  | zero =>
    intro k i hi hk
    obtain ⟨k, rfl⟩ := pred (show 0 < k by omega)
    obtain rfl : i = l.length + 6 := by omega
    rw [shuttleref06_Code.l0.eq_2, wrap_in (by omega) (by omega), if_neg (by omega)]; rfl
  | succ d ih =>
    intro k i hi hk
    obtain ⟨k, rfl⟩ : ∃ m, k = m + 6 := ⟨k - 6, by omega⟩
    have hn := ih k (i + 1) (by omega) (by omega)
    have hb := fun s hs => rbit_f l h i s (by omega) hs
    have h0 := hb 0 (by omega); have h1 := hb 1 (by omega); have h2 := hb 2 (by omega); have h3 := hb 3 (by omega)
    have hlen := codeN_length l i
    rw [shuttleref06_Code.l0.eq_2, wrap_in (by omega) (by omega), if_pos (by omega)]
    rw [shuttleref06_Code.l1.eq_2, if_pos (by decide), show ((0 : Int)) = ((0 : Nat) : Int) from rfl, h0, Option.bind_some, if_pos (by omega), show wrap64 (((0 : Nat) : Int) + 1) = ((1 : Nat) : Int) from by unfold wrap64; omega]
    rw [shuttleref06_Code.l1.eq_2, if_pos (by decide), h1, Option.bind_some, if_pos (by simp only [List.length_append, List.length_cons, List.length_nil]; omega), show wrap64 (((1 : Nat) : Int) + 1) = ((2 : Nat) : Int) from by unfold wrap64; omega]
    rw [shuttleref06_Code.l1.eq_2, if_pos (by decide), h2, Option.bind_some, if_pos (by simp only [List.length_append, List.length_cons, List.length_nil]; omega), show wrap64 (((2 : Nat) : Int) + 1) = ((3 : Nat) : Int) from by unfold wrap64; omega]
    rw [shuttleref06_Code.l1.eq_2, if_pos (by decide), h3, Option.bind_some, if_pos (by simp only [List.length_append, List.length_cons, List.length_nil]; omega), show wrap64 (((3 : Nat) : Int) + 1) = ((4 : Nat) : Int) from by unfold wrap64; omega]
    rw [shuttleref06_Code.l1.eq_2, if_neg (by decide), wrap_succ i (by omega)]
    have e : codeN l i ++ [bitB (lb l i) 0 7] ++ [bitB (lb l i) 1 7] ++ [bitB (lb l i) 2 7] ++ [bitB (lb l i) 3 7] = codeN l (i + 1) := by
      show _ = codeN l i ++ code4 l i
      simp [code4]
    rw [e]
    exact hn
theorem rcode_f (l : List Int) (h : ∀ x ∈ l, isb x) (hl : l.length ≤ 16384) (k : Nat) (hk : 6 * (l.length + 6) < k) : shuttleref06_Code.f k l = some (code l) :=
  rcode_l0 l h hl (l.length + 6) k 0 (by omega) hk
end Go.Proofs.YtmajbcglpcagoaaDoor.X

-- YtmajbcglpcagoaaDoorXConv2
namespace Go.Proofs.YtmajbcglpcagoaaDoor.X
open Go.RowKit Go.Proofs.YtmajbcglpcagoaaDoorW.PrintWords Go.Proofs.YtmajbcglpcagoaaDoorW.PrintLast Go.Proofs.YtmajbcglpcagoaaDoorW.PrintMore
set_option linter.unusedVariables false
theorem codeN_succ (l : List Int) (n : Nat) : codeN l (n + 1) = codeN l n ++ code4 l n := rfl
theorem code4_getD (l : List Int) (t s : Nat) (hs : s < 4) : (code4 l t).getD s 0 = bitB (lb l t) s 7 := by
  obtain rfl | rfl | rfl | rfl : s = 0 ∨ s = 1 ∨ s = 2 ∨ s = 3 := by omega
  all_goals rfl
theorem codeN_getD (l : List Int) (t s : Nat) (hs : s < 4) : ∀ n, t < n → (codeN l n).getD (4 * t + s) 0 = bitB (lb l t) s 7
  | 0, h => by omega
  | n + 1, h => by
    unfold codeN
    rw [List.getD_eq_getElem?_getD]
    by_cases c : t < n
    · rw [List.getElem?_append_left (by rw [codeN_length]; omega), ← List.getD_eq_getElem?_getD]
      exact codeN_getD l t s hs n c
    · obtain rfl : t = n := by omega
      rw [List.getElem?_append_right (by rw [codeN_length]; omega), codeN_length, show 4 * t + s - 4 * t = s from by omega, ← List.getD_eq_getElem?_getD]
      exact code4_getD l t s hs
/-- Two lists by exclusive or, their first n places. -/
def zx (a b : List Int) (n : Nat) : List Int := (List.range n).map fun j => Go.bits .xor .u8 (a.getD j 0) (b.getD j 0)
theorem zx_length (a b : List Int) (n : Nat) : (zx a b n).length = n := by simp [zx]
theorem zx_succ (a b : List Int) (n : Nat) : zx a b (n + 1) = zx a b n ++ [Go.bits .xor .u8 (a.getD n 0) (b.getD n 0)] := by
  unfold zx; rw [List.range_succ, List.map_append]; rfl
theorem zx_isb {a b : List Int} (ha : ∀ x ∈ a, isb x) (hb : ∀ x ∈ b, isb x) (n : Nat) : ∀ x ∈ zx a b n, isb x := by
  intro x hx
  simp only [zx, List.mem_map] at hx
  obtain ⟨j, _, rfl⟩ := hx
  exact xor_isb (getD_isb ha j) (getD_isb hb j)
theorem take_getD (a : List Int) (n j : Nat) (h : j < n) : (a.take n).getD j 0 = a.getD j 0 := by
  rw [List.getD_eq_getElem?_getD, List.getElem?_take, if_pos h, ← List.getD_eq_getElem?_getD]
theorem getD_out (a : List Int) (j : Nat) (h : a.length ≤ j) : a.getD j 0 = 0 := by
  rw [List.getD_eq_getElem?_getD, List.getElem?_eq_none h]; rfl
theorem zx_getD (a b : List Int) (n j : Nat) : (zx a b n).getD j 0 = Go.bits .xor .u8 ((a.take n).getD j 0) ((b.take n).getD j 0) := by
  by_cases h : j < n
  · rw [take_getD a n j h, take_getD b n j h]
    unfold zx
    rw [List.getD_eq_getElem?_getD, List.getElem?_map, List.getElem?_range h]; rfl
  · rw [getD_out _ _ (by rw [zx_length]; omega), getD_out (a.take n) j (by rw [List.length_take]; omega), getD_out (b.take n) j (by rw [List.length_take]; omega)]
    decide +kernel
theorem lb_zx (a b : List Int) (n t k : Nat) : lb (zx a b n) t k = Go.bits .xor .u8 (lb (a.take n) t k) (lb (b.take n) t k) := by
  unfold lb
  by_cases h : k ≤ t
  · rw [if_pos h, if_pos h, if_pos h, zx_getD]
  · rw [if_neg h, if_neg h, if_neg h]; decide +kernel
theorem take_isb {a : List Int} (h : ∀ x ∈ a, isb x) (n : Nat) : ∀ x ∈ a.take n, isb x := fun x hx => h x (List.mem_of_mem_take hx)
theorem bit_zx {a b : List Int} (ha : ∀ x ∈ a, isb x) (hb : ∀ x ∈ b, isb x) (n t s : Nat) :
    bitB (lb (zx a b n) t) s 7 = Go.bits .xor .u8 (bitB (lb (a.take n) t) s 7) (bitB (lb (b.take n) t) s 7) := by
  rw [← bitB_xor (lb_isb (take_isb ha n) t) (lb_isb (take_isb hb n) t) s 7]
  exact bitB_congr s 7 fun j _ => lb_zx a b n t j
/-- The newest bit is told by each stream. -/
theorem newest_all : ∀ w : Fin 64, ∀ s : Fin 4, bitB (bw w.val) s.val 7 ≠ bitB (bw (64 + w.val)) s.val 7 := by decide +kernel
theorem bitB_wd {b : Nat → Int} (hb : ∀ j, isb (b j)) (s : Nat) : bitB b s 7 = bitB (bw (wd b).toNat) s 7 := bitB_congr s 7 fun j hj => (bw_wd hb j hj).symm
theorem newest {b c : Nat → Int} (hb : ∀ j, isb (b j)) (hc : ∀ j, isb (c j)) (h : ∀ j, 1 ≤ j → j ≤ 6 → b j = c j) (s : Nat) (hs : s < 4) (e : bitB b s 7 = bitB c s 7) : b 0 = c 0 := by
  have hsd : sd b = sd c := by
    unfold sd
    rw [h 1 (by omega) (by omega), h 2 (by omega) (by omega), h 3 (by omega) (by omega), h 4 (by omega) (by omega), h 5 (by omega) (by omega), h 6 (by omega) (by omega)]
  have i1 := sd_in hb
  rw [bitB_wd hb, bitB_wd hc] at e
  have n1 := newest_all ⟨(sd b).toNat, by omega⟩ ⟨s, hs⟩
  have e1 : wd b = 64 * b 0 + sd b := rfl
  have e2 : wd c = 64 * c 0 + sd b := by rw [hsd]; rfl
  rcases hb 0 with h0 | h0 <;> rcases hc 0 with k0 | k0
  · rw [h0, k0]
  · exfalso
    rw [e1, e2, h0, k0, show (64 * 0 + sd b).toNat = (sd b).toNat from by omega, show (64 * 1 + sd b).toNat = 64 + (sd b).toNat from by omega] at e
    exact n1 e
  · exfalso
    rw [e1, e2, h0, k0, show (64 * 0 + sd b).toNat = (sd b).toNat from by omega, show (64 * 1 + sd b).toNat = 64 + (sd b).toNat from by omega] at e
    exact n1 e.symm
  · rw [h0, k0]
/-- Lists that tell the same in one stream at each step are the same. -/
theorem same_of {a b : List Int} (ha : ∀ x ∈ a, isb x) (hb : ∀ x ∈ b, isb x) (hl : a.length = b.length) (sel : Nat → Nat) (hs : ∀ t, sel t < 4)
    (h : ∀ t, t < a.length → bitB (lb a t) (sel t) 7 = bitB (lb b t) (sel t) 7) : a = b := by
  have key : ∀ m t, t < m → t < a.length → a.getD t 0 = b.getD t 0 := by
    intro m
    induction m with
    | zero => intro t h1; omega
    | succ m ih =>
      intro t h1 h2
      have := newest (lb_isb ha t) (lb_isb hb t) (fun j h3 h4 => by
        unfold lb
        by_cases c : j ≤ t
        · rw [if_pos c, if_pos c]; exact ih (t - j) (by omega) (by omega)
        · rw [if_neg c, if_neg c]) (sel t) (hs t) (h t h2)
      rwa [lb_zero, lb_zero] at this
  refine List.ext_getElem? fun t => ?_
  by_cases c : t < a.length
  · have := key (t + 1) t (by omega) c
    rw [List.getD_eq_getElem?_getD, List.getD_eq_getElem?_getD, List.getElem?_eq_getElem c, List.getElem?_eq_getElem (by omega)] at this
    rw [List.getElem?_eq_getElem c, List.getElem?_eq_getElem (by omega)]
    exact congrArg some this
  · rw [List.getElem?_eq_none (by omega), List.getElem?_eq_none (by omega)]
/-- Behind noughts. -/
theorem lb_late (l : List Int) (n m k : Nat) : lb (List.replicate n 0 ++ l) (n + m) k = lb l m k := by
  unfold lb
  by_cases c : k ≤ m
  · rw [if_pos (by omega), if_pos c, List.getD_eq_getElem?_getD, List.getElem?_append_right (by rw [List.length_replicate]; omega), List.length_replicate, show n + m - k - n = m - k from by omega, ← List.getD_eq_getElem?_getD]
  · rw [if_neg c]
    by_cases c2 : k ≤ n + m
    · rw [if_pos c2, List.getD_eq_getElem?_getD, List.getElem?_append_left (by rw [List.length_replicate]; omega), List.getElem?_replicate, if_pos (by omega)]; rfl
    · rw [if_neg c2]
theorem lb_nought (l : List Int) (n t k : Nat) (h : t < n) : lb (List.replicate n 0 ++ l) t k = 0 := by
  unfold lb
  by_cases c : k ≤ t
  · rw [if_pos c, List.getD_eq_getElem?_getD, List.getElem?_append_left (by rw [List.length_replicate]; omega), List.getElem?_replicate, if_pos (by omega)]; rfl
  · rw [if_neg c]
theorem codeN_nought (l : List Int) (n : Nat) : ∀ m, m ≤ n → codeN (List.replicate n 0 ++ l) m = List.replicate (4 * m) 0
  | 0, _ => rfl
  | m + 1, h => by
    unfold codeN
    rw [codeN_nought l n m (by omega)]
    have e : ∀ s, bitB (lb (List.replicate n 0 ++ l) m) s 7 = 0 := fun s => (bitB_congr s 7 fun j _ => lb_nought l n m j (by omega)).trans (bitB_zero s 7)
    unfold code4
    rw [e, e, e, e, show 4 * (m + 1) = 4 * m + 4 from by omega, ← List.replicate_append_replicate]
    rfl
theorem codeN_late (l : List Int) (n : Nat) : ∀ m, codeN (List.replicate n 0 ++ l) (n + m) = List.replicate (4 * n) 0 ++ codeN l m
  | 0 => by rw [Nat.add_zero, codeN_nought l n n (Nat.le_refl _)]; show _ = _ ++ []; rw [List.append_nil]
  | m + 1 => by
    have e : ∀ s, bitB (lb (List.replicate n 0 ++ l) (n + m)) s 7 = bitB (lb l m) s 7 := fun s => bitB_congr s 7 fun j _ => lb_late l n m j
    have e4 : code4 (List.replicate n 0 ++ l) (n + m) = code4 l m := by unfold code4; rw [e, e, e, e]
    rw [show n + (m + 1) = (n + m) + 1 from rfl, codeN_succ, codeN_late l n m, e4, codeN_succ, List.append_assoc]
theorem code_late (l : List Int) (n : Nat) : code (List.replicate n 0 ++ l) = List.replicate (4 * n) 0 ++ code l := by
  unfold code
  rw [List.length_append, List.length_replicate, Nat.add_assoc, codeN_late]
end Go.Proofs.YtmajbcglpcagoaaDoor.X

-- YtmajbcglpcagoaaDoorPureTrellisPaths
namespace Go.Proofs.YtmajbcglpcagoaaDoor.Pure
open Go.RowKit Go.Proofs.YtmajbcglpcagoaaDoor.X Go.Proofs.YtmajbcglpcagoaaDoorW.PrintWords Go.Proofs.YtmajbcglpcagoaaDoorW.PrintLast Go.Proofs.YtmajbcglpcagoaaDoorW.PrintMore
set_option linter.unusedVariables false

theorem mn_nat100 (a : Nat) : mn (a : Int) 100 = ((min a 100 : Nat) : Int) := by unfold mn; split <;> omega
theorem leads_ok : shuttlelaw07_leads.f = some true := by decide +kernel
theorem edge_all : ∀ s : Fin 64, ∀ b : Fin 2, trellis_edge.f ((s.val : Nat) : Int) ((b.val : Nat) : Int) = some (((s.val : Nat) : Int), ((64 * b.val + s.val : Nat) : Int) / 2, ((b.val : Nat) : Int), bitB (bw (64 * b.val + s.val)) 0 7, bitB (bw (64 * b.val + s.val)) 1 7, bitB (bw (64 * b.val + s.val)) 2 7, bitB (bw (64 * b.val + s.val)) 3 7, 0) := by
  set_option synthInstance.maxSize 4000 in
  set_option synthInstance.maxHeartbeats 400000 in
  decide +kernel
theorem step_all : ∀ s : Fin 64, ∀ b : Fin 2, shuttleref07_Step.f 30 ((s.val : Nat) : Int) ((b.val : Nat) : Int) = some (((s.val : Nat) : Int), ((64 * b.val + s.val : Nat) : Int) / 2, ((b.val : Nat) : Int), bitB (bw (64 * b.val + s.val)) 0 7, bitB (bw (64 * b.val + s.val)) 1 7, bitB (bw (64 * b.val + s.val)) 2 7, bitB (bw (64 * b.val + s.val)) 3 7) := by
  set_option synthInstance.maxSize 4000 in
  set_option synthInstance.maxHeartbeats 400000 in
  decide +kernel
theorem wd_nat {b : Nat → Int} (hb : ∀ j, isb (b j)) : ∃ s : Fin 64, ∃ x : Fin 2, sd b = ((s.val : Nat) : Int) ∧ b 0 = ((x.val : Nat) : Int) ∧ wd b = ((64 * x.val + s.val : Nat) : Int) := by
  have h0 := isb01 (hb 0)
  have hs := sd_in hb
  refine ⟨⟨(sd b).toNat, by omega⟩, ⟨(b 0).toNat, by omega⟩, ?_, ?_, ?_⟩
  · show sd b = (((sd b).toNat : Nat) : Int); omega
  · show b 0 = (((b 0).toNat : Nat) : Int); omega
  · show wd b = ((64 * (b 0).toNat + (sd b).toNat : Nat) : Int); unfold wd; omega
theorem edge_f {b : Nat → Int} (hb : ∀ j, isb (b j)) : trellis_edge.f (sd b) (b 0) = some (sd b, wd b / 2, b 0, bitB b 0 7, bitB b 1 7, bitB b 2 7, bitB b 3 7, 0) := by
  obtain ⟨s, x, e1, e2, e3⟩ := wd_nat hb
  have := edge_all s x
  rw [bitB_wd hb 0, bitB_wd hb 1, bitB_wd hb 2, bitB_wd hb 3, e3, e1, e2, this]
  rfl
theorem step_f {b : Nat → Int} (hb : ∀ j, isb (b j)) (k : Nat) (hk : 30 ≤ k) : shuttleref07_Step.f k (sd b) (b 0) = some (sd b, wd b / 2, b 0, bitB b 0 7, bitB b 1 7, bitB b 2 7, bitB b 3 7) := by
  obtain ⟨s, x, e1, e2, e3⟩ := wd_nat hb
  have := at_rounds (fun k => shuttleref07_Step.mono _ _ k) hk (step_all s x)
  rw [bitB_wd hb 0, bitB_wd hb 1, bitB_wd hb 2, bitB_wd hb 3, e3, e1, e2, this]
  rfl
def pe24 (l : List Int) (t : Nat) : S24 := ⟨sd (lb l t), wd (lb l t) / 2, lb l t 0, ⟨bitB (lb l t) 0 7, bitB (lb l t) 1 7, bitB (lb l t) 2 7, bitB (lb l t) 3 7⟩⟩
def pe31 (l : List Int) (t : Nat) : S31 := ⟨sd (lb l t), wd (lb l t) / 2, lb l t 0, ⟨bitB (lb l t) 0 7, bitB (lb l t) 1 7, bitB (lb l t) 2 7, bitB (lb l t) 3 7⟩⟩
def P24 (l : List Int) (n : Nat) : List S24 := (List.range n).map (pe24 l)
def P31 (l : List Int) (n : Nat) : List S31 := (List.range n).map (pe31 l)
theorem P24_succ (l : List Int) (n : Nat) : P24 l (n + 1) = P24 l n ++ [pe24 l n] := by unfold P24; rw [List.range_succ, List.map_append]; rfl
theorem P31_succ (l : List Int) (n : Nat) : P31 l (n + 1) = P31 l n ++ [pe31 l n] := by unfold P31; rw [List.range_succ, List.map_append]; rfl
theorem P24_length (l : List Int) (n : Nat) : (P24 l n).length = n := by simp [P24]
theorem P31_length (l : List Int) (n : Nat) : (P31 l n).length = n := by simp [P31]
theorem rd24 (l : List Int) (n i : Nat) (h : i < n) : rd_T24 (P24 l n) (i : Int) = pe24 l i := by
  unfold rd_T24 P24
  rw [Int.toNat_natCast, List.getD_eq_getElem?_getD, List.getElem?_map, List.getElem?_range h]; rfl
theorem rd31 (l : List Int) (n i : Nat) (h : i < n) : rd_T31 (P31 l n) (i : Int) = pe31 l i := by
  unfold rd_T31 P31
  rw [Int.toNat_natCast, List.getD_eq_getElem?_getD, List.getElem?_map, List.getElem?_range h]; rfl
theorem lb_out (l : List Int) (i : Nat) (h : l.length ≤ i) : lb l i 0 = 0 := by
  rw [lb_zero, List.getD_eq_getElem?_getD, List.getElem?_eq_none (by omega)]; rfl
theorem path_l0 (l : List Int) (h : ∀ x ∈ l, isb x) (hl : l.length ≤ 16384) (d : Nat) : ∀ k i : Nat, i + d = l.length + 6 → d < k →
    trellis_Path.l0 k l (P24 l i) (sd (lb l i)) ((l.length : Int) + 6) (i : Int) = some (P24 l (l.length + 6), 0) := by
  induction d with
  | zero =>
    intro k i hi hk
    obtain ⟨k, rfl⟩ := pred hk
    obtain rfl : i = l.length + 6 := by omega
    simp only [trellis_Path.l0]
    rw [if_neg (by omega)]
  | succ d ih =>
    intro k i hi hk
    obtain ⟨k, rfl⟩ := pred hk
    have hn := ih k (i + 1) (by omega) (by omega)
    have ee := edge_f (lb_isb h i)
    have hlen := P24_length l i
    rw [P24_succ, sd_succ l h] at hn
    simp only [trellis_Path.l0]
    rw [if_pos (by omega)]
    by_cases c : (i : Int) < (l.length : Int)
    · rw [if_pos c, if_pos (by omega), rd_getD, ← lb_zero l i, ee, Option.bind_some, if_pos rfl, if_pos (by omega), wrap_succ i (by omega)]
      exact hn
    · have e0 : lb l i 0 = 0 := lb_out l i (by omega)
      rw [e0] at ee
      rw [if_neg c, ee, Option.bind_some, if_pos rfl, if_pos (by omega), wrap_succ i (by omega)]
      rw [show (pe24 l i) = (⟨sd (lb l i), wd (lb l i) / 2, 0, ⟨bitB (lb l i) 0 7, bitB (lb l i) 1 7, bitB (lb l i) 2 7, bitB (lb l i) 3 7⟩⟩ : S24) from by unfold pe24; rw [e0]] at hn
      exact hn
theorem path_f (l : List Int) (h : ∀ x ∈ l, isb x) (hl : l.length ≤ 16384) (k : Nat) (hk : l.length + 6 < k) : trellis_Path.f k l = some (P24 l (l.length + 6), 0) := by
  unfold trellis_Path.f
  rw [Code_f l h hl k hk, Option.bind_some, if_pos rfl]
  unfold conv_Steps.f
  rw [if_neg (by omega), Option.bind_some, wrap_in (by omega) (by omega)]
  have := path_l0 l h hl (l.length + 6) k 0 (by omega) (by omega)
  rw [sd_start] at this
  exact this
theorem rpath_l0 (l : List Int) (h : ∀ x ∈ l, isb x) (hl : l.length ≤ 16384) (d : Nat) : ∀ k i : Nat, i + d = l.length + 6 → d + 30 < k →
    shuttleref07_Path.l0 k l (P31 l i) (sd (lb l i)) (i : Int) = some (P31 l (l.length + 6)) := by
  induction d with
  | zero =>
    intro k i hi hk
    obtain ⟨k, rfl⟩ := pred hk
    obtain rfl : i = l.length + 6 := by omega
    simp only [shuttleref07_Path.l0]
    rw [wrap_in (by omega) (by omega), if_neg (by omega)]
  | succ d ih =>
    intro k i hi hk
    obtain ⟨k, rfl⟩ := pred hk
    have hn := ih k (i + 1) (by omega) (by omega)
    have ee := step_f (lb_isb h i) k (by omega)
    have hlen := P31_length l i
    rw [P31_succ, sd_succ l h] at hn
    simp only [shuttleref07_Path.l0]
    rw [wrap_in (by omega) (by omega), if_pos (by omega)]
    by_cases c : (i : Int) < (l.length : Int)
    · rw [if_pos c, if_pos (by omega), rd_getD, ← lb_zero l i, ee, Option.bind_some, if_pos (by omega), wrap_succ i (by omega)]
      exact hn
    · have e0 : lb l i 0 = 0 := lb_out l i (by omega)
      rw [e0] at ee
      rw [if_neg c, ee, Option.bind_some, if_pos (by omega), wrap_succ i (by omega)]
      rw [show (pe31 l i) = (⟨sd (lb l i), wd (lb l i) / 2, 0, ⟨bitB (lb l i) 0 7, bitB (lb l i) 1 7, bitB (lb l i) 2 7, bitB (lb l i) 3 7⟩⟩ : S31) from by unfold pe31; rw [e0]] at hn
      exact hn
theorem rpath_f (l : List Int) (h : ∀ x ∈ l, isb x) (hl : l.length ≤ 16384) (k : Nat) (hk : l.length + 36 < k) : shuttleref07_Path.f k l = some (P31 l (l.length + 6)) := by
  have := rpath_l0 l h hl (l.length + 6) k 0 (by omega) (by omega)
  rw [sd_start] at this
  exact this
theorem same_ok (a b c d e f g : Int) : shuttlelaw07_same.f a b c d e f g a b c d e f g = some true := by
  unfold shuttlelaw07_same.f
  rw [if_pos rfl, if_pos rfl, if_pos rfl]
  simp
theorem law_l0 (l : List Int) (h : ∀ x ∈ l, isb x) (hl : l.length ≤ 16384) (d : Nat) : ∀ k i : Nat, i + d = l.length + 6 → d + 7 * l.length + 100 < k →
    shuttlelaw07_TrellisPaths.l0 k l (P24 l (l.length + 6)) (P31 l (l.length + 6)) (codeN l i) (i : Int) = some true := by
  induction d with
  | zero =>
    intro k i hi hk
    obtain ⟨k, rfl⟩ := pred hk
    obtain rfl : i = l.length + 6 := by omega
    rw [shuttlelaw07_TrellisPaths.l0.eq_2, P24_length, if_neg (by omega), rcode_f l h hl k (by omega), Option.bind_some]
    show some ((strOfNums (code l)).toList == (strOfNums (code l)).toList) = some true
    simp
  | succ d ih =>
    intro k i hi hk
    obtain ⟨k, rfl⟩ := pred hk
    have hn := ih k (i + 1) (by omega) (by omega)
    have hlen : (codeN l i).length + [(pe24 l i).f3.f0, (pe24 l i).f3.f1, (pe24 l i).f3.f2, (pe24 l i).f3.f3].length < 140737488355328 := by
      rw [codeN_length]; show 4 * i + 4 < _; omega
    have es : shuttlelaw07_same.f (pe24 l i).f0 (pe24 l i).f1 (pe24 l i).f2 (pe24 l i).f3.f0 (pe24 l i).f3.f1 (pe24 l i).f3.f2 (pe24 l i).f3.f3 (pe31 l i).f0 (pe31 l i).f1 (pe31 l i).f2 (pe31 l i).f3.f0 (pe31 l i).f3.f1 (pe31 l i).f3.f2 (pe31 l i).f3.f3 = some true := same_ok _ _ _ _ _ _ _
    have ec : codeN l i ++ [(pe24 l i).f3.f0, (pe24 l i).f3.f1, (pe24 l i).f3.f2, (pe24 l i).f3.f3] = codeN l (i + 1) := rfl
    rw [shuttlelaw07_TrellisPaths.l0.eq_2, P24_length, P31_length, if_pos (by omega), if_pos (by omega), if_pos (by omega), rd24 l _ i (by omega), rd31 l _ i (by omega), es, Option.bind_some, if_pos rfl]
    by_cases c : (i : Int) > 0
    · obtain ⟨j, rfl⟩ : ∃ j, i = j + 1 := ⟨i - 1, by omega⟩
      have e1 : wrap64 (((j + 1 : Nat) : Int) - 1) = (j : Int) := by rw [wrap_in (by omega) (by omega)]; omega
      have e2 : (pe24 l (j + 1)).f0 = (pe24 l j).f1 := sd_succ l h j
      rw [if_pos c, e1, if_pos (by omega), if_pos (by omega), rd24 l _ j (by omega), if_pos e2, if_pos hlen, ec, wrap_succ (j + 1) (by omega)]
      exact hn
    · rw [if_neg c, if_pos hlen, ec, wrap_succ i (by omega)]
      exact hn
theorem last_to (l : List Int) (h : ∀ x ∈ l, isb x) : (pe24 l (l.length + 5)).f1 = 0 := by
  have hz : ∀ k, k ≤ 5 → lb l (l.length + 5) k = 0 := by
    intro k hk
    unfold lb
    rw [if_pos (by omega), List.getD_eq_getElem?_getD, List.getElem?_eq_none (by omega)]; rfl
  show wd (lb l (l.length + 5)) / 2 = 0
  have h6 := isb01 (lb_isb h (l.length + 5) 6)
  unfold wd sd
  rw [hz 0 (by omega), hz 1 (by omega), hz 2 (by omega), hz 3 (by omega), hz 4 (by omega), hz 5 (by omega)]
  omega
theorem TrellisPaths : shuttlelaw07_TrellisPaths.Pure := by
  intro l0 m0 _ w0
  refine ⟨10000, ?_⟩
  unfold shuttlelaw07_TrellisPaths.f
  rw [mn_nat100, Option.bind_some, if_pos (by omega), if_pos (by omega), Int.toNat_natCast, List.length_nil, Nat.zero_add, List.nil_append]
  have hl : (l0.take (min l0.length 100)).length ≤ 100 := by rw [List.length_take]; omega
  have hw : ∀ x ∈ l0.take (min l0.length 100), 0 ≤ x ∧ x ≤ 255 := fun x hx => u8_of_wf w0 x (List.mem_of_mem_take hx)
  generalize l0.take (min l0.length 100) = l at *
  rw [if_pos (by omega), Option.bind_some]
  cases hb : l.any big with
  | true =>
    have e1 : trellis_Path.f 10000 l = some ([], 5) := by
      unfold trellis_Path.f
      rw [Code_no l hb (by omega) 10000 (by omega), Option.bind_some, if_neg (by decide)]
    rw [e1, Option.bind_some, leads_ok, Option.bind_some, if_pos rfl, show (10000 : Nat) = 9999 + 1 from rfl, shuttlelaw07_TrellisPaths.j0.eq_2, if_neg (by simp), rright_f l (by omega) 9999 (by omega), hb, Option.bind_some, if_neg (by decide), if_pos rfl]
    rfl
  | false =>
    have hp := (big_isb (fun x hx => (hw x hx).1)).1 hb
    have e1 := path_f l hp (by omega) 10000 (by omega)
    have e2 := rpath_f l hp (by omega) 9999 (by omega)
    have e3 := law_l0 l hp (by omega) (l.length + 6) 9997 0 (by omega) (by omega)
    have e4 : wrap64 (((l.length + 6 : Nat) : Int) - 1) = ((l.length + 5 : Nat) : Int) := by rw [wrap_in (by omega) (by omega)]; omega
    rw [e1, Option.bind_some, leads_ok, Option.bind_some, if_pos rfl, show (10000 : Nat) = 9999 + 1 from rfl, shuttlelaw07_TrellisPaths.j0.eq_2, if_neg (by simp), rright_f l (by omega) 9999 (by omega), hb, Option.bind_some, if_pos (by decide), e2, Option.bind_some, if_pos rfl, P24_length, P31_length, if_pos rfl, e4, if_pos (by omega), if_pos (by omega), rd24 l _ _ (by omega), last_to l hp]
    rw [show (9999 : Nat) = 9998 + 1 from rfl, shuttlelaw07_TrellisPaths.j1.eq_2, if_neg (by decide), show (9998 : Nat) = 9997 + 1 from rfl]
    exact at_rounds (fun k => (shuttlelaw07_TrellisPaths.mono_l k).2.2 _ _ _ _ _) (by omega : 9997 ≤ 9998) e3

end Go.Proofs.YtmajbcglpcagoaaDoor.Pure
