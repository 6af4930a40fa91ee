/- The reader's answers are the document's, in plain words. No condition but bounds. -/
import Derived.Test.YtmajbcglpcagoaaBBitioB
import Derived.Test.YtmajbcglpcagoaaB23
import Derived.Test.YtmajbcglpcagoaaB24
namespace Go.Proofs.Ytmajbcglpcagoaa.B
open Go Go.RowKit Go.Proofs.YtmajbcglpcagoaaW.PrintWords Go.Proofs.YtmajbcglpcagoaaW.PrintLast Go.Proofs.YtmajbcglpcagoaaW.PrintMore
set_option linter.unusedVariables false
set_option linter.unusedSimpArgs false

theorem snoc_ind {P : List Int → Prop} (h0 : P []) (h1 : ∀ l b, P l → P (l ++ [b])) : ∀ l, P l := by
  intro l
  rw [← List.reverse_reverse l]
  induction l.reverse with
  | nil => exact h0
  | cons a t ih => rw [List.reverse_cons]; exact h1 _ _ ih
/-- A number of some bits, in plain words. -/
def num (l : List Int) : Nat := l.foldl (fun n b => 2 * n + b.toNat) 0
theorem num_snoc (l : List Int) (b : Int) : num (l ++ [b]) = 2 * num l + b.toNat := by simp [num]
theorem num_lt (l : List Int) (h : ∀ x ∈ l, bit x) : num l < 2 ^ l.length := by
  revert h
  induction l using snoc_ind with
  | h0 => intro _; simp [num]
  | h1 l b ih =>
    intro h
    rw [num_snoc, List.length_append, show [b].length = 1 from rfl, Nat.pow_succ]
    have h1 := ih (fun x hx => h x (List.mem_append.2 (.inl hx)))
    have h2 := h b (by simp)
    unfold bit at h2
    omega
theorem tk_step (n : Nat) (hn : n < 2 ^ 32) (b : Int) (hb : bit b) : tkS (n : Int) b = ((2 * n + b.toNat : Nat) : Int) := by
  unfold tkS
  have hb2 : b.toNat < 2 := by unfold bit at hb; omega
  have e1 : wrap64 ((n : Int) * 2) = ((2 * n : Nat) : Int) := by rw [wrap_in (by omega) (by omega)]; omega
  have e2 : wrap64 b = ((b.toNat : Nat) : Int) := by
    unfold bit at hb; rw [wrap_in (by omega) (by omega)]; omega
  rw [e1, e2, i64_or_nat _ _ (by omega) (by omega)]
  have := Nat.two_pow_add_eq_or_of_lt (i := 1) (b := b.toNat) (by omega) n
  congr 1
  rw [show 2 ^ 1 * n = 2 * n by omega] at this
  exact this.symm
theorem tk_fold (l : List Int) (h : ∀ x ∈ l, bit x) (hl : l.length ≤ 32) : l.foldl tkS 0 = ((num l : Nat) : Int) := by
  revert h hl
  induction l using snoc_ind with
  | h0 => intro _ _; rfl
  | h1 l b ih =>
    intro h hl
    rw [List.length_append, show [b].length = 1 from rfl] at hl
    have hb : ∀ x ∈ l, bit x := fun x hx => h x (List.mem_append.2 (.inl hx))
    have := num_lt l hb
    have h2 : 2 ^ l.length ≤ 2 ^ 32 := Nat.pow_le_pow_right (by decide) (by omega)
    rw [List.foldl_append, ih hb (by omega), List.foldl_cons, List.foldl_nil, tk_step _ (by omega) b (h b (by simp)), num_snoc]
theorem take_bits {l : List Int} (h : ∀ x ∈ l, bit x) (n : Nat) : ∀ x ∈ l.take n, bit x := fun x hx => h x (List.mem_of_mem_take hx)
theorem drop_bits {l : List Int} (h : ∀ x ∈ l, bit x) (n : Nat) : ∀ x ∈ l.drop n, bit x := fun x hx => h x (List.mem_of_mem_drop hx)
theorem rtake_l0 (l : List Int) (h : ∀ x ∈ l, bit x) (W : Nat) (hW : W ≤ 32) (hWl : W ≤ l.length) (d : Nat) : ∀ k i : Nat, i + d = W → d < k →
    shuttleref02_Take.l0 k l (W : Int) ((num (l.take i) : Nat) : Int) (i : Int) = some (((num (l.take W) : Nat) : Int), (W : Int), 0) := by
  induction d with
  | zero =>
    intro k i hi hk
    obtain ⟨k, rfl⟩ := pred hk
    obtain rfl : i = W := by omega
    simp only [shuttleref02_Take.l0]
    rw [if_neg (by omega)]
  | succ d ih =>
    intro k i hi hk
    obtain ⟨k, rfl⟩ := pred hk
    have hil : i < l.length := by omega
    have hn := num_lt (l.take i) (take_bits h i)
    have h2 : 2 ^ (l.take i).length ≤ 2 ^ 32 := Nat.pow_le_pow_right (by decide) (by rw [List.length_take]; omega)
    have hb := h l[i] (List.getElem_mem hil)
    simp only [shuttleref02_Take.l0]
    rw [if_pos (by omega), if_pos (by omega), if_pos (by omega), rd_get l i hil, wrap_succ i (by omega)]
    have e : wrap64 (wrap64 (2 * ((num (l.take i) : Nat) : Int)) + wrap64 l[i]) = ((num (l.take (i + 1)) : Nat) : Int) := by
      rw [take_snoc l i hil, num_snoc]
      unfold bit at hb
      rw [wrap_in (n := 2 * _) (by omega) (by omega), wrap_in (n := l[i]) (by omega) (by omega), wrap_in (by omega) (by omega)]
      omega
    rw [e]
    exact ih k (i + 1) (by omega) (by omega)
theorem rtake_f (l : List Int) (h : ∀ x ∈ l, bit x) (wd : Int) : shuttleref02_Take.f 100 l wd = some (tkN l wd, (if tkE l wd = 0 then wd else 0), tkE l wd) := by
  unfold shuttleref02_Take.f
  by_cases h1 : wd < 1
  · have hw : bitioWidthF wd = false := by unfold bitioWidthF; rw [Bool.and_eq_false_iff]; left; exact decide_eq_false (by omega)
    have e : tkE l wd = 1 := by unfold tkE; rw [hw, if_neg (by decide)]
    have e2 : tkN l wd = 0 := by unfold tkN; rw [e, if_neg (by decide)]
    rw [if_pos h1, e, e2, if_neg (by decide)]; rfl
  · rw [if_neg h1]
    by_cases h2 : wd > 32
    · have hw : bitioWidthF wd = false := by unfold bitioWidthF; rw [Bool.and_eq_false_iff]; right; exact decide_eq_false (by omega)
      have e : tkE l wd = 1 := by unfold tkE; rw [hw, if_neg (by decide)]
      have e2 : tkN l wd = 0 := by unfold tkN; rw [e, if_neg (by decide)]
      rw [e, e2, if_neg (by decide), decide_eq_true h2]; rfl
    · have hw : bitioWidthF wd = true := by unfold bitioWidthF; rw [Bool.and_eq_true]; exact ⟨decide_eq_true (by omega), decide_eq_true (by omega)⟩
      rw [decide_eq_false h2, shuttleref02_Take.j0.eq_2, if_neg (by decide)]
      by_cases hs : (l.length : Int) < wd
      · have e : tkE l wd = 2 := by unfold tkE; rw [hw, if_pos rfl, if_pos hs]
        have e2 : tkN l wd = 0 := by unfold tkN; rw [e, if_neg (by decide)]
        rw [if_pos hs, e, e2, if_neg (by decide)]
      · have e : tkE l wd = 0 := by unfold tkE; rw [hw, if_pos rfl, if_neg hs]
        obtain ⟨W, rfl⟩ := Int.eq_ofNat_of_zero_le (show 0 ≤ wd by omega)
        have e2 : tkN l (W : Int) = ((num (l.take W) : Nat) : Int) := by
          unfold tkN; rw [e, if_pos rfl, Int.toNat_natCast, tk_fold _ (take_bits h W) (by rw [List.length_take]; omega)]
        rw [if_neg hs, e, e2, if_pos rfl]
        exact rtake_l0 l h W (by omega) (by omega) W 99 0 (by omega) (by omega)
theorem wt_zero (l : List Int) (i : Nat) : wt l i = 0 ↔ ∀ j, j < i → l.getD j 0 = 0 := by
  induction i with
  | zero => simp [wt]
  | succ i ih =>
    have h1 := wt_in l i
    unfold wt
    constructor
    · intro h j hj
      split at h
      · rename_i hz
        by_cases e : j = i
        · rw [e]; exact hz
        · exact ih.1 (by omega) j (by omega)
      · omega
    · intro h
      rw [if_pos (h i (by omega)), ih.2 (fun j hj => h j (by omega))]; rfl
theorem rpad_l0 (l : List Int) (hl : l.length ≤ 1000) (d : Nat) : ∀ k i : Nat, i + d = l.length → d < k → (∀ j, j < i → l.getD j 0 = 0) →
    shuttleref02_Pad.l0 k l (i : Int) = some (if wt l l.length = 0 then 0 else 5) := by
  induction d with
  | zero =>
    intro k i hi hk hz
    obtain ⟨k, rfl⟩ := pred hk
    obtain rfl : i = l.length := by omega
    simp only [shuttleref02_Pad.l0]
    rw [if_neg (by omega), if_pos ((wt_zero l _).2 hz)]
  | succ d ih =>
    intro k i hi hk hz
    obtain ⟨k, rfl⟩ := pred hk
    simp only [shuttleref02_Pad.l0]
    rw [if_pos (by omega), if_pos (by omega), rd_getD, wrap_succ i (by omega)]
    by_cases e : l.getD i 0 = 0
    · rw [if_pos e]
      exact ih k (i + 1) (by omega) (by omega) (fun j hj => by
        by_cases q : j = i
        · rw [q]; exact e
        · exact hz j (by omega))
    · rw [if_neg e, if_neg]
      intro q
      exact e ((wt_zero l _).1 q i (by omega))
theorem rpad_f (l : List Int) (hl : l.length ≤ 1000) : shuttleref02_Pad.f 2000 l = some (pdE l (wt l l.length)) := by
  unfold shuttleref02_Pad.f pdE
  by_cases h8 : (l.length : Int) ≥ 8
  · rw [if_pos h8, if_pos h8]
  · rw [if_neg h8, if_neg h8]
    exact rpad_l0 l hl l.length 2000 0 (by omega) (by omega) (fun j hj => by omega)
end Go.Proofs.Ytmajbcglpcagoaa.B
