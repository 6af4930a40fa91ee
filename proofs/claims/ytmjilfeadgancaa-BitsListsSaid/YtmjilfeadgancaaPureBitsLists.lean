/- BitsLists: of all lists it is told whether they are bits, which bytes, how many are 1; turned ones lie as far apart as they were turned. -/
import Derived.Test.YtmjilfeadgancaaXBitsList
import Derived.Test.YtmjilfeadgancaaX35
namespace Go.Proofs.Ytmjilfeadgancaa.Pure
open Go.RowKit Go.Proofs.Ytmjilfeadgancaa.X Go.Proofs.YtmjilfeadgancaaW.PrintWords Go.Proofs.YtmjilfeadgancaaW.PrintLast Go.Proofs.YtmjilfeadgancaaW.PrintMore
set_option linter.unusedVariables false

theorem mn_200 (a : Nat) : mn (a : Int) 200 = ((min a 200 : Nat) : Int) := by unfold mn; split <;> omega
theorem mn_20 (a : Nat) : mn (a : Int) 20 = ((min a 20 : Nat) : Int) := by unfold mn; split <;> omega
theorem bl_j1 (l t x6 : List Int) (x7 : Int) (hl : l.length ≤ 200) (hw : ∀ x ∈ l, 0 ≤ x ∧ x ≤ 255) (ht : l.length = t.length)
    (hx : (l.any big = true ∧ x6 = [] ∧ x7 = 5) ∨ (l.any big = false ∧ x6 = (List.range ((l.length + 7) / 8)).map (byte l) ∧ x7 = 0)) (k : Nat) (hk : 5000 ≤ k) :
    shuttlelaw01_BitsLists.j1 k l x6 x7 t false = some true := by
  obtain ⟨k, rfl⟩ := pred (show 0 < k by omega)
  rw [shuttlelaw01_BitsLists.j1.eq_2, if_neg (by decide), bapart_eq l t ht (by omega) k (by omega), Option.bind_some, rright_f l (by omega) k (by omega), Option.bind_some]
  rcases hx with ⟨hb, rfl, rfl⟩ | ⟨hb, rfl, rfl⟩
  · rw [hb, if_neg (by decide), if_pos rfl, if_pos (by simp)]
  · have hbit : ∀ x ∈ l, bit x := by
      intro x hx
      have h1 := hw x hx
      rw [List.any_eq_false] at hb
      have h2 := hb x hx
      unfold big at h2
      have h3 : ¬ x > 1 := fun h => h2 (decide_eq_true h)
      unfold bit; omega
    rw [hb, if_pos (by decide), if_pos rfl, rbytes_f l hbit (by omega) k (by omega), Option.bind_some, if_pos rfl, if_pos rfl, rapart_f l t ht (by omega) k (by omega), Option.bind_some, beq_self_eq_true]
theorem bl_end (l q x6 : List Int) (x7 : Int) (hl : l.length ≤ 200) (hq : q.length ≤ 20) (hw : ∀ x ∈ l, 0 ≤ x ∧ x ≤ 255)
    (hx : (l.any big = true ∧ x6 = [] ∧ x7 = 5) ∨ (l.any big = false ∧ x6 = (List.range ((l.length + 7) / 8)).map (byte l) ∧ x7 = 0)) (k : Nat) (hk : 5100 ≤ k) :
    shuttlelaw01_BitsLists.l0 k l q (strOfNums l) x6 x7 (wt l l.length) (l.length : Int) = some true := by
  obtain ⟨k, rfl⟩ := pred (show 0 < k by omega)
  have hm : (q.length + 2) * l.length ≤ 22 * 200 := Nat.mul_le_mul (by omega) hl
  rw [shuttlelaw01_BitsLists.l0.eq_2, if_neg (by omega), bturn_f l q (by omega) (by omega) k (by omega), Option.bind_some, tells_ok k (by omega), Option.bind_some, if_pos rfl,
    right_f l (by omega) k (by omega), Option.bind_some, rright_f l (by omega) k (by omega), Option.bind_some, if_neg (by simp), weight_f l (by omega) k (by omega), Option.bind_some, if_pos rfl,
    turn_f l q (by omega) (by omega) k (by omega), Option.bind_some, if_pos rfl, bne_self_eq_false]
  exact bl_j1 l _ x6 x7 hl hw (turned_length l q).symm hx k (by omega)
theorem bl_l0 (l q x6 : List Int) (x7 : Int) (hl : l.length ≤ 200) (hq : q.length ≤ 20) (hw : ∀ x ∈ l, 0 ≤ x ∧ x ≤ 255)
    (hx : (l.any big = true ∧ x6 = [] ∧ x7 = 5) ∨ (l.any big = false ∧ x6 = (List.range ((l.length + 7) / 8)).map (byte l) ∧ x7 = 0)) (d : Nat) : ∀ k i : Nat, i + d = l.length → d + 5100 ≤ k →
    shuttlelaw01_BitsLists.l0 k l q (strOfNums l) x6 x7 (wt l i) (i : Int) = some true := by
  induction d with
  | zero =>
    intro k i hi hk
    obtain rfl : i = l.length := by omega
    exact bl_end l q x6 x7 hl hq hw hx k (by omega)
  | succ d ih =>
    intro k i hi hk
    obtain ⟨k, rfl⟩ := pred (show 0 < k by omega)
    have hin := wt_in l i
    have hn := ih k (i + 1) (by omega) (by omega)
    rw [shuttlelaw01_BitsLists.l0.eq_2, if_pos (by omega), if_pos (by omega), rd_getD, wrap_succ i (by omega)]
    simp only [wt] at hn
    by_cases e : l.getD i 0 = 0
    · rw [if_pos e] at hn ⊢; rw [Int.add_zero] at hn; exact hn
    · rw [if_neg e] at hn ⊢; rw [wrap_in (by omega) (by omega)]; exact hn
theorem BitsLists : shuttlelaw01_BitsLists.Pure := by
  intro l0 l1 m0 _ w0 m1 _ w1
  refine ⟨6000, ?_⟩
  unfold shuttlelaw01_BitsLists.f
  rw [mn_200, mn_20, Option.bind_some, if_pos (by omega), if_pos (by omega), Int.toNat_natCast, Int.toNat_natCast, List.length_nil, Nat.zero_add, List.nil_append]
  have hl : (l0.take (min l0.length 200)).length ≤ 200 := by rw [List.length_take]; omega
  have hw : ∀ x ∈ l0.take (min l0.length 200), 0 ≤ x ∧ x ≤ 255 := fun x hx => u8_of_wf w0 x (List.mem_of_mem_take hx)
  generalize l0.take (min l0.length 200) = l at hl hw ⊢
  have hq : (l1.take (min l1.length 20)).length ≤ 20 := by rw [List.length_take]; omega
  generalize l1.take (min l1.length 20) = q at hq ⊢
  rw [if_pos (by omega), Option.bind_some, if_pos (by omega), if_pos (by omega)]
  cases hb : l.any big with
  | true =>
    have e : bits_Bytes.f 6000 l = some ([], 5) := by
      unfold bits_Bytes.f
      rw [right_f l (by omega) 6000 (by omega), hb, Option.bind_some, if_neg (by decide)]
    rw [e, Option.bind_some]
    exact bl_l0 l q [] 5 hl hq hw (.inl ⟨hb, rfl, rfl⟩) l.length 6000 0 (by omega) (by omega)
  | false =>
    have e : bits_Bytes.f 6000 l = some ((List.range ((l.length + 7) / 8)).map (byte l), 0) := by
      unfold bits_Bytes.f
      rw [right_f l (by omega) 6000 (by omega), hb, Option.bind_some, if_pos (by decide), if_pos (by omega)]
    rw [e, Option.bind_some]
    exact bl_l0 l q _ 0 hl hq hw (.inr ⟨hb, rfl, rfl⟩) l.length 6000 0 (by omega) (by omega)
end Go.Proofs.Ytmjilfeadgancaa.Pure
