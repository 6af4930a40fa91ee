/- Parts joined, in plain words: a code of which they are the versions, or why there is none. No condition but lengths. -/
import Derived.Test.YtmajbcglpcagoaaXJoinsQ
import Derived.Test.YtmajbcglpcagoaaX10
import Derived.Test.YtmajbcglpcagoaaX11
namespace Go.Proofs.Ytmajbcglpcagoaa.X
open Go.RowKit Go.Proofs.YtmajbcglpcagoaaW.PrintWords Go.Proofs.YtmajbcglpcagoaaW.PrintLast Go.Proofs.YtmajbcglpcagoaaW.PrintMore
set_option linter.unusedVariables false
set_option linter.unusedSimpArgs false

/-- Are the first v parts bits? Are they as long as the first? -/
def rg (L : Nat → List Int) : Nat → Bool
  | 0 => true
  | v + 1 => rg L v && !(L v).any big
def lg (L : Nat → List Int) : Nat → Bool
  | 0 => true
  | v + 1 => lg L v && ((((L v).length : Nat) : Int) == (((L 0).length : Nat) : Int))
def jcode (L : Nat → List Int) : List Int := (List.range (4 * (L 0).length)).map fun i => (L ((i % 4 + 4 - i / 4 % 4) % 4)).getD (i / 4) 0
theorem jcode_length (L : Nat → List Int) : (jcode L).length = 4 * (L 0).length := by simp [jcode]
theorem jcode_pk (L : Nat → List Int) (v : Nat) (hv : v < 4) (hl : (L v).length = (L 0).length) : pk (jcode L) v (L 0).length = L v := by
  apply List.ext_getElem
  · rw [pk_length, hl]
  · intro t h1 h2
    rw [pk_length] at h1
    have e := pk_getD (jcode L) v (L 0).length t h1
    rw [List.getD_eq_getElem?_getD, List.getElem?_eq_getElem (by rw [pk_length]; exact h1)] at e
    simp only [Option.getD_some] at e
    rw [e]
    have hs := strm_lt v t
    have hi : 4 * t + strm v t < (jcode L).length := by rw [jcode_length]; omega
    rw [List.getD_eq_getElem?_getD, List.getElem?_eq_getElem hi]
    simp only [Option.getD_some, jcode, List.getElem_map, List.getElem_range]
    have e1 : (4 * t + strm v t) / 4 = t := by omega
    have e2 : ((4 * t + strm v t) % 4 + 4 - (4 * t + strm v t) / 4 % 4) % 4 = v := by unfold strm at hs ⊢; omega
    rw [e2, e1, List.getD_eq_getElem?_getD, List.getElem?_eq_getElem h2]; rfl
theorem jcode_isb (L : Nat → List Int) (h : ∀ v, v < 4 → ∀ x ∈ L v, isb x) : ∀ x ∈ jcode L, isb x := by
  intro x hx
  simp only [jcode, List.mem_map] at hx
  obtain ⟨i, _, rfl⟩ := hx
  exact getD_isb (h _ (Nat.mod_lt _ (by decide))) _
def jres (L : Nat → List Int) : List Int × Int := if rg L 4 = true then (if lg L 4 = true then (jcode L, 0) else ([], 1)) else ([], 5)
theorem join_all (L : Nat → List Int) (hl : ∀ v, v < 4 → (L v).length ≤ 60) (h0 : ∀ v, v < 4 → ∀ x ∈ L v, 0 ≤ x) : version_Join.f 20000 (L 0) (L 1) (L 2) (L 3) = some (jres L) := by
  have hr : ∀ v j, v < 4 → 60 < j → bits_Right.f j (L v) = some (!(L v).any big) := fun v j hv hj => right_f (L v) (by have := hl v hv; omega) j (by have := hl v hv; omega)
  have e4 : rg L 4 = (!(L 0).any big && !(L 1).any big && !(L 2).any big && !(L 3).any big) := by simp [rg]
  have f4 : lg L 4 = (((((L 1).length : Nat) : Int) == (((L 0).length : Nat) : Int)) && ((((L 2).length : Nat) : Int) == (((L 0).length : Nat) : Int)) && ((((L 3).length : Nat) : Int) == (((L 0).length : Nat) : Int))) := by simp [lg]
  unfold jres
  rw [e4, f4]
  unfold version_Join.f
  cases q0 : (L 0).any big with
  | true =>
    rw [version_Join.l0.eq_2, if_pos (by decide), if_pos rfl, hr 0 _ (by omega) (by omega), Option.bind_some, q0]; rfl
  | false =>
  cases q1 : (L 1).any big with
  | true =>
    rw [version_Join.l0.eq_2, if_pos (by decide), if_pos rfl, hr 0 _ (by omega) (by omega), Option.bind_some, q0, if_pos (by decide)]
    rw [version_Join.l0.eq_2, if_pos (by decide), if_neg (by decide), if_pos (by decide), hr 1 _ (by omega) (by omega), Option.bind_some, q1]; rfl
  | false =>
  cases q2 : (L 2).any big with
  | true =>
    rw [version_Join.l0.eq_2, if_pos (by decide), if_pos rfl, hr 0 _ (by omega) (by omega), Option.bind_some, q0, if_pos (by decide)]
    rw [version_Join.l0.eq_2, if_pos (by decide), if_neg (by decide), if_pos (by decide), hr 1 _ (by omega) (by omega), Option.bind_some, q1, if_pos (by decide)]
    rw [version_Join.l0.eq_2, if_pos (by decide), if_neg (by decide), if_neg (by decide), if_pos (by decide), hr 2 _ (by omega) (by omega), Option.bind_some, q2]; rfl
  | false =>
  cases q3 : (L 3).any big with
  | true =>
    rw [version_Join.l0.eq_2, if_pos (by decide), if_pos rfl, hr 0 _ (by omega) (by omega), Option.bind_some, q0, if_pos (by decide)]
    rw [version_Join.l0.eq_2, if_pos (by decide), if_neg (by decide), if_pos (by decide), hr 1 _ (by omega) (by omega), Option.bind_some, q1, if_pos (by decide)]
    rw [version_Join.l0.eq_2, if_pos (by decide), if_neg (by decide), if_neg (by decide), if_pos (by decide), hr 2 _ (by omega) (by omega), Option.bind_some, q2, if_pos (by decide)]
    rw [version_Join.l0.eq_2, if_pos (by decide), if_neg (by decide), if_neg (by decide), if_neg (by decide), if_pos (by decide), hr 3 _ (by omega) (by omega), Option.bind_some, q3]; rfl
  | false =>
  by_cases c1 : (L 1).length = (L 0).length
  · by_cases c2 : (L 2).length = (L 0).length
    · by_cases c3 : (L 3).length = (L 0).length
      · have hall : ∀ v, v < 4 → (L v).length = (L 0).length ∧ (L v).any big = false := by
          intro v hv
          obtain rfl | rfl | rfl | rfl : v = 0 ∨ v = 1 ∨ v = 2 ∨ v = 3 := by omega
          · exact ⟨rfl, q0⟩
          · exact ⟨c1, q1⟩
          · exact ⟨c2, q2⟩
          · exact ⟨c3, q3⟩
        have hb : ∀ v, v < 4 → ∀ x ∈ L v, isb x := fun v hv => (big_isb (h0 v hv)).1 (hall v hv).2
        have hj := join_f (jcode L) (jcode_isb L hb) (L 0).length (jcode_length L) (by rw [jcode_length]; have := hl 0 (by omega); omega) 20000 (by omega)
        rw [jcode_pk L 0 (by omega) rfl, jcode_pk L 1 (by omega) c1, jcode_pk L 2 (by omega) c2, jcode_pk L 3 (by omega) c3] at hj
        unfold version_Join.f at hj
        rw [hj, c1, c2, c3]; simp
      · have n3 : ¬ (((L 3).length : Nat) : Int) = (((L 0).length : Nat) : Int) := by omega
        have m3 : ((((L 3).length : Nat) : Int) == (((L 0).length : Nat) : Int)) = false := by simpa using n3
        rw [version_Join.l0.eq_2, if_pos (by decide), if_pos rfl, hr 0 _ (by omega) (by omega), Option.bind_some, q0, if_pos (by decide)]
        rw [version_Join.l0.eq_2, if_pos (by decide), if_neg (by decide), if_pos (by decide), hr 1 _ (by omega) (by omega), Option.bind_some, q1, if_pos (by decide)]
        rw [version_Join.l0.eq_2, if_pos (by decide), if_neg (by decide), if_neg (by decide), if_pos (by decide), hr 2 _ (by omega) (by omega), Option.bind_some, q2, if_pos (by decide)]
        rw [version_Join.l0.eq_2, if_pos (by decide), if_neg (by decide), if_neg (by decide), if_neg (by decide), if_pos (by decide), hr 3 _ (by omega) (by omega), Option.bind_some, q3, if_pos (by decide)]
        rw [version_Join.l0.eq_2, if_neg (by decide)]
        rw [version_Join.l1.eq_2, if_pos (by decide), if_pos rfl, if_pos rfl]
        rw [version_Join.l1.eq_2, if_pos (by decide), if_neg (by decide), if_pos (by decide), if_pos (by omega)]
        rw [version_Join.l1.eq_2, if_pos (by decide), if_neg (by decide), if_neg (by decide), if_pos (by decide), if_pos (by omega)]
        rw [version_Join.l1.eq_2, if_pos (by decide), if_neg (by decide), if_neg (by decide), if_neg (by decide), if_pos (by decide), if_neg n3, m3]
        simp
    · have n2 : ¬ (((L 2).length : Nat) : Int) = (((L 0).length : Nat) : Int) := by omega
      have m2 : ((((L 2).length : Nat) : Int) == (((L 0).length : Nat) : Int)) = false := by simpa using n2
      rw [version_Join.l0.eq_2, if_pos (by decide), if_pos rfl, hr 0 _ (by omega) (by omega), Option.bind_some, q0, if_pos (by decide)]
      rw [version_Join.l0.eq_2, if_pos (by decide), if_neg (by decide), if_pos (by decide), hr 1 _ (by omega) (by omega), Option.bind_some, q1, if_pos (by decide)]
      rw [version_Join.l0.eq_2, if_pos (by decide), if_neg (by decide), if_neg (by decide), if_pos (by decide), hr 2 _ (by omega) (by omega), Option.bind_some, q2, if_pos (by decide)]
      rw [version_Join.l0.eq_2, if_pos (by decide), if_neg (by decide), if_neg (by decide), if_neg (by decide), if_pos (by decide), hr 3 _ (by omega) (by omega), Option.bind_some, q3, if_pos (by decide)]
      rw [version_Join.l0.eq_2, if_neg (by decide)]
      rw [version_Join.l1.eq_2, if_pos (by decide), if_pos rfl, if_pos rfl]
      rw [version_Join.l1.eq_2, if_pos (by decide), if_neg (by decide), if_pos (by decide), if_pos (by omega)]
      rw [version_Join.l1.eq_2, if_pos (by decide), if_neg (by decide), if_neg (by decide), if_pos (by decide), if_neg n2, m2]
      simp
  · have n1 : ¬ (((L 1).length : Nat) : Int) = (((L 0).length : Nat) : Int) := by omega
    have m1 : ((((L 1).length : Nat) : Int) == (((L 0).length : Nat) : Int)) = false := by simpa using n1
    rw [version_Join.l0.eq_2, if_pos (by decide), if_pos rfl, hr 0 _ (by omega) (by omega), Option.bind_some, q0, if_pos (by decide)]
    rw [version_Join.l0.eq_2, if_pos (by decide), if_neg (by decide), if_pos (by decide), hr 1 _ (by omega) (by omega), Option.bind_some, q1, if_pos (by decide)]
    rw [version_Join.l0.eq_2, if_pos (by decide), if_neg (by decide), if_neg (by decide), if_pos (by decide), hr 2 _ (by omega) (by omega), Option.bind_some, q2, if_pos (by decide)]
    rw [version_Join.l0.eq_2, if_pos (by decide), if_neg (by decide), if_neg (by decide), if_neg (by decide), if_pos (by decide), hr 3 _ (by omega) (by omega), Option.bind_some, q3, if_pos (by decide)]
    rw [version_Join.l0.eq_2, if_neg (by decide)]
    rw [version_Join.l1.eq_2, if_pos (by decide), if_pos rfl, if_pos rfl]
    rw [version_Join.l1.eq_2, if_pos (by decide), if_neg (by decide), if_pos (by decide), if_neg n1, m1]
    simp
theorem jsplits_ok : shuttlelaw11_splits.f 10000 = some true := by decide +kernel
theorem jres_ok (L : Nat → List Int) (h : rg L 4 = true) (h2 : lg L 4 = true) : jres L = (jcode L, 0) := by unfold jres; rw [h, h2]; rfl
theorem jres_long (L : Nat → List Int) (h : rg L 4 = true) (h2 : lg L 4 = false) : jres L = ([], 1) := by unfold jres; rw [h, h2]; rfl
theorem jres_right (L : Nat → List Int) (h : rg L 4 = false) : jres L = ([], 5) := by unfold jres; rw [h]; rfl
theorem lg_all (L : Nat → List Int) (h : lg L 4 = true) : ∀ v, v < 4 → (L v).length = (L 0).length := by
  have f4 : lg L 4 = (((((L 1).length : Nat) : Int) == (((L 0).length : Nat) : Int)) && ((((L 2).length : Nat) : Int) == (((L 0).length : Nat) : Int)) && ((((L 3).length : Nat) : Int) == (((L 0).length : Nat) : Int))) := by simp [lg]
  rw [f4] at h
  simp only [Bool.and_eq_true, beq_iff_eq] at h
  intro v hv
  obtain rfl | rfl | rfl | rfl : v = 0 ∨ v = 1 ∨ v = 2 ∨ v = 3 := by omega
  · rfl
  · omega
  · omega
  · omega
end Go.Proofs.Ytmajbcglpcagoaa.X
