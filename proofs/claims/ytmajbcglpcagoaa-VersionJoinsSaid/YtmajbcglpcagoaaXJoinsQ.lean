/- Four rows of bytes that are made in any order, and a box beside them: what is known of them, and how each step leaves the others. No condition. -/
import Derived.Test.YtmajbcglpcagoaaXSplit
import Derived.Test.YtmajbcglpcagoaaWTab
import Derived.RangeFuncBox
import Derived.Laws.Tables
namespace Go.Proofs.Ytmajbcglpcagoaa.X
open Go Go.RowKit Go.Proofs.YtmajbcglpcagoaaW.PrintWords Go.Proofs.YtmajbcglpcagoaaW.PrintLast Go.Proofs.YtmajbcglpcagoaaW.PrintMore
set_option linter.unusedVariables false
set_option linter.unusedSimpArgs false

def q4 {α : Type} (a b c d : α) : Nat → α
  | 0 => a
  | 1 => b
  | 2 => c
  | _ => d
def upd {α : Type} (f : Nat → α) (i : Nat) (x : α) : Nat → α := fun j => if j = i then x else f j
theorem upd0 {α : Type} (a b c d x : α) : ∀ j, j < 4 → upd (q4 a b c d) 0 x j = q4 x b c d j
  | 0, _ => rfl
  | 1, _ => rfl
  | 2, _ => rfl
  | 3, _ => rfl
  | n + 4, h => absurd h (by omega)
theorem upd1 {α : Type} (a b c d x : α) : ∀ j, j < 4 → upd (q4 a b c d) 1 x j = q4 a x c d j
  | 0, _ => rfl
  | 1, _ => rfl
  | 2, _ => rfl
  | 3, _ => rfl
  | n + 4, h => absurd h (by omega)
theorem upd2 {α : Type} (a b c d x : α) : ∀ j, j < 4 → upd (q4 a b c d) 2 x j = q4 a b x d j
  | 0, _ => rfl
  | 1, _ => rfl
  | 2, _ => rfl
  | 3, _ => rfl
  | n + 4, h => absurd h (by omega)
theorem upd3 {α : Type} (a b c d x : α) : ∀ j, j < 4 → upd (q4 a b c d) 3 x j = q4 a b c x j
  | 0, _ => rfl
  | 1, _ => rfl
  | 2, _ => rfl
  | 3, _ => rfl
  | n + 4, h => absurd h (by omega)
structure JQ (w W : World) (u : Nat → Value) (c : Nat → List Int) (g : Value) : Prop where
  bel : Below w.heap.size w W
  row : ∀ i, i < 4 → Kd.R (Kd.int .u8) 5 W w.heap.size (fun k => ∀ j, j < 4 → j ≠ i → some k ≠ (u j).ownBlock) (u i) (c i)
  box : ∀ b, g = .pointer (some ⟨b, 0, none⟩) → W.heap[b]? = some (.cells #[.slice none 0 0, .slice none 0 0, .slice none 0 0, .slice none 0 0] 23 (0, 0)) ∧ w.heap.size ≤ b
variable {w W W1 : World} {u : Nat → Value} {c : Nat → List Int} {g v : Value} {xs : List Int}
theorem JQ.congr {u' : Nat → Value} {c' : Nat → List Int} (h : JQ w W u c g) (hu : ∀ j, j < 4 → u j = u' j) (hc : ∀ j, j < 4 → c j = c' j) : JQ w W u' c' g :=
  ⟨h.bel, fun i hi => by
    rw [← hu i hi, ← hc i hi]
    exact Kd.R_mono (h.row i hi) (fun k ok j hj hne => by rw [← hu j hj]; exact ok j hj hne), h.box⟩
theorem JQ.notbox (h : JQ w W u c g) {b : Nat} (hb : g = .pointer (some ⟨b, 0, none⟩)) (i : Nat) (hi : i < 4) : some b ≠ (u i).ownBlock := by
  intro e
  obtain ⟨cells, hc⟩ := Kd.R_typed (h.row i hi) b e.symm
  rw [(h.box b hb).1] at hc
  injection hc with hc; injection hc with _ hc; exact absurd hc (by decide)
/-- A row more, made new. -/
theorem JQ.new (h : JQ w W u c g) (i : Nat) (hi : i < 4) (ho : Kd.R (Kd.int .u8) 5 W1 w.heap.size (fun _ => True) v xs) (hb : Below w.heap.size w W1) (hg : W.grownBy W1 none) (hn : ∃ b, v.ownBlock = some b ∧ W.heap.size ≤ b) :
    JQ w W1 (upd u i v) (upd c i xs) g := by
  obtain ⟨b, hvb, hwb⟩ := hn
  refine ⟨hb, fun j hj => ?_, fun b' hb' => ⟨?_, (h.box b' hb').2⟩⟩
  · by_cases e : j = i
    · subst e
      have e1 : upd u j v j = v := if_pos rfl
      have e2 : upd c j xs j = xs := if_pos rfl
      rw [e1, e2]
      refine ⟨fun k hk q hq hne e => ?_, ho.2⟩
      have e3 : upd u j v q = u q := if_neg hne
      rw [e3] at e
      have := Kd.R_lt (h.row q hq) k e.symm
      rw [hk] at hvb; injection hvb with hvb
      omega
    · have e1 : upd u i v j = u j := if_neg e
      have e2 : upd c i xs j = c j := if_neg e
      rw [e1, e2]
      have h1 := Kd.R_bound (h.row j hj)
      have h2 := Kd.R_grown h1 hg (fun k ok => by simp)
      refine Kd.R_mono h2 (fun k ok q hq hne => ?_)
      by_cases e3 : q = i
      · subst e3
        have e4 : upd u q v q = v := if_pos rfl
        rw [e4, hvb]
        intro e5; injection e5 with e5
        have := ok.2.2.1; omega
      · have e4 : upd u i v q = u q := if_neg e3
        rw [e4]; exact ok.1 q hq hne
  · rw [hg.block b' (by have := (Array.getElem?_eq_some_iff.1 (h.box b' hb').1).1; exact this) (by simp)]
    exact (h.box b' hb').1
/-- A row grown. -/
theorem JQ.grow (h : JQ w W u c g) (i : Nat) (hi : i < 4) (ho : Kd.R (Kd.int .u8) 5 W1 w.heap.size (fun k => ∀ j, j < 4 → j ≠ i → some k ≠ (u j).ownBlock) v xs) (hb : Below w.heap.size w W1) (hg : W.grownBy W1 (u i).ownBlock)
    (hat : v.ownBlock = (u i).ownBlock ∨ ∃ b, v.ownBlock = some b ∧ W.heap.size ≤ b) : JQ w W1 (upd u i v) (upd c i xs) g := by
  refine ⟨hb, fun j hj => ?_, fun b' hb' => ⟨?_, (h.box b' hb').2⟩⟩
  · by_cases e : j = i
    · subst e
      have e1 : upd u j v j = v := if_pos rfl
      have e2 : upd c j xs j = xs := if_pos rfl
      rw [e1, e2]
      refine Kd.R_mono ho (fun k ok q hq hne => ?_)
      have e3 : upd u j v q = u q := if_neg hne
      rw [e3]; exact ok q hq hne
    · have e1 : upd u i v j = u j := if_neg e
      have e2 : upd c i xs j = c j := if_neg e
      rw [e1, e2]
      have h1 := Kd.R_bound (h.row j hj)
      have h2 := Kd.R_grown h1 hg (fun k ok => ok.1 i hi (fun e' => e e'.symm))
      refine Kd.R_mono h2 (fun k ok q hq hne => ?_)
      by_cases e3 : q = i
      · subst e3
        have e4 : upd u q v q = v := if_pos rfl
        rw [e4]
        rcases hat with hat | ⟨b, hvb, hwb⟩
        · rw [hat]; exact ok.1 q hq hne
        · rw [hvb]; intro e5; injection e5 with e5
          have := ok.2.2.1; omega
      · have e4 : upd u i v q = u q := if_neg e3
        rw [e4]; exact ok.1 q hq hne
  · rw [hg.block b' (by have := (Array.getElem?_eq_some_iff.1 (h.box b' hb').1).1; exact this) (h.notbox hb' i hi)]
    exact (h.box b' hb').1
/-- The box, made. -/
theorem JQ.boxed (h : JQ w W u c (.bool false)) : JQ w (W.alloc (.cells #[.slice none 0 0, .slice none 0 0, .slice none 0 0, .slice none 0 0] 23)) u c (.pointer (some ⟨W.heap.size, 0, none⟩)) :=
  ⟨h.bel.alloc h.bel.size _, fun i hi => Kd.R_alloc (h.row i hi) _, fun b hb => by
    have : W.heap.size = b := by injection hb with hb; injection hb with hb; injection hb
    subst this
    exact ⟨World.alloc_heap_new W _, h.bel.size⟩⟩
/-- The box holds the four rows. -/
structure JS (w W : World) (b7 : Nat) (u : Nat → Value) (c : Nat → List Int) : Prop where
  bel : Below w.heap.size w W
  blk : W.heap[b7]? = some (.cells #[u 0, u 1, u 2, u 3] 23 (0, 0))
  row : ∀ i, i < 4 → ∃ A k, u i = .slice A (c i).length k ∧ (c i).length ≤ k ∧ Kd.C (Kd.int .u8) W A (c i).length (c i)
theorem JS.below {b7 : Nat} (h : JS w W b7 u c) (hb : Below W.heap.size W W1) : JS w W1 b7 u c :=
  ⟨below_step h.bel hb, (hb.block b7 (Array.getElem?_eq_some_iff.1 h.blk).1).trans h.blk, fun i hi => by
    obtain ⟨A, k, e, hk, hc⟩ := h.row i hi
    exact ⟨A, k, e, hk, Kd.C_below hc hb⟩⟩
theorem JS.cell {b7 : Nat} (h : JS w W b7 u c) (i : Nat) (hi : i < 4) : W.cell? ⟨b7, i, none⟩ = some (u i) := by
  have hb := h.blk
  match i, hi with
  | 0, _ => simp [World.cell?, hb]
  | 1, _ => simp [World.cell?, hb]
  | 2, _ => simp [World.cell?, hb]
  | 3, _ => simp [World.cell?, hb]
theorem JS.of (h : JQ w W u c g) {b7 : Nat} (hb : g = .pointer (some ⟨b7, 0, none⟩)) : JS w (W.setRow b7 #[u 0, u 1, u 2, u 3]) b7 u c := by
  have hx := (h.box b7 hb).1
  have hlow := (h.box b7 hb).2
  refine ⟨below_setRow h.bel hlow _, setRow_heap _ _ _ _ _ _ hx, fun i hi => ?_⟩
  have h1 := Kd.R_types (h.row i hi) hx (by intro q hq; simp [Kd.int, Kd.scalar] at hq; omega)
  have h2 := Kd.R_step (w1 := W.setRow b7 #[u 0, u 1, u 2, u 3]) h1 (fun k ok _ => setRow_other _ _ _ _ ok.2)
  obtain ⟨A, k, e⟩ := Kd.R_slice h2
  rw [e] at h2
  have h3 := Kd.R_reads' h2
  exact ⟨A, k, e, h3.2.1, h3.2.2⟩
theorem JS.pack {b7 : Nat} {A0 A1 A2 A3 : Option Addr} {k0 k1 k2 k3 : Nat} {l0 l1 l2 l3 : List Int} (h : JS w W b7 (q4 (.slice A0 l0.length k0) (.slice A1 l1.length k1) (.slice A2 l2.length k2) (.slice A3 l3.length k3)) (q4 l0 l1 l2 l3)) :
    ∃ (A : Nat → Option Addr) (k : Nat → Nat) (L : Nat → List Int), JS w W b7 (fun i => .slice (A i) (L i).length (k i)) L ∧ L 0 = l0 ∧ L 1 = l1 ∧ L 2 = l2 ∧ L 3 = l3 :=
  ⟨q4 A0 A1 A2 A3, q4 k0 k1 k2 k3, q4 l0 l1 l2 l3, ⟨h.bel, h.blk, fun i hi => by
    match i, hi with
    | 0, hi => exact h.row 0 hi
    | 1, hi => exact h.row 1 hi
    | 2, hi => exact h.row 2 hi
    | 3, hi => exact h.row 3 hi⟩, rfl, rfl, rfl, rfl⟩
theorem JS.at {b7 : Nat} {A : Nat → Option Addr} {k : Nat → Nat} {L : Nat → List Int} (h : JS w W b7 (fun i => .slice (A i) (L i).length (k i)) L) (i : Nat) (hi : i < 4) : (L i).length ≤ k i ∧ Kd.C (Kd.int .u8) W (A i) (L i).length (L i) := by
  obtain ⟨A', k', e, h1, h2⟩ := h.row i hi
  injection e with e1 _ e3
  subst e1; subst e3
  exact ⟨h1, h2⟩
end Go.Proofs.Ytmajbcglpcagoaa.X
