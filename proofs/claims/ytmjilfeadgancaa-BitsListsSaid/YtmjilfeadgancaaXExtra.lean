/- Words that the hand-made contracts of this seat use: a constant text made bytes reads as its bytes. No condition. -/
import Derived.Test.YtmjilfeadgancaaProg
import Derived.Test.YtmjilfeadgancaaWWords
import Derived.Test.YtmjilfeadgancaaWMore
import Derived.Lib.SlBytesConst
import Derived.Lib.SliceRun
namespace Go.Proofs.Ytmjilfeadgancaa.X
open Go.RowKit Go.Proofs.YtmjilfeadgancaaW.PrintWords Go.Proofs.YtmjilfeadgancaaW.PrintMore

/-- A row that was laid as a literal (marked or not) reads as its numbers. -/
theorem const_reads (w : World) (e : TypeId) (k : IntKind) (xs : List Int) (C : Array Value) (fr : Nat × Nat) (hC : C = (nums k xs).toArray) (hx : xs.length ≤ 9223372036854775807) :
    Kd.C (Kd.int k) (w.alloc (.cells C e fr)) (some ⟨w.heap.size, 0, none⟩) xs.length xs := by
  subst hC
  refine Kd.C_of_reads (d := (0 : Int)) (h1 := fun _ => rfl) ⟨rfl, hx, fun _ => ⟨_, rfl, fun j hj => ?_⟩⟩
  rw [add_plain, World.cell?_alloc_mark w _ e fr j]
  simp [nums, List.getD_eq_getElem?_getD, List.getElem?_eq_getElem hj]
/-- A region that draws its order stands here (a cheap look ahead of a dear step). -/
theorem gate_quiet {P : Program} {n : Nat} {ops : Array Oper} {Q : Exit → Act → World → Prop} {a : Act} {w : World} (h : Code.wp P (.region n ops true) Q a w) : Code.wp P (.region n ops true) Q a w := h
theorem reads_len {α : Type} {R : α → List Value → Prop} {size : Nat} {w : World} {A : Option Addr} {n n' : Nat} {ps : List α} (e : n = n') (h : ReadsRow R size w A n ps) : ReadsRow R size w A n' ps := e ▸ h
theorem nil_of_none {α : Type} {d : Kd α} {w : World} {l : List α} (h : Kd.C d w none l.length l) : l = [] := by
  cases l with
  | nil => rfl
  | cons x xs =>
    obtain ⟨_, _, h3⟩ := h
    obtain ⟨ad, e, _⟩ := h3 (by simp)
    cases e

end Go.Proofs.Ytmjilfeadgancaa.X
