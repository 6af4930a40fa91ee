/- Words for a state behind a pointer that holds a row of its own: but for its block and its row nothing turns. No condition. -/
import Derived.Test.YtfplmoeahbjfmaaPExtra
import Derived.Test.YtfplmoeahbjfmaaWTab
import Derived.Test.YtfplmoeahbjfmaaWKept
import Derived.Test.YtfplmoeahbjfmaaWAt
import Derived.RangeFuncBox
import Derived.Deep.DrawnRows
namespace Go.Proofs.Ytfplmoeahbjfmaa.P
open Go Go.Proofs Go.RowKit Go.Proofs.YtfplmoeahbjfmaaW.PrintWords Go.Proofs.YtfplmoeahbjfmaaW.PrintLast Go.Proofs.YtfplmoeahbjfmaaW.PrintMore
set_option linter.unusedVariables false
set_option linter.unusedSimpArgs false

/-- But for block g and v's own row nothing has turned. -/
structure Fr (g : Nat) (v : Value) (w w' : World) : Prop where
  os : w'.os = w.os
  tape : w'.tape = w.tape
  output : w'.output = w.output
  size : w.heap.size ≤ w'.heap.size
  block : ∀ k, k < w.heap.size → k ≠ g → some k ≠ v.ownBlock → w'.heap[k]? = w.heap[k]?
theorem Fr.refl (g : Nat) (v : Value) (w : World) : Fr g v w w := ⟨rfl, rfl, rfl, Nat.le_refl _, fun _ _ _ _ => rfl⟩
/-- v' is v's row, or a newer one. -/
def Newer (w : World) (v v' : Value) : Prop := v'.ownBlock = v.ownBlock ∨ ∀ b, v'.ownBlock = some b → w.heap.size ≤ b
theorem Newer.refl (w : World) (v : Value) : Newer w v v := .inl rfl
theorem Newer.trans {w w1 : World} {v v1 v2 : Value} (h : Newer w v v1) (hs : w.heap.size ≤ w1.heap.size) (k : Newer w1 v1 v2) : Newer w v v2 := by
  rcases k with k | k
  · rcases h with h | h
    · exact .inl (k.trans h)
    · exact .inr fun b hb => h b (k ▸ hb)
  · exact .inr fun b hb => Nat.le_trans hs (k b hb)
theorem Fr.trans {g : Nat} {v v1 : Value} {w w1 w2 : World} (h : Fr g v w w1) (hn : Newer w v v1) (k : Fr g v1 w1 w2) : Fr g v w w2 :=
  ⟨k.os.trans h.os, k.tape.trans h.tape, k.output.trans h.output, Nat.le_trans h.size k.size, fun i hi hg hv => by
    rw [k.block i (Nat.lt_of_lt_of_le hi h.size) hg ?_, h.block i hi hg hv]
    rcases hn with hn | hn
    · rw [hn]; exact hv
    · intro e; have := hn i e.symm; omega⟩
theorem Fr.below {g : Nat} {v : Value} {w w' : World} (h : Fr g v w w') {B : Nat} (hB : B ≤ w.heap.size) (hg : B ≤ g) (hv : ∀ b, v.ownBlock = some b → B ≤ b) : Below B w w' :=
  ⟨h.os, h.tape, h.output, h.size, fun k hk => h.block k (by omega) (by omega) (fun e => by have := hv k e.symm; omega)⟩
theorem Fr.of_below {g : Nat} {v : Value} {w w' : World} (h : Below w.heap.size w w') : Fr g v w w' := ⟨h.os, h.tape, h.output, h.size, fun k hk _ _ => h.block k hk⟩
theorem Fr.set {g : Nat} {v : Value} {w : World} (i : Nat) (x : Value) : Fr g v w (w.setCell ⟨g, i, none⟩ x) :=
  ⟨rfl, rfl, rfl, by simp, fun k _ hg _ => Below.heap_setCell w ⟨g, i, none⟩ x k (by exact hg)⟩
theorem Fr.seq {g : Nat} {v : Value} {w w1 w2 : World} (h : Fr g v w w1) (k : Fr g v w1 w2) : Fr g v w w2 := h.trans (.inl rfl) k
theorem Newer.none (w : World) (v : Value) : Newer w v (.slice none 0 0) := .inr fun b hb => by simp [Value.ownBlock] at hb
/-- What lies apart from the state lies apart from it behind a call too. -/
theorem apart_newer {w : World} {g k : Nat} {v v' : Value} (hn : Newer w v v') (hk : k < w.heap.size) (ha : k ≠ g ∧ some k ≠ v.ownBlock) : k ≠ g ∧ some k ≠ v'.ownBlock :=
  ⟨ha.1, fun e => by
    rcases hn with hn | hn
    · exact ha.2 (e.trans hn)
    · have := hn k e.symm; omega⟩
theorem Kd.R_fr {α : Type} {d : Kd α} {e n₀ g : Nat} {w w' : World} {v v' u : Value} {xs : List α} (h : Kd.R d e w n₀ (fun k => k ≠ g ∧ some k ≠ v.ownBlock) u xs) (hf : Fr g v w w') (hn : Newer w v v') :
    Kd.R d e w' n₀ (fun k => k ≠ g ∧ some k ≠ v'.ownBlock) u xs := by
  have h1 := Kd.R_bound h
  have h2 := Kd.R_step (w1 := w') h1 (fun k ok hk => hf.block k hk ok.1.1 ok.1.2)
  exact Kd.R_mono h2 (fun k ok => apart_newer hn ok.2.2.1 ok.1)
theorem Kd.V_fr {α : Type} {d : Kd α} {e n₀ g : Nat} {w w' : World} {v v' u : Value} {xs : List α} (h : Kd.V d e w n₀ (fun k => k ≠ g ∧ some k ≠ v.ownBlock) u xs) (hf : Fr g v w w') (hn : Newer w v v') :
    Kd.V d e w' n₀ (fun k => k ≠ g ∧ some k ≠ v'.ownBlock) u xs := by
  have h1 := Kd.V_bound h
  have h2 := Kd.V_step (w1 := w') h1 (fun k ok hk => hf.block k hk ok.1.1 ok.1.2)
  exact Kd.V_mono h2 (fun k ok => apart_newer hn ok.2 ok.1)
end Go.Proofs.Ytfplmoeahbjfmaa.P
