/- What BitioPuts holds while it puts: a writer, a row of bits beside it, a row of numbers; how each step leaves the others. No condition. -/
import Derived.Test.YtmajbcglpcagoaaBBitioP
import Derived.Test.YtmajbcglpcagoaaBBitioQ
import Derived.Test.YtmajbcglpcagoaaWTab
namespace Go.Proofs.Ytmajbcglpcagoaa.B
open Go Go.RowKit Go.Proofs.YtmajbcglpcagoaaW.PrintWords Go.Proofs.YtmajbcglpcagoaaW.PrintLast Go.Proofs.YtmajbcglpcagoaaW.PrintMore
set_option linter.unusedVariables false
set_option linter.unusedSimpArgs false

/-- A pair of whole numbers in two cells. -/
def kNum : Kd (Int × Int) where
  sz := 2
  E := []
  K := fun _ x cs => cs = [.int .i64 x.1, .int .i64 x.2]
  M := fun _ _ _ x cs => cs = [.int .i64 x.1, .int .i64 x.2]
  K_len := fun h => by rw [h]; rfl
  K_one := fun h u hu => by
    rw [h] at hu
    simp only [List.mem_cons, List.not_mem_nil, or_false] at hu
    rcases hu with rfl | rfl <;> rfl
  K_below := fun _ h => h
  K_of_M := fun h => h
  M_mono := fun _ h => h
  M_bound := fun h => h
  M_move := fun _ h => h
  M_lower := fun _ h => h
theorem info45 : (Try.prog.info? 45).map (fun i => (i.zero, i.size, i.bytes)) = some (some (.agg #[.int .i64 0, .int .i64 0]), 2, 16) := by kernel_rfl
theorem WS.grown {w w' : World} {n₀ g : Nat} {v : Value} {xs : List Int} (h : WS w n₀ g v xs) {row : Option Nat} (hg : w.grownBy w' row) (h1 : some g ≠ row) (h2 : ∀ b, v.ownBlock = some b → some b ≠ row) : WS w' n₀ g v xs :=
  h.kept (hg.block g h.lt h1) (fun b hb => hg.block b (h.row.lt b hb).2 (h2 b hb))
structure PS (w0 w : World) (g : Nat) (vW v5 v6 : Value) (xs ys : List Int) (ins : List (Int × Int)) : Prop where
  ws : WS w w0.heap.size g vW xs
  all : Kd.R (Kd.int .u8) 5 w w0.heap.size (fun k => k ≠ g ∧ some k ≠ vW.ownBlock) v5 ys
  in_ : Kd.R kNum 45 w w0.heap.size (fun _ => True) v6 ins
  bel : Below w0.heap.size w0 w
variable {w0 w w' : World} {g : Nat} {vW v5 v6 : Value} {xs ys : List Int} {ins : List (Int × Int)}
theorem PS.below (h : PS w0 w g vW v5 v6 xs ys ins) (hb : Below w.heap.size w w') : PS w0 w' g vW v5 v6 xs ys ins :=
  ⟨h.ws.below hb, Kd.R_below h.all hb, Kd.R_below h.in_ hb, below_step h.bel hb⟩
theorem PS.g6 (h : PS w0 w g vW v5 v6 xs ys ins) : ∀ k, v6.ownBlock = some k → k ≠ g ∧ some k ≠ vW.ownBlock ∧ some k ≠ v5.ownBlock := by
  intro k hk
  obtain ⟨cells, hc⟩ := Kd.R_typed h.in_ k hk
  refine ⟨fun e => ?_, fun e => ?_, fun e => ?_⟩
  · have hb : w.heap[g]? = some (.cells #[vW] 37 (0, 0)) := h.ws.box
    rw [e, hb] at hc; injection hc with hc; injection hc with _ hc; exact absurd hc (by decide)
  · obtain ⟨c2, hc2⟩ := own_typed h.ws.row k e.symm
    rw [hc2] at hc; injection hc with hc; injection hc with _ hc; exact absurd hc (by decide)
  · obtain ⟨c2, hc2⟩ := Kd.R_typed h.all k e.symm
    rw [hc2] at hc; injection hc with hc; injection hc with _ hc; exact absurd hc (by decide)
theorem PS.put (h : PS w0 w g vW v5 v6 xs ys ins) {vW' : Value} {zs : List Int} (hw : WS w' w0.heap.size g vW' zs) (hf : Fr g vW w w') (hn : Newer w vW vW') : PS w0 w' g vW' v5 v6 zs ys ins := by
  have hlow := h.ws.low
  refine ⟨hw, ?_, ?_, Below.trans h.bel (hf.below h.bel.size h.ws.low (fun b hb => (h.ws.row.lt b hb).1))⟩
  · have h1 := Kd.R_bound h.all
    have h2 := Kd.R_step (w1 := w') h1 (fun k ok hk => hf.block k hk ok.1.1 ok.1.2)
    refine Kd.R_mono h2 (fun k ok => ⟨ok.1.1, fun e => ?_⟩)
    rcases hn with hn | hn
    · exact ok.1.2 (e.trans hn)
    · have := hn k e.symm; have := ok.2.2.1; omega
  · have h1 : Kd.R kNum 45 w w0.heap.size (fun k => k ≠ g ∧ some k ≠ vW.ownBlock) v6 ins := ⟨fun k hk => ⟨(h.g6 k hk).1, (h.g6 k hk).2.1⟩, h.in_.2⟩
    exact Kd.R_mono (Kd.R_step (w1 := w') h1 (fun k ok hk => hf.block k hk ok.1 ok.2)) (fun _ _ => trivial)
theorem PS.grew5 (h : PS w0 w g vW v5 v6 xs ys ins) {v5' : Value} {zs : List Int} (hr : Kd.R (Kd.int .u8) 5 w' w0.heap.size (fun k => k ≠ g ∧ some k ≠ vW.ownBlock) v5' zs) (hb : Below w0.heap.size w0 w') (hg : w.grownBy w' v5.ownBlock) :
    PS w0 w' g vW v5' v6 xs zs ins := by
  have e1 : some g ≠ v5.ownBlock := fun e => (h.all.1 g e.symm).1 rfl
  refine ⟨h.ws.grown hg e1 (fun b hb e => (h.all.1 b e.symm).2 hb.symm), hr, ?_, hb⟩
  have h1 : Kd.R kNum 45 w w0.heap.size (fun k => some k ≠ v5.ownBlock) v6 ins := ⟨fun k hk => (h.g6 k hk).2.2, h.in_.2⟩
  exact Kd.R_mono (Kd.R_grown h1 hg (fun k ok => ok)) (fun _ _ => trivial)
theorem PS.grew6 (h : PS w0 w g vW v5 v6 xs ys ins) {v6' : Value} {ins' : List (Int × Int)} (hr : Kd.R kNum 45 w' w0.heap.size (fun _ => True) v6' ins') (hb : Below w0.heap.size w0 w') (hg : w.grownBy w' v6.ownBlock) :
    PS w0 w' g vW v5 v6' xs ys ins' := by
  refine ⟨h.ws.grown hg (fun e => (h.g6 g e.symm).1 rfl) (fun b hb e => (h.g6 b e.symm).2.1 hb.symm), ?_, hr, hb⟩
  have h1 : Kd.R (Kd.int .u8) 5 w w0.heap.size (fun k => (k ≠ g ∧ some k ≠ vW.ownBlock) ∧ some k ≠ v6.ownBlock) v5 ys :=
    ⟨fun k hk => ⟨h.all.1 k hk, fun e => (h.g6 k e.symm).2.2 hk.symm⟩, h.all.2⟩
  exact Kd.R_mono (Kd.R_grown h1 hg (fun k ok => ok.2)) (fun _ ok => ok.1)
/-- A new row beside them. -/
theorem PS.new8 (h : PS w0 w g vW v5 v6 xs ys ins) {v8 : Value} {bs : List Int} (h8 : Kd.R (Kd.int .u8) 5 w' w.heap.size (fun _ => True) v8 bs) (hb : Below w.heap.size w w') : Kd.R (Kd.int .u8) 5 w' w.heap.size (fun k => w.heap.size ≤ k) v8 bs :=
  Kd.R_mono (Kd.R_bound h8) (fun k ok => ok.2.1)
theorem row8_put {v8 : Value} {bs : List Int} {n8 : Nat} (h8 : Kd.R (Kd.int .u8) 5 w n8 (fun k => n8 ≤ k) v8 bs) (hf : Fr g vW w w') (hg : g < n8) (hv : ∀ b, vW.ownBlock = some b → b < n8) : Kd.R (Kd.int .u8) 5 w' n8 (fun k => n8 ≤ k) v8 bs :=
  Kd.R_step h8 (fun k ok hk => hf.block k hk (by omega) (fun e => by have := hv k e.symm; omega))
end Go.Proofs.Ytmajbcglpcagoaa.B
