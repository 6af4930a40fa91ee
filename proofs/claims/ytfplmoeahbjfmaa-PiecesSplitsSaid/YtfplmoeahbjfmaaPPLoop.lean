/- What the laws of chapter 34 hold while a text's messages are taken one by one. No condition. -/
import Derived.Test.YtfplmoeahbjfmaaPPLaw0
import Derived.Test.YtfplmoeahbjfmaaPPSizes
namespace Go.Proofs.Ytfplmoeahbjfmaa.P
open Go Go.Proofs Go.RowKit Go.Shelf Go.Proofs.YtfplmoeahbjfmaaW.PrintWords Go.Proofs.YtfplmoeahbjfmaaW.PrintLast Go.Proofs.YtfplmoeahbjfmaaW.PrintMore
set_option linter.unusedVariables false
set_option linter.unusedSimpArgs false

structure LS (w0 w : World) (g : Nat) (u : Bool) (v : Value) (xs : List Int) (nx bd : Int) (vl : Value) (l : List Int) : Prop where
  js : JS w w0.heap.size g u v xs nx bd
  row : Kd.R kRow 31 w w0.heap.size (fun k => k ≠ g ∧ some k ≠ v.ownBlock) vl (msgs l (mcount l.length))
  bel : Below w0.heap.size w0 w
variable {w0 w w' : World} {g : Nat} {u : Bool} {v : Value} {xs : List Int} {nx bd : Int} {vl : Value} {l : List Int}
theorem LS.below (h : LS w0 w g u v xs nx bd vl l) (hb : Below w.heap.size w w') : LS w0 w' g u v xs nx bd vl l :=
  ⟨h.js.below hb, Kd.R_below h.row hb, below_step h.bel hb⟩
/-- A joiner made behind the row. -/
theorem LS.new {wl : World} (hr : Kd.R kRow 31 wl w0.heap.size (fun _ => True) vl (msgs l (mcount l.length))) (hb : Below w0.heap.size w0 wl) (hj : JS w w0.heap.size g false (.slice none 0 0) [] 0 0) (hg : g = wl.heap.size) (hbw : Below wl.heap.size wl w) :
    LS w0 w g false (.slice none 0 0) [] 0 0 vl l := by
  refine ⟨hj, ?_, below_step hb hbw⟩
  have h1 := Kd.R_mono (Kd.R_bound hr) (ok' := fun k => k ≠ g ∧ some k ≠ (Value.slice none 0 0).ownBlock) (fun k ok => ⟨by have := ok.2.2.1; omega, by simp [Value.ownBlock]⟩)
  exact Kd.R_below h1 hbw
/-- A row made behind the joiner. -/
theorem LS.row_new {wl : World} (hj : JS w w0.heap.size g u v xs nx bd) (hb : Below w0.heap.size w0 w) (hr : Kd.R kRow 31 wl w.heap.size (fun _ => True) vl (msgs l (mcount l.length))) (hbw : Below w.heap.size w wl) :
    LS w0 wl g u v xs nx bd vl l := by
  refine ⟨hj.below hbw, ?_, below_step hb hbw⟩
  have h1 := Kd.R_mono (Kd.R_bound hr) (ok' := fun k => k ≠ g ∧ some k ≠ v.ownBlock) (fun k ok => ⟨by have := ok.2.1; have := hj.lt; omega, fun e => by have := (hj.own k e.symm).2; have := ok.2.1; omega⟩)
  exact Kd.R_lower h1 hb.size
theorem Fr.below_js (h : JS w w0.heap.size g u v xs nx bd) (hb : Below w0.heap.size w0 w) (hf : Fr g v w w') : Below w0.heap.size w0 w' :=
  hb.trans (hf.below hb.size h.low (fun b hb => (h.own b hb).1))
def xsOf (l : List Int) (i : Nat) : List Int := if i = mcount l.length then [] else l.take (63 * i)
/-- Behind a message. -/
theorem LS.step {i : Nat} {v' : Value} (h : LS w0 w g u v xs nx bd vl l) (hj : JS w' w0.heap.size g (!decide (i + 1 = mcount l.length)) v' (xsOf l (i + 1)) ((i + 1 : Nat) : Int) (bd1 u i bd)) (hf : Fr g v w w') (hn : Newer w v v') :
    LS w0 w' g (!decide (i + 1 = mcount l.length)) v' (xsOf l (i + 1)) ((i + 1 : Nat) : Int) (bd1 u i bd) vl l :=
  ⟨hj, Kd.R_fr h.row hf hn, Fr.below_js h.js h.bel hf⟩
/-- How far the row is taken: i messages are. -/
structure At (l : List Int) (u : Bool) (xs : List Int) (nx : Int) (i : Nat) : Prop where
  le : i ≤ mcount l.length
  may : i < mcount l.length → May l u xs nx i
  fin : i = mcount l.length → u = false ∧ xs = []
  n0 : 0 ≤ nx
  n1 : nx ≤ 1000000
theorem At.step {i : Nat} (h : At l u xs nx i) (hi : i < mcount l.length) (hl : l.length ≤ 65536) : At l (!decide (i + 1 = mcount l.length)) (xsOf l (i + 1)) ((i + 1 : Nat) : Int) (i + 1) := by
  have hm : mcount l.length ≤ 2000 := by unfold mcount; omega
  refine ⟨hi, fun h2 => .inr ⟨?_, ?_, rfl⟩, fun h2 => ⟨?_, ?_⟩, by omega, by omega⟩
  · rw [decide_eq_false (by omega)]; rfl
  · unfold xsOf; rw [if_neg (by omega)]
  · rw [decide_eq_true h2]; rfl
  · unfold xsOf; rw [if_pos h2]
theorem At.zero (l : List Int) (u : Bool) (xs : List Int) (nx : Int) (h0 : 0 ≤ nx) (h1 : nx ≤ 1000000) : At l u xs nx 0 := ⟨Nat.zero_le _, fun _ => .inl rfl, fun h => by unfold mcount at h; omega, h0, h1⟩
/-- A message of the row, taken. -/
theorem LS.takes {gr c1 mc : Nat} {i : Nat} (h : LS w0 w g u v xs nx bd (.slice (some ⟨gr, 0, none⟩) mc c1) l) (ha : At l u xs nx i) (hi : i < mc) (hl : l.length ≤ 65536) (hb0 : 0 ≤ bd) (hb1 : bd ≤ 1000000) :
    ∃ A n c, w.cell? ⟨gr, i, none⟩ = some (.slice A n c) ∧ n = (msg l i).length ∧ Calls Try.prog 19 #[.pointer (some ⟨g, 0, none⟩), .slice A n c] w fun e w' =>
      ∃ t v', e = .returned (.tuple #[t, .bool (decide (i + 1 = mcount l.length)), .int .i64 0]) ∧ Kd.R (Kd.int .u8) 5 w' w.heap.size (fun k => k ≠ g ∧ some k ≠ v'.ownBlock) t (if i + 1 = mcount l.length then l else []) ∧
        LS w0 w' g (!decide (i + 1 = mcount l.length)) v' (xsOf l (i + 1)) ((i + 1 : Nat) : Int) (bd1 u i bd) (.slice (some ⟨gr, 0, none⟩) mc c1) l ∧ w.heap.size ≤ w'.heap.size ∧ Fr g v w w' ∧ Newer w v v' := by
  have hmc : mc = mcount l.length := by have := (Kd.R_reads' h.row).1; rw [msgs_length] at this; exact this
  subst hmc
  obtain ⟨A, c, hcell, hV⟩ := rows_get h.row i hi
  rw [msgs_get _ _ _ hi] at hcell hV
  refine ⟨A, _, c, hcell, rfl, (take_calls w w0.heap.size g u v xs nx bd A _ c l i h.js hi hl (ha.may hi) hV hb0 hb1 ha.n0 ha.n1).mono ?_⟩
  rintro e w' ⟨t, v', rfl, ht, hj, hf, hn, hs⟩
  exact ⟨t, v', rfl, ht, h.step hj hf hn, hs, hf, hn⟩
end Go.Proofs.Ytfplmoeahbjfmaa.P
