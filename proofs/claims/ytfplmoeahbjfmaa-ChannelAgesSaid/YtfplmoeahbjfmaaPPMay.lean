/- pieces.Joiner by hand: its methods over the block that holds it. No condition but bounds. -/
import Derived.Test.YtfplmoeahbjfmaaPPSplit
import Derived.Test.YtfplmoeahbjfmaaPPFr
namespace Go.Proofs.Ytfplmoeahbjfmaa.P
open Go Go.Proofs Go.RowKit Go.Shelf Go.Proofs.YtfplmoeahbjfmaaW.PrintWords Go.Proofs.YtfplmoeahbjfmaaW.PrintLast Go.Proofs.YtfplmoeahbjfmaaW.PrintMore
set_option linter.unusedVariables false
set_option linter.unusedSimpArgs false

/-- The joiner at block g: under way or not, its text (a row of its own, from n₀ on), the next number, how many were bad. -/
structure JS (w : World) (n₀ g : Nat) (u : Bool) (v : Value) (xs : List Int) (nx bd : Int) : Prop where
  blk : w.heap[g]? = some (.cells #[.bool u, v, .int .i64 nx, .int .i64 bd] 77 (0, 0))
  row : Kd.R (Kd.int .u8) 5 w n₀ (fun _ => True) v xs
  low : n₀ ≤ g
  zero : u = false → v = .slice none 0 0 ∧ xs = []
variable {w w' : World} {n₀ g : Nat} {u : Bool} {v : Value} {xs : List Int} {nx bd : Int}
theorem JS.lt (h : JS w n₀ g u v xs nx bd) : g < w.heap.size := blk_lt h.blk
theorem JS.ne (h : JS w n₀ g u v xs nx bd) : some g ≠ v.ownBlock := Kd.R_ne h.row h.blk (by decide)
theorem JS.own (h : JS w n₀ g u v xs nx bd) : ∀ b, v.ownBlock = some b → n₀ ≤ b ∧ b < w.heap.size := by
  intro b hb
  obtain ⟨inner, ho⟩ := Kd.R_own h.row
  exact ⟨own_base ho b hb, own_lt ho b hb⟩
theorem JS.kept (h : JS w n₀ g u v xs nx bd) (hg : w'.heap[g]? = w.heap[g]?) (hr : ∀ b, v.ownBlock = some b → w'.heap[b]? = w.heap[b]?) : JS w' n₀ g u v xs nx bd := by
  refine ⟨hg.trans h.blk, ?_, h.low, h.zero⟩
  obtain ⟨h0, inner, ho, hp⟩ := h.row
  exact ⟨h0, inner, own_move ho hr, hp.imp_ (fun _ _ hm => hm)⟩
theorem JS.below (h : JS w n₀ g u v xs nx bd) (hb : Below w.heap.size w w') : JS w' n₀ g u v xs nx bd :=
  h.kept (hb.block g h.lt) fun b e => hb.block b (h.own b e).2
theorem JS.set_row (h : JS w n₀ g u v xs nx bd) (i : Nat) (x : Value) : Kd.R (Kd.int .u8) 5 (w.setCell ⟨g, i, none⟩ x) n₀ (fun _ => True) v xs := by
  obtain ⟨h0, inner, ho, hp⟩ := h.row
  exact ⟨h0, inner, own_move ho (fun b hb => Below.heap_setCell w ⟨g, i, none⟩ x b (fun e => h.ne (by rw [hb]; exact congrArg some e.symm))), hp.imp_ (fun _ _ hm => hm)⟩
theorem JS.set0 (h : JS w n₀ g u v xs nx bd) (u' : Bool) (hz : u' = false → v = .slice none 0 0 ∧ xs = []) : JS (w.setCell ⟨g, 0, none⟩ (.bool u')) n₀ g u' v xs nx bd :=
  ⟨blk_put h.blk 0 _ rfl, h.set_row 0 _, h.low, hz⟩
theorem JS.set2 (h : JS w n₀ g u v xs nx bd) (nx' : Int) : JS (w.setCell ⟨g, 2, none⟩ (.int .i64 nx')) n₀ g u v xs nx' bd :=
  ⟨blk_put h.blk 2 _ rfl, h.set_row 2 _, h.low, h.zero⟩
theorem JS.set3 (h : JS w n₀ g u v xs nx bd) (bd' : Int) : JS (w.setCell ⟨g, 3, none⟩ (.int .i64 bd')) n₀ g u v xs nx bd' :=
  ⟨blk_put h.blk 3 _ rfl, h.set_row 3 _, h.low, h.zero⟩
theorem JS.clear (h : JS w n₀ g u v xs nx bd) : JS ((w.setCell ⟨g, 0, none⟩ (.bool false)).setCell ⟨g, 1, none⟩ (.slice none 0 0)) n₀ g false (.slice none 0 0) [] nx bd :=
  ⟨blk_put (cs := #[.bool false, v, .int .i64 nx, .int .i64 bd]) (blk_put h.blk 0 _ rfl) 1 _ rfl, Kd.R_nil _ _ _ _ _, h.low, fun _ => ⟨rfl, rfl⟩⟩
set_option maxRecDepth 100000 in
set_option maxHeartbeats 4000000 in
theorem drop_calls (w : World) (n₀ g : Nat) (u : Bool) (v : Value) (xs : List Int) (nx bd : Int) (h : JS w n₀ g u v xs nx bd) (hb0 : 0 ≤ bd) (hb1 : bd ≤ 1000000) :
    Calls Try.prog 42 #[.pointer (some ⟨g, 0, none⟩)] w fun e w' => e = .returned (.tuple #[]) ∧ JS w' n₀ g false (.slice none 0 0) [] nx (bd + 1) ∧ Fr g v w w' ∧ w'.heap.size = w.heap.size := by
  have hc0 : w.cell? ⟨g, 0, none⟩ = some (.bool u) := blk_cell h.blk 0
  have hc1 : w.cell? ⟨g, 1, none⟩ = some v := blk_cell h.blk 1
  have hc3 : w.cell? ⟨g, 3, none⟩ = some (.int .i64 bd) := blk_cell h.blk 3
  have hf := fun i => blk_frozen h.blk i
  go_enter Try.func42, Try.ntmps42
  go_wp2
  refine bodyPost_end (results_none rfl _ _ _) rfl ?_
  refine ⟨by simp, ?_, ?_, by simp⟩
  · exact (h.set3 (bd + 1)).clear
  · exact ((Fr.set 3 _).seq (Fr.set 0 _)).seq (Fr.set 1 _)
set_option maxRecDepth 100000 in
set_option maxHeartbeats 4000000 in
/-- A first message may come always; another one where the text is under way and it is the next. -/
theorem may_calls (w : World) (n₀ g : Nat) (u : Bool) (v : Value) (xs : List Int) (nx bd : Int) (x y : Bool) (r : Int) (vp : Value) (h : JS w n₀ g u v xs nx bd) (hb0 : 0 ≤ bd) (hb1 : bd ≤ 1000000)
    (hx : x = true → r = 0) (hn : x = false → u = true ∧ nx % 64 = r) (hnx : 0 ≤ nx) (hnx1 : nx ≤ 1000000) (hvp : vp.oneCell' = true) :
    Calls Try.prog 43 #[.pointer (some ⟨g, 0, none⟩), .agg #[.bool x, .bool y, .int .i64 r, vp]] w fun e w' => e = .returned (.bool true) ∧
      (if x then ∃ v', JS w' n₀ g true v' [] 0 (if u then bd + 1 else bd) ∧ v' = .slice none 0 0 else JS w' n₀ g u v xs nx bd) ∧ Fr g v w w' ∧ w.heap.size ≤ w'.heap.size := by
  go_enter Try.func43, Try.ntmps43
  have hb := below_alloc (Below.refl w.heap.size w) (.cells #[.bool x, .bool y, .int .i64 r, vp] 79)
  have h1 := h.below hb
  have hfr := Fr.of_below (g := g) (v := v) hb
  have hsz : w.heap.size ≤ (w.alloc (.cells #[.bool x, .bool y, .int .i64 r, vp] 79)).heap.size := hb.size
  have HH := Aside0.mk h1
  have HF := Aside0.mk hfr
  have HS := Aside0.mk hsz
  have hc0 : (w.alloc (.cells #[.bool x, .bool y, .int .i64 r, vp] 79)).cell? ⟨g, 0, none⟩ = some (.bool u) := blk_cell h1.blk 0
  have hc2 : (w.alloc (.cells #[.bool x, .bool y, .int .i64 r, vp] 79)).cell? ⟨g, 2, none⟩ = some (.int .i64 nx) := blk_cell h1.blk 2
  have hfz := fun i => blk_frozen h1.blk i
  clear h h1 hfr hsz hb
  cases x with
  | true =>
    obtain rfl := hx rfl
    clear hx hn
    cases u with
    | true =>
      clear hc2
      go_wp2_with (go_at_call 42; refine (drop_calls _ n₀ g true v xs nx bd HH.out hb0 hb1).mono ?_; rintro e w1 ⟨rfl, hj, hf, hs⟩; have hfz1 := fun i => blk_frozen hj.blk i; have hq0 : w1.cell? ⟨g, 0, none⟩ = some (.bool false) := blk_cell hj.blk 0; have hq2 : w1.cell? ⟨g, 2, none⟩ = some (.int .i64 nx) := blk_cell hj.blk 2; have HJ := Aside0.mk hj; have HF1 := Aside0.mk hf; have HS1 := Aside0.mk hs; clear hj hf hs hfz hc0)
      go_ret
      refine ⟨by simp, ?_, ?_, ?_⟩
      · exact (HJ.out.set0 true (fun e => by cases e)).set2 0
      · exact (HF.out.seq HF1.out).seq ((Fr.set 0 _).seq (Fr.set 2 _))
      · have := HS.out; have := HS1.out; simp; omega
    | false =>
      go_wp2
      go_ret
      refine ⟨by simp, ?_, ?_, ?_⟩
      · have hz := HH.out.zero rfl
        have h2 := (HH.out.set0 true (fun e => by cases e)).set2 0
        rw [hz.1, hz.2] at h2
        exact h2
      · exact HF.out.seq ((Fr.set 0 _).seq (Fr.set 2 _))
      · have := HS.out; simp
  | false =>
    obtain ⟨rfl, hr⟩ := hn rfl
    have hrm : (r != nx.tmod 64) = false := by rw [Int.tmod_eq_emod_of_nonneg hnx, hr]; simp
    have hr2 : r = nx % 64 := hr.symm
    subst hr2
    clear hx hn hr
    go_wp2_with fail
    go_quiet (fail)
    go_wp2
    go_ret
    refine ⟨by simp, ?_, ?_, ?_⟩
    · exact HH.out.below (pw_below_drewN (Below.refl _ _) nq)
    · exact HF.out.seq (Fr.of_below (pw_below_drewN (Below.refl _ _) nq))
    · exact HS.out
end Go.Proofs.Ytfplmoeahbjfmaa.P
