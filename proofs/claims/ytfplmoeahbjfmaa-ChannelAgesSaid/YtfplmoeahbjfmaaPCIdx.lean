/- The closure of channel.Channel's Step, and slices.IndexFunc over it, by hand. No condition but bounds. -/
import Derived.Test.YtfplmoeahbjfmaaPCTake
import Derived.Deep.QuietTactic
import Derived.BigQuiet
namespace Go.Proofs.Ytfplmoeahbjfmaa.P
open Go Go.Proofs Go.RowKit Go.Shelf Go.Proofs.YtfplmoeahbjfmaaW.PrintWords Go.Proofs.YtfplmoeahbjfmaaW.PrintLast Go.Proofs.YtfplmoeahbjfmaaW.PrintMore
set_option linter.unusedVariables false
set_option linter.unusedSimpArgs false

variable {n₀ g : Nat} {age now : Int} {v : Value} {L : List Fl}
/-- Is it too old? -/
def oldB (age now s : Int) : Bool := decide (age ≤ now - s)
/-- Steps within bounds. -/
def Since (now : Int) (L : List Fl) : Prop := ∀ f ∈ L, 0 ≤ f.2.2 ∧ f.2.2 ≤ 100000
/-- What the closure reads: the box that holds the channel's pointer, the channel's block. -/
structure Cap (w : World) (B g : Nat) (age now : Int) (v : Value) : Prop where
  box : w.heap[B]? = some (.cells #[.pointer (some ⟨g, 0, none⟩)] 24 (0, 0))
  blk : w.heap[g]? = some (.cells #[.int .i64 age, .int .i64 now, v] 67 (0, 0))
theorem Cap.below {w w' : World} {B : Nat} (h : Cap w B g age now v) (hb : Below w.heap.size w w') : Cap w' B g age now v := ⟨(hb.block B (blk_lt h.box)).trans h.box, (hb.block g (blk_lt h.blk)).trans h.blk⟩
set_option maxRecDepth 100000 in
set_option maxHeartbeats 8000000 in
theorem old_calls {w : World} {B : Nat} (h : Cap w B g age now v) (A1 A2 : Option Addr) (n1 c1 n2 c2 : Nat) (s : Int) (hn : 0 ≤ now ∧ now ≤ 100000) (hs : 0 ≤ s ∧ s ≤ 100000) :
    Calls Try.prog 36 #[.agg #[.slice A1 n1 c1, .slice A2 n2 c2, .int .i64 s], .pointer (some ⟨B, 0, none⟩)] w fun e w' => e = .returned (.bool (oldB age now s)) ∧ Below w.heap.size w w' := by
  have hb := below_alloc (Below.refl w.heap.size w) (.cells #[.slice A1 n1 c1, .slice A2 n2 c2, .int .i64 s] 50)
  have h1 := h.below hb
  have hc0 : (w.alloc (.cells #[.slice A1 n1 c1, .slice A2 n2 c2, .int .i64 s] 50)).cell? ⟨B, 0, none⟩ = some (.pointer (some ⟨g, 0, none⟩)) := blk_cell h1.box 0
  have hc1 : (w.alloc (.cells #[.slice A1 n1 c1, .slice A2 n2 c2, .int .i64 s] 50)).cell? ⟨g, 1, none⟩ = some (.int .i64 now) := blk_cell h1.blk 1
  have hc2 : (w.alloc (.cells #[.slice A1 n1 c1, .slice A2 n2 c2, .int .i64 s] 50)).cell? ⟨g, 0, none⟩ = some (.int .i64 age) := blk_cell h1.blk 0
  have HB := Aside0.mk hb
  obtain ⟨hn0, hn1⟩ := hn
  obtain ⟨hs0, hs1⟩ := hs
  have hwr : wrap64 (now - s) = now - s := by unfold wrap64; omega
  have hwi : IntKind.i64.wrap (now - s) = now - s := (i64_w _).trans hwr
  obtain ⟨z, hz⟩ : ∃ z, decide (age ≤ now - s) = z := ⟨_, rfl⟩
  have hz2 : oldB age now s = z := hz
  rw [hz2]
  clear h h1 hb hz2
  go_enter Try.func36, Try.ntmps36
  go_wp2_with fail
  go_quiet (fail)
  go_wp2
  go_ret
  exact ⟨by simp, below_step HB.out (pw_below_drewN (Below.refl _ _) _)⟩
/-- The first that is too old, or -1. -/
def idxOld (age now : Int) : List Fl → Int → Int
  | [], _ => -1
  | f :: L, i => if oldB age now f.2.2 then i else idxOld age now L (i + 1)
set_option maxRecDepth 100000 in
set_option maxHeartbeats 8000000 in
theorem idx_calls {w : World} {B gr n cap : Nat} {ok : Nat → Prop} (h : Cap w B g age now v) (hr : Kd.R kFl 50 w n₀ ok (.slice (some ⟨gr, 0, none⟩) n cap) L) (hn5 : n ≤ 5000) (hn : 0 ≤ now ∧ now ≤ 100000) (hs : Since now L) :
    Calls Try.prog 52 #[.slice (some ⟨gr, 0, none⟩) n cap, .func (.func 36) #[] #[.pointer (some ⟨B, 0, none⟩)]] w fun e w' => e = .returned (.int .i64 (idxOld age now L 0)) ∧ Below w.heap.size w w' := by
  have HH := Aside0.mk h
  have HR := Aside0.mk hr
  have HS := Aside0.mk hs
  have HN := Aside0.mk hn
  have hnl : n = L.length := (Kd.R_reads' hr).1
  have HNL := Aside0.mk hnl
  have HB := Aside0.mk (Below.refl w.heap.size w)
  clear h hr hs hn hnl
  go_enter Try.func52, Try.ntmps52
  go_wp2_with fail
  go_loopw [8] (fun v8 wr => ∃ i : Nat, v8 = .int .i64 (i : Int) ∧ i ≤ n ∧ Aside0 (Below w.heap.size w wr) ∧ Aside0 (idxOld age now L 0 = idxOld age now (L.drop i) (i : Int))) (fun v8 _ => n - (intOf v8).toNat)
  case atStart => exact ⟨0, by simp, by omega, HB, ⟨rfl⟩⟩
  case round =>
    clear HB
    obtain ⟨i, rfl, hi, HB, HI⟩ := hrel
    by_cases hlt : i < n
    · have hlb : decide ((i : Int) < (n : Int)) = true := decide_eq_true (by omega)
      obtain ⟨f, A1, c1, A2, c2, hLi, hf0, hf1, hf2, hr1, hr2⟩ := fl_get (Kd.R_below HR.out HB.out) i hlt
      obtain ⟨s, hs⟩ : ∃ s, s = f.2.2 := ⟨_, rfl⟩
      rw [← hs] at hf2
      obtain ⟨n1, hn1⟩ : ∃ n1, n1 = f.1.length := ⟨_, rfl⟩
      obtain ⟨n2, hn2⟩ : ∃ n2, n2 = f.2.1.length := ⟨_, rfl⟩
      rw [← hn1] at hf0
      rw [← hn2] at hf1
      have hsb : 0 ≤ s ∧ s ≤ 100000 := by rw [hs]; exact HS.out f (List.mem_of_getElem? hLi)
      have hil : i < L.length := by rw [← HNL.out]; exact hlt
      have hfe : L[i] = f := by rw [List.getElem?_eq_getElem hil] at hLi; injection hLi
      have HSTEP := Aside0.mk (show idxOld age now (L.drop i) (i : Int) = if oldB age now s then (i : Int) else idxOld age now (L.drop (i + 1)) ((i : Int) + 1) by rw [List.drop_eq_getElem_cons hil, hfe, hs]; rfl)
      have HO := Aside0.mk (old_calls (HH.out.below HB.out) A1 A2 n1 c1 n2 c2 s HN.out hsb)
      obtain ⟨z, hz⟩ : ∃ z, z = oldB age now s := ⟨_, rfl⟩
      rw [← hz] at HSTEP HO
      clear hr1 hr2 hn1 hn2 hs hsb hfe hLi hz hil
      cases z with
      | true =>
        go_wp2_with (go_at_call 36; refine HO.out.mono ?_; rintro e w1 ⟨rfl, hb⟩; have HB1 := Aside0.mk (below_step HB.out hb); clear hb)
        go_ret
        exact ⟨by rw [HI.out, HSTEP.out]; simp, HB1.out⟩
      | false =>
        go_wp2_with (go_at_call 36; refine HO.out.mono ?_; rintro e w1 ⟨rfl, hb⟩; have HB1 := Aside0.mk (below_step HB.out hb); clear hb)
        go_roundw
        case rel => exact ⟨i + 1, by simp, by omega, HB1, ⟨by rw [HI.out, HSTEP.out]; simp⟩⟩
        case measure => simp [intOf]; omega
    · have hlb : decide ((i : Int) < (n : Int)) = false := decide_eq_false (by omega)
      go_wp2
      go_ret
      exact ⟨by rw [HI.out, List.drop_of_length_le (by rw [← HNL.out]; omega)]; rfl, HB.out⟩
end Go.Proofs.Ytfplmoeahbjfmaa.P
