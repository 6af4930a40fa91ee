/- channel.Channel by hand: the state, its simple methods. No condition but bounds. -/
import Derived.Test.YtfplmoeahbjfmaaPPFr
import Derived.Test.YtfplmoeahbjfmaaPPSplit
import Derived.Test.YtfplmoeahbjfmaaP6
import Derived.Lib.SliceRun
namespace Go.Proofs.Ytfplmoeahbjfmaa.P
open Go Go.Proofs Go.RowKit Go.Shelf Go.Proofs.YtfplmoeahbjfmaaW.PrintWords Go.Proofs.YtfplmoeahbjfmaaW.PrintLast Go.Proofs.YtfplmoeahbjfmaaW.PrintMore
set_option linter.unusedVariables false
set_option linter.unusedSimpArgs false

/-- A datagram under way: as it is, as it was put, since when. -/
abbrev Fl := List Int × (List Int × Int)
abbrev kFl : Kd Fl := Kd.pair (Kd.slice 5 (Kd.int .u8)) (Kd.pair (Kd.slice 5 (Kd.int .u8)) (Kd.int .i64))
theorem fl_info : (Try.prog.info? 50).map (fun i => (i.zero, i.size, i.bytes)) = some (some (.agg #[.slice none 0 0, .slice none 0 0, .int .i64 0]), 3, 56) := by kernel_rfl
theorem fl_size : (Try.prog.info? 50).map (·.size) = some 3 := by kernel_rfl
/-- The channel at block g: how long datagrams live, the step, the row of datagrams (from n₀ on). -/
structure CS (w : World) (n₀ g : Nat) (age now : Int) (v : Value) (L : List Fl) : Prop where
  blk : w.heap[g]? = some (.cells #[.int .i64 age, .int .i64 now, v] 67 (0, 0))
  row : Kd.R kFl 50 w n₀ (fun _ => True) v L
  low : n₀ ≤ g
variable {w w' : World} {n₀ g : Nat} {age now : Int} {v v' : Value} {L L' : List Fl}
theorem CS.lt (h : CS w n₀ g age now v L) : g < w.heap.size := blk_lt h.blk
theorem CS.ne (h : CS w n₀ g age now v L) : some g ≠ v.ownBlock := Kd.R_ne h.row h.blk (by decide)
theorem CS.own (h : CS w n₀ g age now v L) : ∀ b, v.ownBlock = some b → n₀ ≤ b ∧ b < w.heap.size := by
  intro b hb
  obtain ⟨inner, ho⟩ := Kd.R_own h.row
  exact ⟨own_base ho b hb, own_lt ho b hb⟩
theorem CS.below (h : CS w n₀ g age now v L) (hb : Below w.heap.size w w') : CS w' n₀ g age now v L := ⟨(hb.block g h.lt).trans h.blk, Kd.R_below h.row hb, h.low⟩
theorem CS.now_ (h : CS w n₀ g age now v L) (now' : Int) : CS (w.setCell ⟨g, 1, none⟩ (.int .i64 now')) n₀ g age now' v L :=
  ⟨blk_put h.blk 1 _ rfl, Kd.R_set h.row h.blk (by decide) 1 _, h.low⟩
/-- Behind what was done to the row (the channel's block is as it was), the row's value stored. -/
theorem CS.rowed {w2 : World} (h : CS w n₀ g age now v L) (hr : Kd.R kFl 50 w2 n₀ (fun _ => True) v' L') (hg : w.grownBy w2 v.ownBlock) (hat : v'.ownBlock = v.ownBlock ∨ (∃ b, v'.ownBlock = some b ∧ w.heap.size ≤ b) ∨ v'.ownBlock = none) :
    CS (w2.setCell ⟨g, 2, none⟩ v') n₀ g age now v' L' ∧ Fr g v w (w2.setCell ⟨g, 2, none⟩ v') ∧ Newer w v v' := by
  have hb2 : w2.heap[g]? = some (.cells #[.int .i64 age, .int .i64 now, v] 67 (0, 0)) := (hg.block g h.lt h.ne).trans h.blk
  refine ⟨⟨blk_put hb2 2 _ rfl, Kd.R_set hr hb2 (by decide) 2 _, h.low⟩, ⟨hg.os, hg.tape, hg.output, by simpa using hg.size, fun k hk hkg hkv => ?_⟩, ?_⟩
  · rw [Below.heap_setCell w2 ⟨g, 2, none⟩ v' k hkg]; exact hg.block k hk hkv
  · rcases hat with e | ⟨b, e, hb⟩ | e
    · exact .inl e
    · exact .inr fun b' hb' => by rw [e] at hb'; injection hb' with hb'; omega
    · exact .inr fun b' hb' => by rw [e] at hb'; cases hb'
theorem CS.slice (h : CS w n₀ g age now v L) : ∃ A c, v = .slice A L.length c := Kd.R_slice h.row
set_option maxRecDepth 100000 in
set_option maxHeartbeats 4000000 in
theorem cnew_calls (w : World) (n₀ : Nat) (age : Int) (hn : n₀ ≤ w.heap.size) (h1 : 1 ≤ age) (h2 : age ≤ 1000) : Calls Try.prog 10 #[.int .i64 age] w fun e w' => ∃ g, e = .returned (.tuple #[.pointer (some ⟨g, 0, none⟩), .int .i64 0]) ∧ g = w.heap.size ∧ CS w' n₀ g age 0 (.slice none 0 0) [] ∧ Below w.heap.size w w' := by
  have d1 : decide (age < 1) = false := decide_eq_false (by omega)
  have d2 : decide (age > 1000) = false := decide_eq_false (by omega)
  have d3 : decide (1000 < age) = false := decide_eq_false (by omega)
  go_enter Try.func10, Try.ntmps10
  go_wp2
  go_ret2
  exact ⟨w.heap.size, by simp, rfl, ⟨blk_new _ _, Kd.R_nil _ _ _ _ _, hn⟩, below_alloc (Below.refl _ _) _⟩
set_option maxRecDepth 100000 in
set_option maxHeartbeats 4000000 in
theorem cnew_bad (w : World) (age : Int) (h : age < 1 ∨ 1000 < age) : Calls Try.prog 10 #[.int .i64 age] w fun e w' => e = .returned (.tuple #[.pointer none, .int .i64 1]) ∧ w = w' := by
  by_cases h1 : age < 1
  · have d1 : decide (age < 1) = true := decide_eq_true (by omega)
    go_enter Try.func10, Try.ntmps10
    go_wp2
    go_ret2
    exact ⟨by simp, rfl⟩
  · have d1 : decide (age < 1) = false := decide_eq_false (by omega)
    have d2 : decide (age > 1000) = true := decide_eq_true (by omega)
    have d3 : decide (1000 < age) = true := decide_eq_true (by omega)
    go_enter Try.func10, Try.ntmps10
    go_wp2
    go_ret2
    exact ⟨by simp, rfl⟩
set_option maxRecDepth 100000 in
set_option maxHeartbeats 4000000 in
theorem clen_calls (h : CS w n₀ g age now v L) : Calls Try.prog 14 #[.pointer (some ⟨g, 0, none⟩)] w fun e w' => e = .returned (.int .i64 (L.length : Int)) ∧ w = w' := by
  obtain ⟨A, c, e⟩ := h.slice
  subst e
  have hc : w.cell? ⟨g, 2, none⟩ = some (.slice A L.length c) := blk_cell h.blk 2
  clear h
  go_enter Try.func14, Try.ntmps14
  go_wp2
  go_ret
  exact ⟨by simp, rfl⟩
set_option maxRecDepth 100000 in
set_option maxHeartbeats 4000000 in
theorem cnow_calls (h : CS w n₀ g age now v L) : Calls Try.prog 28 #[.pointer (some ⟨g, 0, none⟩)] w fun e w' => e = .returned (.int .i64 now) ∧ w = w' := by
  have hc : w.cell? ⟨g, 1, none⟩ = some (.int .i64 now) := blk_cell h.blk 1
  clear h
  go_enter Try.func28, Try.ntmps28
  go_wp2
  go_ret
  exact ⟨by simp, rfl⟩
/-- What has says. -/
def hasE (n : Nat) (k : Int) : Int := if 0 ≤ k ∧ k < n then 0 else 9
set_option maxRecDepth 100000 in
set_option maxHeartbeats 4000000 in
theorem chas_calls (h : CS w n₀ g age now v L) (k : Int) : Calls Try.prog 37 #[.pointer (some ⟨g, 0, none⟩), .int .i64 k] w fun e w' => e = .returned (.int .i64 (hasE L.length k)) ∧ w = w' := by
  obtain ⟨A, c, e⟩ := h.slice
  subst e
  have hc : w.cell? ⟨g, 2, none⟩ = some (.slice A L.length c) := blk_cell h.blk 2
  clear h
  by_cases h0 : k < 0
  · have d0 : decide (k < 0) = true := decide_eq_true h0
    have e : hasE L.length k = 9 := by unfold hasE; rw [if_neg (by omega)]
    rw [e]
    go_enter Try.func37, Try.ntmps37
    go_wp2
    go_ret
    exact ⟨by simp, rfl⟩
  · have d0 : decide (k < 0) = false := decide_eq_false h0
    by_cases h1 : (L.length : Int) ≤ k
    · have d1 : decide ((L.length : Int) ≤ k) = true := decide_eq_true h1
      have e : hasE L.length k = 9 := by unfold hasE; rw [if_neg (by omega)]
      rw [e]
      go_enter Try.func37, Try.ntmps37
      go_wp2
      go_ret
      exact ⟨by simp, rfl⟩
    · have d1 : decide ((L.length : Int) ≤ k) = false := decide_eq_false h1
      have e : hasE L.length k = 0 := by unfold hasE; rw [if_pos (by omega)]
      rw [e]
      go_enter Try.func37, Try.ntmps37
      go_wp2
      go_ret
      exact ⟨by simp, rfl⟩
end Go.Proofs.Ytfplmoeahbjfmaa.P
