/- slices.Chunk of bytes, sixty-three at a time: what it yields. -/
import Derived.RangeFuncNested
import Derived.RangeFuncBound
import Derived.RangeFuncCalls
import Derived.RangeFuncLeaves
import Derived.RangeFuncBox
import Derived.Shelf.Abstract
import Derived.WalkKit
import Derived.OwnWalkIn
import Derived.TacticsInMore
import Derived.LoopNIn
import Derived.LoopIn
import Derived.Maps.AppendAt
import Derived.Test.YtfplmoeahbjfmaaPExtra
import Derived.Test.YtfplmoeahbjfmaaWLast
namespace Go.Proofs.Ytfplmoeahbjfmaa.P
open Go Go.Proofs Go.RowKit Go.Shelf Go.Proofs.YtfplmoeahbjfmaaW.PrintWords Go.Proofs.YtfplmoeahbjfmaaW.PrintLast Go.Proofs.YtfplmoeahbjfmaaW.PrintMore
set_option linter.unusedVariables false
attribute [local go_sem] Oper.semAt_some

/-- The parts, by their numbers. -/
abbrev Part63 (len : Nat) := { x : Nat // 63 * x < len }
def partV63 (ad : Addr) (len : Nat) (x : Part63 len) : Value := .slice (some (ad.add (63 * x.1))) (min 63 (len - 63 * x.1)) (min 63 (len - 63 * x.1))

set_option maxRecDepth 100000 in
set_option maxHeartbeats 2000000 in
theorem chunk63_1_in (F : Fence) (n : Nat) (h7 : F.fn 54) (hro : F.round = none) (hn : 1 ≤ n) (l Bs Bn : Nat) (ad : Addr) (len cap : Nat) (hlen : len < 140737488355328) (hcap : len ≤ cap)
    (Kp : World → World → Prop) (hKs : ∀ A B, Kp A B → A.cell? ⟨Bs, 0, none⟩ = some (.slice (some ad) len cap) → B.cell? ⟨Bs, 0, none⟩ = some (.slice (some ad) len cap)) (hKn : ∀ A B, Kp A B → A.cell? ⟨Bn, 0, none⟩ = some (.int .i64 63) → B.cell? ⟨Bn, 0, none⟩ = some (.int .i64 63)) (J Jx : List (Part63 len) → World → Prop)
    (hY : ∀ pre (x : Part63 len) W, J pre W → pre.length < len → YieldAt F (n - 1) Try.prog l #[partV63 ad len x] W fun e W' =>
      (e = .returned (.bool true) ∧ J (pre ++ [x]) W' ∧ Kp W W') ∨ (e = .returned (.bool false) ∧ Jx (pre ++ [x]) W'))
    (hJd : ∀ pre W, J pre W → J pre W.drew)
    (W : World) (hcs : W.cell? ⟨Bs, 0, none⟩ = some (.slice (some ad) len cap)) (hcn : W.cell? ⟨Bn, 0, none⟩ = some (.int .i64 63)) (h0 : J [] W) :
    CallsIn F n Try.prog 54 #[.func (.yield l) #[] #[], .pointer (some ⟨Bs, 0, none⟩), .pointer (some ⟨Bn, 0, none⟩)] W fun e W' => (∃ v, e = .returned v) ∧
      ((∃ ys, ys.map (·.1) = List.range ((len + 62) / 63) ∧ J ys W') ∨ (∃ pre, Jx pre W')) := by
  refine callsIn_of_wp Try.func54 rfl h7 ?_ hro
  simp only [Try.ntmps54, List.size_toArray, List.length_cons, List.length_nil, Nat.reduceAdd, Nat.reduceSub, Array.replicate_succ, Array.replicate_zero, List.push_toArray, List.append_toArray, List.nil_append, List.cons_append]
  gi_wp2
  gi_loopw [4] (fun i wr => ∃ (k : Nat) (pre : List (Part63 len)), 63 * k < len + 63 ∧ i = .int .i64 ((63 * k : Nat) : Int) ∧ pre.map (·.1) = List.range k ∧ J pre wr ∧ wr.cell? ⟨Bs, 0, none⟩ = some (.slice (some ad) len cap) ∧ wr.cell? ⟨Bn, 0, none⟩ = some (.int .i64 63))
    (fun i _ => len + 63 - (intOf i).toNat)
  case atStart => exact ⟨0, [], by omega, rfl, rfl, h0, hcs, hcn⟩
  case round =>
    obtain ⟨k, pre, hk, rfl, hpre, hJs, hcs', hcn'⟩ := hrel
    have hpl : pre.length = k := by have := congrArg List.length hpre; simpa using this
    by_cases hlt : 63 * k < len
    · have hcs2 : wr.drew.cell? ⟨Bs, 0, none⟩ = some (.slice (some ad) len cap) := hcs'
      have hcn2 : wr.drew.cell? ⟨Bn, 0, none⟩ = some (.int .i64 63) := hcn'
      obtain ⟨j, hj⟩ : ∃ j : Nat, min 63 (len - 63 * k) = j := ⟨_, rfl⟩
      have hif : (if ((len - 63 * k : Nat) : Int) < 63 then ((len - 63 * k : Nat) : Int) else 63) = (j : Int) := by split <;> omega
      have hj1 : j ≤ 63 := by omega
      have hj2 : 63 * k + j ≤ len := by omega
      obtain ⟨fn, tmps, assign, body, hy, hR⟩ := hY pre ⟨k, hlt⟩ wr.drew (hJd _ _ hJs) (by omega)
      simp only [partV63, hj] at hy
      clear hY
      gi_wp2
      gi_region
      all_goals (clear hcs' hcn')
      all_goals
        gi_wp2
        refine hR.mono ?_
        rintro e W3 (⟨rfl, hJ3, hk3⟩ | ⟨rfl, hJx3⟩)
        · have hcs3 := hKs _ _ hk3 hcs2
          have hcn3 := hKn _ _ hk3 hcn2
          clear hR hy hk3
          gi_wp2
          go_roundw
          case rel => exact ⟨k + 1, pre ++ [⟨k, hlt⟩], by omega, by first | rfl | (congr 1; omega) | simp, by rw [List.map_append, hpre, List.range_succ]; rfl, hJ3, hcs3, hcn3⟩
          case measure => simp [intOf]; omega
        · clear hR hy
          gi_wp2
          refine bodyPost_ret (results_none rfl _ _ _) rfl ?_
          exact ⟨⟨_, rfl⟩, .inr ⟨_, hJx3⟩⟩
    · gi_wp2
      go_end0
      exact ⟨⟨_, rfl⟩, .inl ⟨pre, by rw [hpre]; congr 1; omega, hJs⟩⟩

set_option maxRecDepth 100000 in
set_option maxHeartbeats 1000000 in
theorem chunk63_1_nil_in (F : Fence) (n : Nat) (h7 : F.fn 54) (hro : F.round = none) (l Bs Bn : Nat) (A : Option Addr) (cap : Nat) (J : World → Prop) (W : World)
    (hcs : W.cell? ⟨Bs, 0, none⟩ = some (.slice A 0 cap)) (h0 : J W) :
    CallsIn F n Try.prog 54 #[.func (.yield l) #[] #[], .pointer (some ⟨Bs, 0, none⟩), .pointer (some ⟨Bn, 0, none⟩)] W fun e W' => (∃ v, e = .returned v) ∧ J W' := by
  refine callsIn_of_wp Try.func54 rfl h7 ?_ hro
  simp only [Try.ntmps54, List.size_toArray, List.length_cons, List.length_nil, Nat.reduceAdd, Nat.reduceSub, Array.replicate_succ, Array.replicate_zero, List.push_toArray, List.append_toArray, List.nil_append, List.cons_append]
  gi_wp2
  gi_loopw [4] (fun i wr => i = .int .i64 0 ∧ J wr ∧ wr.cell? ⟨Bs, 0, none⟩ = some (.slice A 0 cap)) (fun _ _ => 0)
  case atStart => exact ⟨rfl, h0, hcs⟩
  case round =>
    obtain ⟨rfl, hJs, hcs'⟩ := hrel
    gi_wp2
    go_end0
    exact ⟨⟨_, rfl⟩, hJs⟩

set_option maxHeartbeats 1000000 in
theorem chunk63_in (F : Fence) (n : Nat) (h5 : F.fn 40) (hro : F.round = none) (A : Option Addr) (len cap : Nat) (w : World) :
    CallsIn F n Try.prog 40 #[.slice A len cap, .int .i64 63] w fun e w' => e = .returned (.func (.func 54) #[] #[.pointer (some ⟨w.heap.size, 0, none⟩), .pointer (some ⟨w.heap.size + 1, 0, none⟩)]) ∧
      w' = (w.alloc (.cells #[.slice A len cap] 31)).alloc (.cells #[.int .i64 63] 3) := by
  refine callsIn_of_wp Try.func40 rfl h5 ?_ hro
  simp only [Try.ntmps40, List.size_toArray, List.length_cons, List.length_nil, Nat.reduceAdd, Nat.reduceSub, Array.replicate_succ, Array.replicate_zero, List.push_toArray, List.append_toArray, List.nil_append, List.cons_append]
  gi_wp2
  go_ret
  exact ⟨by simp, rfl⟩
def keeps63 (Bs Bn n₀ : Nat) (A B : World) : Prop := Below n₀ A B ∧ B.heap[Bs]? = A.heap[Bs]? ∧ B.heap[Bn]? = A.heap[Bn]?
theorem keeps63_t {Bs Bn n₀ : Nat} {A B C : World} (h : keeps63 Bs Bn n₀ A B) (k : keeps63 Bs Bn n₀ B C) : keeps63 Bs Bn n₀ A C := ⟨h.1.trans k.1, k.2.1.trans h.2.1, k.2.2.trans h.2.2⟩
theorem keeps63_b {Bs Bn n₀ : Nat} {w : World} (hn : n₀ ≤ w.heap.size) (hs : Bs < w.heap.size) (hn' : Bn < w.heap.size) (W : World) (l : Nat) (o o' : Obj) (hl : w.heap.size ≤ l) (h : W.heap[l]? = some o) (h1 : o.isCells = false) (h2 : o.isWalk = false) : keeps63 Bs Bn n₀ W (W.putObj l o') := by
  have hlt := (Array.getElem?_eq_some_iff.1 h).1
  exact ⟨belowK_b hn W l o o' hl h h1 h2, (grownBy_putObj' W l o').block Bs (by omega) (fun e => by cases e; omega), (grownBy_putObj' W l o').block Bn (by omega) (fun e => by cases e; omega)⟩
theorem keeps63_cell {Bs Bn n₀ : Nat} {A B : World} (h : keeps63 Bs Bn n₀ A B) : B.cell? ⟨Bs, 0, none⟩ = A.cell? ⟨Bs, 0, none⟩ ∧ B.cell? ⟨Bn, 0, none⟩ = A.cell? ⟨Bn, 0, none⟩ := by
  unfold World.cell?
  exact ⟨by simp only [h.2.1], by simp only [h.2.2]⟩
theorem abides63_drew {α : Type} {B : Nat} {J : List α → World → Prop} (h : AbidesFrom B J) (pre : List α) (W : World) (hj : J pre W) : J pre W.drew :=
  h pre W W.drew none hj ⟨rfl, rfl, rfl, Nat.le_refl _, fun _ _ _ => rfl⟩ (fun _ e => by cases e)
theorem chunk63_stops (F : Fence) (n : Nat) (h7 : F.fn 54) (hro : F.round = none) (hn : 1 ≤ n) (Bs Bn n₀ : Nat) (A : Option Addr) (ad : Addr) (len cap : Nat) (hA : 0 < len → A = some ad) (hlen : len < 140737488355328) (hcap : len ≤ cap) (w : World)
    (hs : Bs < w.heap.size) (hb : Bn < w.heap.size)
    (hcs : w.cell? ⟨Bs, 0, none⟩ = some (.slice A len cap)) (hcn : w.cell? ⟨Bn, 0, none⟩ = some (.int .i64 63)) :
    SeqStopsK F n Try.prog 54 #[.pointer (some ⟨Bs, 0, none⟩), .pointer (some ⟨Bn, 0, none⟩)] (fun x : Part63 len => #[partV63 ad len x]) (keeps63 Bs Bn n₀) (fun ys => ys.map (·.1) = List.range ((len + 62) / 63)) (fun _ => True) len w := fun l J Jx W hW hJ _ hY h0 => by
  have hcs' := (hW.cell (p := ⟨Bs, 0, none⟩) hs).trans hcs
  have hcn' := (hW.cell (p := ⟨Bn, 0, none⟩) hb).trans hcn
  by_cases h : 0 < len
  · obtain rfl := hA h
    refine (chunk63_1_in F n h7 hro hn l Bs Bn ad len cap hlen hcap (keeps63 Bs Bn n₀) (fun X Y k e => (keeps63_cell k).1.trans e) (fun X Y k e => (keeps63_cell k).2.trans e) J Jx hY (abides63_drew hJ) W hcs' hcn' h0).mono ?_
    rintro e W' ⟨he, ⟨ys, hys, hj⟩ | ⟨pre, hj⟩⟩
    · exact ⟨he, .inl ⟨ys, hys, hj⟩⟩
    · exact ⟨he, .inr ⟨pre, trivial, hj⟩⟩
  · obtain rfl : len = 0 := by omega
    exact (chunk63_1_nil_in F n h7 hro l Bs Bn A cap (J []) W hcs' h0).mono fun e W' ⟨he, hj⟩ => ⟨he, .inl ⟨[], rfl, hj⟩⟩

end Go.Proofs.Ytfplmoeahbjfmaa.P
