/- slices.Chunk of bytes, eight at a time: what it yields; bits.Bytes, which collects a byte of each. -/
import Derived.RangeFuncNested
import Derived.RangeFuncBound
import Derived.RangeFuncCalls
import Derived.RangeFuncLeaves
import Derived.RangeFuncBox
import Derived.Shelf.Abstract
import Derived.WalkKit
import Derived.OwnWalkIn
import Derived.TacticsInMore
import Derived.LoopNIn
import Derived.LoopIn
import Derived.Maps.AppendAt
import Derived.Test.YtmajbcglpcagoaaBExtra
import Derived.Test.YtmajbcglpcagoaaWLast
namespace Go.Proofs.Ytmajbcglpcagoaa.B
open Go Go.Proofs Go.RowKit Go.Shelf Go.Proofs.YtmajbcglpcagoaaW.PrintWords Go.Proofs.YtmajbcglpcagoaaW.PrintLast Go.Proofs.YtmajbcglpcagoaaW.PrintMore
set_option linter.unusedVariables false
attribute [local go_sem] Oper.semAt_some

/-- The parts, by their numbers. -/
abbrev Part (len : Nat) := { x : Nat // 8 * x < len }
def partV (ad : Addr) (len : Nat) (x : Part len) : Value := .slice (some (ad.add (8 * x.1))) (min 8 (len - 8 * x.1)) (min 8 (len - 8 * x.1))

set_option maxRecDepth 100000 in
set_option maxHeartbeats 2000000 in
theorem chunk1_in (F : Fence) (n : Nat) (h7 : F.fn 40) (hro : F.round = none) (hn : 1 ≤ n) (l Bs Bn : Nat) (ad : Addr) (len cap : Nat) (hlen : len < 140737488355328) (hcap : len ≤ cap)
    (Kp : World → World → Prop) (hKs : ∀ A B, Kp A B → A.cell? ⟨Bs, 0, none⟩ = some (.slice (some ad) len cap) → B.cell? ⟨Bs, 0, none⟩ = some (.slice (some ad) len cap)) (hKn : ∀ A B, Kp A B → A.cell? ⟨Bn, 0, none⟩ = some (.int .i64 8) → B.cell? ⟨Bn, 0, none⟩ = some (.int .i64 8)) (J Jx : List (Part len) → World → Prop)
    (hY : ∀ pre (x : Part len) W, J pre W → pre.length < len → YieldAt F (n - 1) Try.prog l #[partV ad len x] W fun e W' =>
      (e = .returned (.bool true) ∧ J (pre ++ [x]) W' ∧ Kp W W') ∨ (e = .returned (.bool false) ∧ Jx (pre ++ [x]) W'))
    (hJd : ∀ pre W, J pre W → J pre W.drew)
    (W : World) (hcs : W.cell? ⟨Bs, 0, none⟩ = some (.slice (some ad) len cap)) (hcn : W.cell? ⟨Bn, 0, none⟩ = some (.int .i64 8)) (h0 : J [] W) :
    CallsIn F n Try.prog 40 #[.func (.yield l) #[] #[], .pointer (some ⟨Bs, 0, none⟩), .pointer (some ⟨Bn, 0, none⟩)] W fun e W' => (∃ v, e = .returned v) ∧
      ((∃ ys, ys.map (·.1) = List.range ((len + 7) / 8) ∧ J ys W') ∨ (∃ pre, Jx pre W')) := by
  refine callsIn_of_wp Try.func40 rfl h7 ?_ hro
  simp only [Try.ntmps40, List.size_toArray, List.length_cons, List.length_nil, Nat.reduceAdd, Nat.reduceSub, Array.replicate_succ, Array.replicate_zero, List.push_toArray, List.append_toArray, List.nil_append, List.cons_append]
  gi_wp2
  gi_loopw [4] (fun i wr => ∃ (k : Nat) (pre : List (Part len)), 8 * k < len + 8 ∧ i = .int .i64 ((8 * k : Nat) : Int) ∧ pre.map (·.1) = List.range k ∧ J pre wr ∧ wr.cell? ⟨Bs, 0, none⟩ = some (.slice (some ad) len cap) ∧ wr.cell? ⟨Bn, 0, none⟩ = some (.int .i64 8))
    (fun i _ => len + 8 - (intOf i).toNat)
  case atStart => exact ⟨0, [], by omega, rfl, rfl, h0, hcs, hcn⟩
  case round =>
    obtain ⟨k, pre, hk, rfl, hpre, hJs, hcs', hcn'⟩ := hrel
    have hpl : pre.length = k := by have := congrArg List.length hpre; simpa using this
    by_cases hlt : 8 * k < len
    · have hcs2 : wr.drew.cell? ⟨Bs, 0, none⟩ = some (.slice (some ad) len cap) := hcs'
      have hcn2 : wr.drew.cell? ⟨Bn, 0, none⟩ = some (.int .i64 8) := hcn'
      obtain ⟨j, hj⟩ : ∃ j : Nat, min 8 (len - 8 * k) = j := ⟨_, rfl⟩
      have hif : (if ((len - 8 * k : Nat) : Int) < 8 then ((len - 8 * k : Nat) : Int) else 8) = (j : Int) := by split <;> omega
      have hj1 : j ≤ 8 := by omega
      have hj2 : 8 * k + j ≤ len := by omega
      obtain ⟨fn, tmps, assign, body, hy, hR⟩ := hY pre ⟨k, hlt⟩ wr.drew (hJd _ _ hJs) (by omega)
      simp only [partV, hj] at hy
      clear hY
      gi_wp2
      gi_region
      all_goals (clear hcs' hcn')
      all_goals
        gi_wp2
        refine hR.mono ?_
        rintro e W3 (⟨rfl, hJ3, hk3⟩ | ⟨rfl, hJx3⟩)
        · have hcs3 := hKs _ _ hk3 hcs2
          have hcn3 := hKn _ _ hk3 hcn2
          clear hR hy hk3
          gi_wp2
          go_roundw
          case rel => exact ⟨k + 1, pre ++ [⟨k, hlt⟩], by omega, by first | rfl | (congr 1; omega) | simp, by rw [List.map_append, hpre, List.range_succ]; rfl, hJ3, hcs3, hcn3⟩
          case measure => simp [intOf]; omega
        · clear hR hy
          gi_wp2
          refine bodyPost_ret (results_none rfl _ _ _) rfl ?_
          exact ⟨⟨_, rfl⟩, .inr ⟨_, hJx3⟩⟩
    · gi_wp2
      go_end0
      exact ⟨⟨_, rfl⟩, .inl ⟨pre, by rw [hpre]; congr 1; omega, hJs⟩⟩

set_option maxRecDepth 100000 in
set_option maxHeartbeats 1000000 in
theorem chunk1_nil_in (F : Fence) (n : Nat) (h7 : F.fn 40) (hro : F.round = none) (l Bs Bn : Nat) (A : Option Addr) (cap : Nat) (J : World → Prop) (W : World)
    (hcs : W.cell? ⟨Bs, 0, none⟩ = some (.slice A 0 cap)) (h0 : J W) :
    CallsIn F n Try.prog 40 #[.func (.yield l) #[] #[], .pointer (some ⟨Bs, 0, none⟩), .pointer (some ⟨Bn, 0, none⟩)] W fun e W' => (∃ v, e = .returned v) ∧ J W' := by
  refine callsIn_of_wp Try.func40 rfl h7 ?_ hro
  simp only [Try.ntmps40, List.size_toArray, List.length_cons, List.length_nil, Nat.reduceAdd, Nat.reduceSub, Array.replicate_succ, Array.replicate_zero, List.push_toArray, List.append_toArray, List.nil_append, List.cons_append]
  gi_wp2
  gi_loopw [4] (fun i wr => i = .int .i64 0 ∧ J wr ∧ wr.cell? ⟨Bs, 0, none⟩ = some (.slice A 0 cap)) (fun _ _ => 0)
  case atStart => exact ⟨rfl, h0, hcs⟩
  case round =>
    obtain ⟨rfl, hJs, hcs'⟩ := hrel
    gi_wp2
    go_end0
    exact ⟨⟨_, rfl⟩, hJs⟩

set_option maxHeartbeats 1000000 in
theorem chunk_in (F : Fence) (n : Nat) (h5 : F.fn 38) (hro : F.round = none) (A : Option Addr) (len cap : Nat) (w : World) :
    CallsIn F n Try.prog 38 #[.slice A len cap, .int .i64 8] w fun e w' => e = .returned (.func (.func 40) #[] #[.pointer (some ⟨w.heap.size, 0, none⟩), .pointer (some ⟨w.heap.size + 1, 0, none⟩)]) ∧
      w' = (w.alloc (.cells #[.slice A len cap] 22)).alloc (.cells #[.int .i64 8] 3) := by
  refine callsIn_of_wp Try.func38 rfl h5 ?_ hro
  simp only [Try.ntmps38, List.size_toArray, List.length_cons, List.length_nil, Nat.reduceAdd, Nat.reduceSub, Array.replicate_succ, Array.replicate_zero, List.push_toArray, List.append_toArray, List.nil_append, List.cons_append]
  gi_wp2
  go_ret
  exact ⟨by simp, rfl⟩
end Go.Proofs.Ytmajbcglpcagoaa.B
