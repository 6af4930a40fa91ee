/- Texts of this seat, one behind the other (merge.py): the walks of the functions that the law ChannelActs uses, and plain words on what they come to. No condition. -/
import Derived.Test.YtfplmoeahbjfmaaProg
import Derived.Test.YtfplmoeahbjfmaaWWords
import Derived.Test.YtfplmoeahbjfmaaWMore
import Derived.Lib.SlBytesConst
import Derived.Lib.SliceRun
import Derived.ChangeKeysEq
import Derived.Laws.Tables
import Derived.Laws.CopyOwn
import Derived.Test.YtfplmoeahbjfmaaWTab
import Derived.Test.YtfplmoeahbjfmaaWKept
import Derived.Test.YtfplmoeahbjfmaaWAt
import Derived.RangeFuncBox
import Derived.Deep.DrawnRows
import Derived.RangeFuncNested
import Derived.RangeFuncBound
import Derived.RangeFuncCalls
import Derived.RangeFuncLeaves
import Derived.Shelf.Abstract
import Derived.WalkKit
import Derived.OwnWalkIn
import Derived.TacticsInMore
import Derived.LoopNIn
import Derived.LoopIn
import Derived.Maps.AppendAt
import Derived.Test.YtfplmoeahbjfmaaWLast
import Derived.Laws.BitsAllLaws
import Derived.Test.YtfplmoeahbjfmaaWRepsOne
import Derived.Below
import Derived.Deep.Draws
import Derived.Deep.AppendLies
import Derived.OwnWalk
import Derived.Laws.BytesArg
import Derived.Laws.MakeOwn
import Derived.Laws.OwnMore
import Derived.Deep.OwnRows
import Derived.Tactics
import Derived.Lib.ConvBytes
import Derived.Laws.Slices
import Derived.KernelRfl
import Derived.RowKit3
import Derived.Deep.LoopGhost
import Derived.Deep.QuietTactic
import Derived.BigQuiet
import Derived.WideLaws
import Derived.Deep.DeepCutAuto
import Derived.Deep.CutBlock
import Derived.Deep.RegionHeld3
import Derived.Laws.Rows
import Derived.Lib.AppendStr
import Derived.ArgAppend
import Derived.Laws.IdiomCopy
import Derived.OrdersHeld
import Derived.Laws.BitsLemmas
import Derived.RowKit
import Derived.Test.YtfplmoeahbjfmaaWFour
import Derived.Test.YtfplmoeahbjfmaaWQPut
import Derived.Test.YtfplmoeahbjfmaaWApart
import Derived.Test.YtfplmoeahbjfmaaWArr
import Derived.Test.YtfplmoeahbjfmaaWZeros
import Derived.Test.YtfplmoeahbjfmaaWFoot
import Derived.Test.YtfplmoeahbjfmaaWShare
import Derived.Test.YtfplmoeahbjfmaaWN
import Derived.Test.YtfplmoeahbjfmaaWFootNe
import Derived.Test.YtfplmoeahbjfmaaWEqStruct
import Derived.Test.YtfplmoeahbjfmaaWInv
import Derived.Test.YtfplmoeahbjfmaaWInvWords
import Derived.Test.YtfplmoeahbjfmaaWGuard
import Derived.Test.YtfplmoeahbjfmaaWNEv
-- YtfplmoeahbjfmaaPExtra
namespace Go.Proofs.Ytfplmoeahbjfmaa.P
open Go.RowKit Go.Proofs.YtfplmoeahbjfmaaW.PrintWords Go.Proofs.YtfplmoeahbjfmaaW.PrintMore

/-- A row that was laid as a literal (marked or not) reads as its numbers. -/
theorem const_reads (w : World) (e : TypeId) (k : IntKind) (xs : List Int) (C : Array Value) (fr : Nat × Nat) (hC : C = (nums k xs).toArray) (hx : xs.length ≤ 9223372036854775807) :
    Kd.C (Kd.int k) (w.alloc (.cells C e fr)) (some ⟨w.heap.size, 0, none⟩) xs.length xs := by
  subst hC
  refine Kd.C_of_reads (d := (0 : Int)) (h1 := fun _ => rfl) ⟨rfl, hx, fun _ => ⟨_, rfl, fun j hj => ?_⟩⟩
  rw [add_plain, World.cell?_alloc_mark w _ e fr j]
  simp [nums, List.getD_eq_getElem?_getD, List.getElem?_eq_getElem hj]
/-- A region that draws its order stands here (a cheap look ahead of a dear step). -/
theorem gate_quiet {P : Program} {n : Nat} {ops : Array Oper} {Q : Exit → Act → World → Prop} {a : Act} {w : World} (h : Code.wp P (.region n ops true) Q a w) : Code.wp P (.region n ops true) Q a w := h
theorem reads_len {α : Type} {R : α → List Value → Prop} {size : Nat} {w : World} {A : Option Addr} {n n' : Nat} {ps : List α} (e : n = n') (h : ReadsRow R size w A n ps) : ReadsRow R size w A n' ps := e ▸ h
theorem nil_of_none {α : Type} {d : Kd α} {w : World} {l : List α} (h : Kd.C d w none l.length l) : l = [] := by
  cases l with
  | nil => rfl
  | cons x xs =>
    obtain ⟨_, _, h3⟩ := h
    obtain ⟨ad, e, _⟩ := h3 (by simp)
    cases e

section
variable {P : Program} {d : Nat} {xs ys : Array Value} {e c n i : Nat} {is : List Nat} {a b : Value} {r s : Bool} {w : World}
/-- '==' of arrays, element by element. -/
theorem eqi_last (ha : (part e xs (i * c)).run P w = .ok a w) (hb : (part e ys (i * c)).run P w = .ok b w) (he : (Op.equalIn d e a b).run P w = .ok r w) : (Op.eqItems d e c xs ys [i]).run P w = .ok r w := by
  simp only [Op.eqItems, Sem.run_bind, ha, hb, he, Result.andThen_ok]
  cases r <;> simp
theorem eqi_cons (ha : (part e xs (i * c)).run P w = .ok a w) (hb : (part e ys (i * c)).run P w = .ok b w) (he : (Op.equalIn d e a b).run P w = .ok r w) (hr : (Op.eqItems d e c xs ys is).run P w = .ok s w) : (Op.eqItems d e c xs ys (i :: is)).run P w = .ok (r && s) w := by
  rw [Op.eqItems]
  simp only [Sem.run_bind, ha, hb, he, Result.andThen_ok]
  cases r
  · simp
  · simpa using hr
theorem eqAr_of {t : TypeId} (hu : P.underlying t = some (.array n e)) (hi : (P.info? e).isSome = true) (hc : P.cellsOf e = c) (his : List.range n = is) (h : (Op.eqItems d e c xs ys is).run P w = .ok r w) : (Op.equalIn (d + 1) t (.agg xs) (.agg ys)).run P w = .ok r w := by
  obtain ⟨j, hj⟩ := Option.isSome_iff_exists.mp hi
  rw [run_equalIn_array w d xs ys hu hj, hc, his]
  exact h
end

/-- 'a[i]' of an array by value. -/
theorem run_index_arr {P : Program} (w : World) (t : TypeId) (cs : Array Value) (k : IntKind) (i : Int) (h : P.underlying t = some (.array (P.arrayLen t) (P.elem t))) :
    (Instr.index t (.agg cs) (.int k i)).run P w = if 0 ≤ i ∧ i < P.arrayLen t then ((sizeOf (P.elem t)).run P w).andThen fun s w => (part (P.elem t) cs (i.toNat * s)).run P w else (boundsPanic k i (P.arrayLen t) .index).run P w := by
  by_cases hi : 0 ≤ i ∧ i < (P.arrayLen t : Int)
  · simp [Instr.index, run_underlying h, asIntOf, hi]
  · simp [Instr.index, run_underlying h, asIntOf, hi]
/-- A value built whose cells are known. -/
theorem wpList_build_to {P : Program} {ops : Array Oper} {rest : List Oper} {o : Oper} {a : Act} {w : World} {Q : Exit → Act → World → Prop} (hg : o.guard = none) (t : TypeId) (parts : Array (Nat × Operand)) (ho : o.op = .build t parts) (cells : Array Value)
    (hc : P.built t (parts.map fun (i, x) => (i, a.eval x)).toList = some cells) (h : wpList P ops Q rest (a.put o.dst (.agg cells)) w) : wpList P ops Q (o :: rest) a w :=
  wpList_build hg t parts ho (by rw [hc]; rfl) (by rw [hc]; exact h)
/-- An array's cells, read as a row. -/
theorem C_of_blk {k : IntKind} {w : World} {g : Nat} {t : TypeId} {cs : Array Value} {xs : List Int} {n : Nat} (h : w.heap[g]? = some (.cells cs t (0, 0))) (hC : cs = (nums k xs).toArray) (hn : n = xs.length ∧ xs.length ≤ 9223372036854775807) :
    Kd.C (Kd.int k) w (some ⟨g, 0, none⟩) n xs := by
  subst hC
  obtain ⟨rfl, hx⟩ := hn
  refine Kd.C_of_reads (d := (0 : Int)) (h1 := fun _ => rfl) ⟨rfl, hx, fun _ => ⟨_, rfl, fun j hj => ?_⟩⟩
  rw [add_plain, blk_cell h]
  simp [nums, List.getD_eq_getElem?_getD, List.getElem?_eq_getElem hj]
/-- What a listed table's cells hold (conv.taps: the first package-level variable). -/
structure TP (w : World) : Prop where
  c0 : w.cell? ⟨0, 0, none⟩ = some (.int .u64 79)
  c1 : w.cell? ⟨0, 1, none⟩ = some (.int .u64 87)
  c2 : w.cell? ⟨0, 2, none⟩ = some (.int .u64 109)
  c3 : w.cell? ⟨0, 3, none⟩ = some (.int .u64 121)
theorem TP.lt {w : World} (h : TP w) : 0 < w.heap.size := World.block_lt_of_cell? w _ h.c0
theorem TP_of {w w' : World} (h : TP w) (hb : Below w.heap.size w w') : TP w' :=
  have e : ∀ i, w'.cell? ⟨0, i, none⟩ = w.cell? ⟨0, i, none⟩ := fun _ => hb.cell h.lt
  ⟨(e 0).trans h.c0, (e 1).trans h.c1, (e 2).trans h.c2, (e 3).trans h.c3⟩

end Go.Proofs.Ytfplmoeahbjfmaa.P

-- YtfplmoeahbjfmaaPPFr
namespace Go.Proofs.Ytfplmoeahbjfmaa.P
open Go Go.Proofs Go.RowKit Go.Proofs.YtfplmoeahbjfmaaW.PrintWords Go.Proofs.YtfplmoeahbjfmaaW.PrintLast Go.Proofs.YtfplmoeahbjfmaaW.PrintMore
set_option linter.unusedVariables false
set_option linter.unusedSimpArgs false

/-- But for block g and v's own row nothing has turned. -/
structure Fr (g : Nat) (v : Value) (w w' : World) : Prop where
  os : w'.os = w.os
  tape : w'.tape = w.tape
  output : w'.output = w.output
  size : w.heap.size ≤ w'.heap.size
  block : ∀ k, k < w.heap.size → k ≠ g → some k ≠ v.ownBlock → w'.heap[k]? = w.heap[k]?
theorem Fr.refl (g : Nat) (v : Value) (w : World) : Fr g v w w := ⟨rfl, rfl, rfl, Nat.le_refl _, fun _ _ _ _ => rfl⟩
/-- v' is v's row, or a newer one. -/
def Newer (w : World) (v v' : Value) : Prop := v'.ownBlock = v.ownBlock ∨ ∀ b, v'.ownBlock = some b → w.heap.size ≤ b
theorem Newer.refl (w : World) (v : Value) : Newer w v v := .inl rfl
theorem Newer.trans {w w1 : World} {v v1 v2 : Value} (h : Newer w v v1) (hs : w.heap.size ≤ w1.heap.size) (k : Newer w1 v1 v2) : Newer w v v2 := by
  rcases k with k | k
  · rcases h with h | h
    · exact .inl (k.trans h)
    · exact .inr fun b hb => h b (k ▸ hb)
  · exact .inr fun b hb => Nat.le_trans hs (k b hb)
theorem Fr.trans {g : Nat} {v v1 : Value} {w w1 w2 : World} (h : Fr g v w w1) (hn : Newer w v v1) (k : Fr g v1 w1 w2) : Fr g v w w2 :=
  ⟨k.os.trans h.os, k.tape.trans h.tape, k.output.trans h.output, Nat.le_trans h.size k.size, fun i hi hg hv => by
    rw [k.block i (Nat.lt_of_lt_of_le hi h.size) hg ?_, h.block i hi hg hv]
    rcases hn with hn | hn
    · rw [hn]; exact hv
    · intro e; have := hn i e.symm; omega⟩
theorem Fr.below {g : Nat} {v : Value} {w w' : World} (h : Fr g v w w') {B : Nat} (hB : B ≤ w.heap.size) (hg : B ≤ g) (hv : ∀ b, v.ownBlock = some b → B ≤ b) : Below B w w' :=
  ⟨h.os, h.tape, h.output, h.size, fun k hk => h.block k (by omega) (by omega) (fun e => by have := hv k e.symm; omega)⟩
theorem Fr.of_below {g : Nat} {v : Value} {w w' : World} (h : Below w.heap.size w w') : Fr g v w w' := ⟨h.os, h.tape, h.output, h.size, fun k hk _ _ => h.block k hk⟩
theorem Fr.set {g : Nat} {v : Value} {w : World} (i : Nat) (x : Value) : Fr g v w (w.setCell ⟨g, i, none⟩ x) :=
  ⟨rfl, rfl, rfl, by simp, fun k _ hg _ => Below.heap_setCell w ⟨g, i, none⟩ x k (by exact hg)⟩
theorem Fr.seq {g : Nat} {v : Value} {w w1 w2 : World} (h : Fr g v w w1) (k : Fr g v w1 w2) : Fr g v w w2 := h.trans (.inl rfl) k
theorem Newer.none (w : World) (v : Value) : Newer w v (.slice none 0 0) := .inr fun b hb => by simp [Value.ownBlock] at hb
/-- What lies apart from the state lies apart from it behind a call too. -/
theorem apart_newer {w : World} {g k : Nat} {v v' : Value} (hn : Newer w v v') (hk : k < w.heap.size) (ha : k ≠ g ∧ some k ≠ v.ownBlock) : k ≠ g ∧ some k ≠ v'.ownBlock :=
  ⟨ha.1, fun e => by
    rcases hn with hn | hn
    · exact ha.2 (e.trans hn)
    · have := hn k e.symm; omega⟩
theorem Kd.R_fr {α : Type} {d : Kd α} {e n₀ g : Nat} {w w' : World} {v v' u : Value} {xs : List α} (h : Kd.R d e w n₀ (fun k => k ≠ g ∧ some k ≠ v.ownBlock) u xs) (hf : Fr g v w w') (hn : Newer w v v') :
    Kd.R d e w' n₀ (fun k => k ≠ g ∧ some k ≠ v'.ownBlock) u xs := by
  have h1 := Kd.R_bound h
  have h2 := Kd.R_step (w1 := w') h1 (fun k ok hk => hf.block k hk ok.1.1 ok.1.2)
  exact Kd.R_mono h2 (fun k ok => apart_newer hn ok.2.2.1 ok.1)
theorem Kd.V_fr {α : Type} {d : Kd α} {e n₀ g : Nat} {w w' : World} {v v' u : Value} {xs : List α} (h : Kd.V d e w n₀ (fun k => k ≠ g ∧ some k ≠ v.ownBlock) u xs) (hf : Fr g v w w') (hn : Newer w v v') :
    Kd.V d e w' n₀ (fun k => k ≠ g ∧ some k ≠ v'.ownBlock) u xs := by
  have h1 := Kd.V_bound h
  have h2 := Kd.V_step (w1 := w') h1 (fun k ok hk => hf.block k hk ok.1.1 ok.1.2)
  exact Kd.V_mono h2 (fun k ok => apart_newer hn ok.2 ok.1)
end Go.Proofs.Ytfplmoeahbjfmaa.P

-- YtfplmoeahbjfmaaPChunk63
namespace Go.Proofs.Ytfplmoeahbjfmaa.P
open Go Go.Proofs Go.RowKit Go.Shelf Go.Proofs.YtfplmoeahbjfmaaW.PrintWords Go.Proofs.YtfplmoeahbjfmaaW.PrintLast Go.Proofs.YtfplmoeahbjfmaaW.PrintMore
set_option linter.unusedVariables false
attribute [local go_sem] Oper.semAt_some

/-- The parts, by their numbers. -/
abbrev Part63 (len : Nat) := { x : Nat // 63 * x < len }
def partV63 (ad : Addr) (len : Nat) (x : Part63 len) : Value := .slice (some (ad.add (63 * x.1))) (min 63 (len - 63 * x.1)) (min 63 (len - 63 * x.1))

set_option maxRecDepth 100000 in
set_option maxHeartbeats 2000000 in
theorem chunk63_1_in (F : Fence) (n : Nat) (h7 : F.fn 54) (hro : F.round = none) (hn : 1 ≤ n) (l Bs Bn : Nat) (ad : Addr) (len cap : Nat) (hlen : len < 140737488355328) (hcap : len ≤ cap)
    (Kp : World → World → Prop) (hKs : ∀ A B, Kp A B → A.cell? ⟨Bs, 0, none⟩ = some (.slice (some ad) len cap) → B.cell? ⟨Bs, 0, none⟩ = some (.slice (some ad) len cap)) (hKn : ∀ A B, Kp A B → A.cell? ⟨Bn, 0, none⟩ = some (.int .i64 63) → B.cell? ⟨Bn, 0, none⟩ = some (.int .i64 63)) (J Jx : List (Part63 len) → World → Prop)
    (hY : ∀ pre (x : Part63 len) W, J pre W → pre.length < len → YieldAt F (n - 1) Try.prog l #[partV63 ad len x] W fun e W' =>
      (e = .returned (.bool true) ∧ J (pre ++ [x]) W' ∧ Kp W W') ∨ (e = .returned (.bool false) ∧ Jx (pre ++ [x]) W'))
    (hJd : ∀ pre W, J pre W → J pre W.drew)
    (W : World) (hcs : W.cell? ⟨Bs, 0, none⟩ = some (.slice (some ad) len cap)) (hcn : W.cell? ⟨Bn, 0, none⟩ = some (.int .i64 63)) (h0 : J [] W) :
    CallsIn F n Try.prog 54 #[.func (.yield l) #[] #[], .pointer (some ⟨Bs, 0, none⟩), .pointer (some ⟨Bn, 0, none⟩)] W fun e W' => (∃ v, e = .returned v) ∧
      ((∃ ys, ys.map (·.1) = List.range ((len + 62) / 63) ∧ J ys W') ∨ (∃ pre, Jx pre W')) := by
  refine callsIn_of_wp Try.func54 rfl h7 ?_ hro
  simp only [Try.ntmps54, List.size_toArray, List.length_cons, List.length_nil, Nat.reduceAdd, Nat.reduceSub, Array.replicate_succ, Array.replicate_zero, List.push_toArray, List.append_toArray, List.nil_append, List.cons_append]
  gi_wp2
  gi_loopw [4] (fun i wr => ∃ (k : Nat) (pre : List (Part63 len)), 63 * k < len + 63 ∧ i = .int .i64 ((63 * k : Nat) : Int) ∧ pre.map (·.1) = List.range k ∧ J pre wr ∧ wr.cell? ⟨Bs, 0, none⟩ = some (.slice (some ad) len cap) ∧ wr.cell? ⟨Bn, 0, none⟩ = some (.int .i64 63))
    (fun i _ => len + 63 - (intOf i).toNat)
  case atStart => exact ⟨0, [], by omega, rfl, rfl, h0, hcs, hcn⟩
  case round =>
    obtain ⟨k, pre, hk, rfl, hpre, hJs, hcs', hcn'⟩ := hrel
    have hpl : pre.length = k := by have := congrArg List.length hpre; simpa using this
    by_cases hlt : 63 * k < len
    · have hcs2 : wr.drew.cell? ⟨Bs, 0, none⟩ = some (.slice (some ad) len cap) := hcs'
      have hcn2 : wr.drew.cell? ⟨Bn, 0, none⟩ = some (.int .i64 63) := hcn'
      obtain ⟨j, hj⟩ : ∃ j : Nat, min 63 (len - 63 * k) = j := ⟨_, rfl⟩
      have hif : (if ((len - 63 * k : Nat) : Int) < 63 then ((len - 63 * k : Nat) : Int) else 63) = (j : Int) := by split <;> omega
      have hj1 : j ≤ 63 := by omega
      have hj2 : 63 * k + j ≤ len := by omega
      obtain ⟨fn, tmps, assign, body, hy, hR⟩ := hY pre ⟨k, hlt⟩ wr.drew (hJd _ _ hJs) (by omega)
      simp only [partV63, hj] at hy
      clear hY
      gi_wp2
      gi_region
      all_goals (clear hcs' hcn')
      all_goals
        gi_wp2
        refine hR.mono ?_
        rintro e W3 (⟨rfl, hJ3, hk3⟩ | ⟨rfl, hJx3⟩)
        · have hcs3 := hKs _ _ hk3 hcs2
          have hcn3 := hKn _ _ hk3 hcn2
          clear hR hy hk3
          gi_wp2
          go_roundw
          case rel => exact ⟨k + 1, pre ++ [⟨k, hlt⟩], by omega, by first | rfl | (congr 1; omega) | simp, by rw [List.map_append, hpre, List.range_succ]; rfl, hJ3, hcs3, hcn3⟩
          case measure => simp [intOf]; omega
        · clear hR hy
          gi_wp2
          refine bodyPost_ret (results_none rfl _ _ _) rfl ?_
          exact ⟨⟨_, rfl⟩, .inr ⟨_, hJx3⟩⟩
    · gi_wp2
      go_end0
      exact ⟨⟨_, rfl⟩, .inl ⟨pre, by rw [hpre]; congr 1; omega, hJs⟩⟩

set_option maxRecDepth 100000 in
set_option maxHeartbeats 1000000 in
theorem chunk63_1_nil_in (F : Fence) (n : Nat) (h7 : F.fn 54) (hro : F.round = none) (l Bs Bn : Nat) (A : Option Addr) (cap : Nat) (J : World → Prop) (W : World)
    (hcs : W.cell? ⟨Bs, 0, none⟩ = some (.slice A 0 cap)) (h0 : J W) :
    CallsIn F n Try.prog 54 #[.func (.yield l) #[] #[], .pointer (some ⟨Bs, 0, none⟩), .pointer (some ⟨Bn, 0, none⟩)] W fun e W' => (∃ v, e = .returned v) ∧ J W' := by
  refine callsIn_of_wp Try.func54 rfl h7 ?_ hro
  simp only [Try.ntmps54, List.size_toArray, List.length_cons, List.length_nil, Nat.reduceAdd, Nat.reduceSub, Array.replicate_succ, Array.replicate_zero, List.push_toArray, List.append_toArray, List.nil_append, List.cons_append]
  gi_wp2
  gi_loopw [4] (fun i wr => i = .int .i64 0 ∧ J wr ∧ wr.cell? ⟨Bs, 0, none⟩ = some (.slice A 0 cap)) (fun _ _ => 0)
  case atStart => exact ⟨rfl, h0, hcs⟩
  case round =>
    obtain ⟨rfl, hJs, hcs'⟩ := hrel
    gi_wp2
    go_end0
    exact ⟨⟨_, rfl⟩, hJs⟩

set_option maxHeartbeats 1000000 in
theorem chunk63_in (F : Fence) (n : Nat) (h5 : F.fn 40) (hro : F.round = none) (A : Option Addr) (len cap : Nat) (w : World) :
    CallsIn F n Try.prog 40 #[.slice A len cap, .int .i64 63] w fun e w' => e = .returned (.func (.func 54) #[] #[.pointer (some ⟨w.heap.size, 0, none⟩), .pointer (some ⟨w.heap.size + 1, 0, none⟩)]) ∧
      w' = (w.alloc (.cells #[.slice A len cap] 31)).alloc (.cells #[.int .i64 63] 3) := by
  refine callsIn_of_wp Try.func40 rfl h5 ?_ hro
  simp only [Try.ntmps40, List.size_toArray, List.length_cons, List.length_nil, Nat.reduceAdd, Nat.reduceSub, Array.replicate_succ, Array.replicate_zero, List.push_toArray, List.append_toArray, List.nil_append, List.cons_append]
  gi_wp2
  go_ret
  exact ⟨by simp, rfl⟩
def keeps63 (Bs Bn n₀ : Nat) (A B : World) : Prop := Below n₀ A B ∧ B.heap[Bs]? = A.heap[Bs]? ∧ B.heap[Bn]? = A.heap[Bn]?
theorem keeps63_t {Bs Bn n₀ : Nat} {A B C : World} (h : keeps63 Bs Bn n₀ A B) (k : keeps63 Bs Bn n₀ B C) : keeps63 Bs Bn n₀ A C := ⟨h.1.trans k.1, k.2.1.trans h.2.1, k.2.2.trans h.2.2⟩
theorem keeps63_b {Bs Bn n₀ : Nat} {w : World} (hn : n₀ ≤ w.heap.size) (hs : Bs < w.heap.size) (hn' : Bn < w.heap.size) (W : World) (l : Nat) (o o' : Obj) (hl : w.heap.size ≤ l) (h : W.heap[l]? = some o) (h1 : o.isCells = false) (h2 : o.isWalk = false) : keeps63 Bs Bn n₀ W (W.putObj l o') := by
  have hlt := (Array.getElem?_eq_some_iff.1 h).1
  exact ⟨belowK_b hn W l o o' hl h h1 h2, (grownBy_putObj' W l o').block Bs (by omega) (fun e => by cases e; omega), (grownBy_putObj' W l o').block Bn (by omega) (fun e => by cases e; omega)⟩
theorem keeps63_cell {Bs Bn n₀ : Nat} {A B : World} (h : keeps63 Bs Bn n₀ A B) : B.cell? ⟨Bs, 0, none⟩ = A.cell? ⟨Bs, 0, none⟩ ∧ B.cell? ⟨Bn, 0, none⟩ = A.cell? ⟨Bn, 0, none⟩ := by
  unfold World.cell?
  exact ⟨by simp only [h.2.1], by simp only [h.2.2]⟩
theorem abides63_drew {α : Type} {B : Nat} {J : List α → World → Prop} (h : AbidesFrom B J) (pre : List α) (W : World) (hj : J pre W) : J pre W.drew :=
  h pre W W.drew none hj ⟨rfl, rfl, rfl, Nat.le_refl _, fun _ _ _ => rfl⟩ (fun _ e => by cases e)
theorem chunk63_stops (F : Fence) (n : Nat) (h7 : F.fn 54) (hro : F.round = none) (hn : 1 ≤ n) (Bs Bn n₀ : Nat) (A : Option Addr) (ad : Addr) (len cap : Nat) (hA : 0 < len → A = some ad) (hlen : len < 140737488355328) (hcap : len ≤ cap) (w : World)
    (hs : Bs < w.heap.size) (hb : Bn < w.heap.size)
    (hcs : w.cell? ⟨Bs, 0, none⟩ = some (.slice A len cap)) (hcn : w.cell? ⟨Bn, 0, none⟩ = some (.int .i64 63)) :
    SeqStopsK F n Try.prog 54 #[.pointer (some ⟨Bs, 0, none⟩), .pointer (some ⟨Bn, 0, none⟩)] (fun x : Part63 len => #[partV63 ad len x]) (keeps63 Bs Bn n₀) (fun ys => ys.map (·.1) = List.range ((len + 62) / 63)) (fun _ => True) len w := fun l J Jx W hW hJ _ hY h0 => by
  have hcs' := (hW.cell (p := ⟨Bs, 0, none⟩) hs).trans hcs
  have hcn' := (hW.cell (p := ⟨Bn, 0, none⟩) hb).trans hcn
  by_cases h : 0 < len
  · obtain rfl := hA h
    refine (chunk63_1_in F n h7 hro hn l Bs Bn ad len cap hlen hcap (keeps63 Bs Bn n₀) (fun X Y k e => (keeps63_cell k).1.trans e) (fun X Y k e => (keeps63_cell k).2.trans e) J Jx hY (abides63_drew hJ) W hcs' hcn' h0).mono ?_
    rintro e W' ⟨he, ⟨ys, hys, hj⟩ | ⟨pre, hj⟩⟩
    · exact ⟨he, .inl ⟨ys, hys, hj⟩⟩
    · exact ⟨he, .inr ⟨pre, trivial, hj⟩⟩
  · obtain rfl : len = 0 := by omega
    exact (chunk63_1_nil_in F n h7 hro l Bs Bn A cap (J []) W hcs' h0).mono fun e W' ⟨he, hj⟩ => ⟨he, .inl ⟨[], rfl, hj⟩⟩

end Go.Proofs.Ytfplmoeahbjfmaa.P

-- YtfplmoeahbjfmaaPCollect
namespace Go.Proofs.Ytfplmoeahbjfmaa.P
open Go Go.Proofs Go.RowKit Go.Shelf Go.Proofs.YtfplmoeahbjfmaaW.PrintWords Go.Proofs.YtfplmoeahbjfmaaW.PrintLast Go.Proofs.YtfplmoeahbjfmaaW.PrintMore
set_option linter.unusedVariables false
set_option linter.unusedSimpArgs false
attribute [local go_sem] Oper.semAt_some

theorem info_row : (Try.prog.info? 31).map (fun i => (i.zero, i.size, i.bytes)) = some (some (.slice none 0 0), 1, 24) := by kernel_rfl
set_option maxRecDepth 100000 in
set_option maxHeartbeats 4000000 in
theorem appendSeq_calls (Bs Bn : Nat) (A0 : Option Addr) (ad : Addr) (len c0 : Nat) (w : World) (hA : 0 < len → A0 = some ad) (hlen : len ≤ 1000000) (hcap : len ≤ c0) (bS : Boxed w Bs 31 (.slice A0 len c0)) (bN : Boxed w Bn 3 (.int .i64 63)) :
    Calls Try.prog 53 #[.slice none 0 0, .func (.func 54) #[] #[.pointer (some ⟨Bs, 0, none⟩), .pointer (some ⟨Bn, 0, none⟩)]] w fun e w' =>
      ∃ v, ∃ ys : List (Part63 len), e = .returned v ∧ w'.ownsRow w.heap.size 31 1 v ys.length (ys.map (partV63 ad len)) ∧ ys.map (·.1) = List.range ((len + 62) / 63) ∧ Below w.heap.size w w' := by
  refine (callsIn_wide (n := 5)).1 ?_
  have hro : Fence.wide.round = none := rfl
  refine callsIn_of_wp_marks Try.func53 rfl trivial ?_ hro
  simp only [Try.ntmps53, List.size_toArray, List.length_cons, List.length_nil, Nat.reduceAdd, Nat.reduceSub, Array.replicate_succ, Array.replicate_zero, List.push_toArray, List.append_toArray, List.nil_append, List.cons_append]
  gi_wp2
  have bO := Boxed.new w 36 (.slice none 0 0)
  have hls := bS.lt
  have hln := bN.lt
  obtain ⟨i0, hi, hz0, hz1, hz2⟩ := info_parts info_row
  have hB2 : Below w.heap.size w (w.alloc (.cells #[.slice none 0 0] 36)) := (Below.refl _ w).alloc (Nat.le_refl _) _
  refine wpIn_rangeFunc_ownG hro (by omega) (gf := 54) (lb := #[.pointer (some ⟨Bs, 0, none⟩), .pointer (some ⟨Bn, 0, none⟩)]) rfl trivial (enters_of Try.func54 (by kernel_rfl) rfl)
    (chunk63_stops Fence.wide 4 trivial hro (by omega) Bs Bn w.heap.size A0 ad len c0 hA (by omega) hcap _ (by first | (simp; done) | (simp; omega)) (by first | (simp; done) | (simp; omega)) (bS.alloc _).cell (bN.alloc _).cell) keeps63_t (keeps63_b (by first | (simp; done) | (simp; omega)) (by first | (simp; done) | (simp; omega)) (by first | (simp; done) | (simp; omega))) (Below.refl _ _) (fun _ => rfl)
    (fun pre W => (∃ v, Boxed W w.heap.size 36 v ∧ W.ownsRow w.heap.size 31 1 v pre.length (pre.map fun x => partV63 ad len x) ∧ True) ∧ Boxed W Bs 31 (.slice A0 len c0) ∧ Boxed W Bn 3 (.int .i64 63) ∧ Below w.heap.size w W)
    (fun _ _ _ => False)
    (OwnFrom.and (Own.from (holdsRow_own w.heap.size w.heap.size 36 31 1 (fun pre : List (Part63 len) => pre.length) (fun pre : List (Part63 len) => pre.map fun x => partV63 ad len x) (fun (pre : List (Part63 len)) v => True)) _)
      (OwnFrom.and (Own.from (boxed_own _ _ (fun _ => _)) _) (OwnFrom.and (Own.from (boxed_own _ _ (fun _ => _)) _) (ownFrom_below (Nat.le_refl _) (by simp)))))
    (fun _ _ _ _ _ hs _ _ => hs)
    ⟨⟨_, bO, World.ownsRow_nil _ _ _ _, trivial⟩, bS.alloc _, bN.alloc _, hB2⟩
    (fun x => { tmps := #[.slice none 0 0, .func (.func 54) #[] #[.pointer (some ⟨Bs, 0, none⟩), .pointer (some ⟨Bn, 0, none⟩)], .pointer (some ⟨w.heap.size, 0, none⟩), undef, .slice none 0 0, partV63 ad len x,
      .func (.func 54) #[] #[.pointer (some ⟨Bs, 0, none⟩), .pointer (some ⟨Bn, 0, none⟩)], partV63 ad len x, undef, undef, undef, undef, undef], defers := [] }) ?assign ?body ?done ?stop
  case assign =>
    intro l x W K hK
    gi_wp2
    exact hK
  case body =>
    rintro l pre x W ⟨⟨v, hv, hrow, _⟩, hbs, hbn, hB⟩ hlt
    have hc := hv.cell
    have hxl := x.2
    have hnb : some Bs ≠ v.ownBlock := fun e => by have := (hrow.lt Bs e.symm).1; omega
    have hnn : some Bn ≠ v.ownBlock := fun e => by have := (hrow.lt Bn e.symm).1; omega
    obtain ⟨j, hj⟩ : ∃ j : Nat, min 63 (len - 63 * x.1) = j := ⟨_, rfl⟩
    have hpv : partV63 ad len x = .slice (some (ad.add (63 * x.1))) j j := by unfold partV63; rw [hj]
    simp only [hpv]
    gi_wp2_with (gi_at_builtin; refine wpListIn_append_own _ rfl _ _ 36 rfl w.heap.size 31 i0 (.slice none 0 0) 1 24 Try.underlying36 hi hz0 hz1 hz2 rfl (by decide) _ _ _ rfl (hrow.alloc _) ⟨W.heap.size, 0, none⟩ 1 1 [.slice (some (ad.add (63 * x.1))) j j] rfl rfl (cell_one_new _ _ _) (by simp [Value.oneCell']) (by unfold maxLen; omega) (by omega) (by have := hB.size; simp; omega) ?_; intro v' w2 hown' hgrow _; obtain ⟨g', cap', rfl⟩ := ownsRow_succ hown'; obtain ⟨hv1, hv2, hr2, hk2, hb2⟩ := hv.appended (by decide) hrow hB.size (Nat.le_refl _) hown' hgrow; have hc1 := hv1.cell; have hf1 := hv1.frozen)
    have hbs' := ((hbs.alloc _).kept hgrow hnb).other (B' := w.heap.size) (by omega)
    have hbn' := ((hbn.alloc _).kept hgrow hnn).other (B' := w.heap.size) (by omega)
    exact ⟨hk2.from _, ⟨hb2, (hbs' _).trans hbs.symm, (hbn' _).trans hbn.symm⟩, ⟨_, hv2, by simpa [hpv] using hr2⟩, hbs' _, hbn' _, hB.trans hb2⟩
  case done =>
    rintro D ys W hD hS ⟨⟨v, hv, hrow, _⟩, hbs, hbn, hB⟩ hK
    have hc := hv.cell
    gi_wp2
    refine ⟨by simp, .inl ⟨_, _, rfl, run_takeDeferred hK, ?_⟩⟩
    have hb' := hB.trans (belowK_b (w := w) (Nat.le_refl _) W D _ (.deferred none) (by simp at hD; omega) hK rfl rfl)
    refine ⟨_, results_tmp rfl _ _ _, v, ys, rfl, ?_, hS, hb'⟩
    exact ownsRow_putObj hrow (.deferred none) hK rfl
  case stop =>
    rintro D c pre W _ _ h _
    exact h.elim
end Go.Proofs.Ytfplmoeahbjfmaa.P

-- YtfplmoeahbjfmaaPPSplit
namespace Go.Proofs.Ytfplmoeahbjfmaa.P
open Go Go.Proofs Go.RowKit Go.Shelf Go.Proofs.YtfplmoeahbjfmaaW.PrintWords Go.Proofs.YtfplmoeahbjfmaaW.PrintLast Go.Proofs.YtfplmoeahbjfmaaW.PrintMore
set_option linter.unusedVariables false
set_option linter.unusedSimpArgs false

/-- The parts' numbers are those below. -/
def partN (ad : Addr) (len i : Nat) : Value := if len = 0 then .slice none 0 0 else .slice (some (ad.add (63 * i))) (min 63 (len - 63 * i)) (min 63 (len - 63 * i))
theorem partN_one (ad : Addr) (len i : Nat) : (partN ad len i).oneCell' = true := by unfold partN; split <;> rfl
def mcount (len : Nat) : Nat := max 1 ((len + 62) / 63)
theorem parts_of (ad : Addr) (len : Nat) (h : 0 < len) (ys : List (Part63 len)) (hy : ys.map (·.1) = List.range ((len + 62) / 63)) : ys.map (partV63 ad len) = (List.range (mcount len)).map (partN ad len) ∧ ys.length = mcount len := by
  have e : mcount len = (len + 62) / 63 := by unfold mcount; omega
  constructor
  · rw [e, ← hy, List.map_map]
    refine List.map_congr_left fun x _ => ?_
    show partV63 ad len x = partN ad len x.1
    unfold partV63 partN
    rw [if_neg (by omega)]
  · have := congrArg List.length hy
    rw [List.length_map, List.length_range] at this
    omega
/-- A part's bytes. -/
def cont (l : List Int) (i : Nat) : List Int := (l.take (63 * i + 63)).drop (63 * i)
theorem cont_length (l : List Int) (i : Nat) : (cont l i).length = min 63 (l.length - 63 * i) := by unfold cont; rw [List.length_drop, List.length_take]; omega
theorem part_C {W : World} {A : Option Addr} {l : List Int} (h : Kd.C (Kd.int .u8) W A l.length l) (ad : Addr) (hA : 0 < l.length → A = some ad) (i : Nat) (hi : i < mcount l.length) :
    ∃ Ap, partN ad l.length i = .slice Ap (cont l i).length (cont l i).length ∧ Kd.C (Kd.int .u8) W Ap (cont l i).length (cont l i) := by
  by_cases h0 : l.length = 0
  · have e : l = [] := List.eq_nil_of_length_eq_zero h0
    subst e
    refine ⟨none, ?_, ?_⟩
    · simp [partN, cont]
    · simp [cont]; exact Kd.C_nil _ _
  · obtain rfl := hA (by omega)
    have hi2 : 63 * i < l.length := by unfold mcount at hi; omega
    have hm := Kd.C_mid (c := l.length + 1) (lo := 63 * i) (hi := min (63 * i + 63) l.length) h (by omega) (by omega) (by omega)
    rw [if_neg (by omega)] at hm
    have ec : (l.take (min (63 * i + 63) l.length)).drop (63 * i) = cont l i := by
      unfold cont
      congr 1
      by_cases q : 63 * i + 63 ≤ l.length
      · rw [show min (63 * i + 63) l.length = 63 * i + 63 by omega]
      · rw [show min (63 * i + 63) l.length = l.length by omega, List.take_of_length_le (by omega), List.take_of_length_le (by omega)]
    rw [ec] at hm
    refine ⟨some (ad.add (63 * i)), ?_, ?_⟩
    · unfold partN; rw [if_neg h0, cont_length]
    · simpa [Kd.int, Kd.scalar] using hm
set_option maxRecDepth 100000 in
set_option maxHeartbeats 4000000 in
theorem collect_calls (Bs Bn : Nat) (A0 : Option Addr) (ad : Addr) (len c0 : Nat) (w : World) (hA : 0 < len → A0 = some ad) (hlen : len ≤ 1000000) (hcap : len ≤ c0) (bS : Boxed w Bs 31 (.slice A0 len c0)) (bN : Boxed w Bn 3 (.int .i64 63)) :
    Calls Try.prog 39 #[.func (.func 54) #[] #[.pointer (some ⟨Bs, 0, none⟩), .pointer (some ⟨Bn, 0, none⟩)]] w fun e w' =>
      ∃ v, ∃ ys : List (Part63 len), e = .returned v ∧ w'.ownsRow w.heap.size 31 1 v ys.length (ys.map (partV63 ad len)) ∧ ys.map (·.1) = List.range ((len + 62) / 63) ∧ Below w.heap.size w w' := by
  go_enter Try.func39, Try.ntmps39
  go_wp2_with (go_at_call 53; refine (appendSeq_calls Bs Bn A0 ad len c0 _ hA hlen hcap bS bN).mono ?_; rintro e w1 ⟨v, ys, rfl, hr, hy, hb⟩)
  go_ret
  exact ⟨v, ys, by simp, hr, hy, hb⟩
/-- A message's first byte. -/
def headOf (m i : Nat) : Int := ((i % 64 + (if i = 0 then 128 else 0) + (if i + 1 = m then 64 else 0) : Nat) : Int)
def msg (l : List Int) (i : Nat) : List Int := headOf (mcount l.length) i :: cont l i
def msgs (l : List Int) (n : Nat) : List (List Int) := (List.range n).map (msg l)
theorem msgs_succ (l : List Int) (n : Nat) : msgs l (n + 1) = msgs l n ++ [msg l n] := by simp [msgs, List.range_succ]
abbrev kPart (ad : Addr) (len : Nat) : Kd Nat := Kd.scalar (partN ad len) (partN_one ad len)
abbrev kRow : Kd (List Int) := Kd.slice 5 (Kd.int .u8)
theorem or_i64 (a b : Nat) (ha : a < 9223372036854775808) (hb : b < 9223372036854775808) : Go.bits .or .i64 (a : Int) (b : Int) = ((a ||| b : Nat) : Int) := by
  have hx : a ||| b < 2 ^ 63 := Nat.or_lt_two_pow (by omega) (by omega)
  show IntKind.i64.wrap ((BitVec.ofInt 64 (a : Int) ||| BitVec.ofInt 64 (b : Int)).toNat : Int) = _
  rw [BitVec.toNat_or, Go.ofInt_u64 a (by omega), Go.ofInt_u64 b (by omega)]
  generalize hm : a ||| b = m at hx ⊢
  have hm2 : (m : Int) ≤ 9223372036854775807 := by omega
  rw [IntKind.wrap_i64]; omega
theorem or64 (i : Nat) : Go.bits .or .i64 ((i : Int) % 64) 64 = ((i % 64 + 64 : Nat) : Int) := by
  have h := or_i64 (i % 64) 64 (by omega) (by decide)
  have e := Nat.two_pow_add_eq_or_of_lt (i := 6) (b := i % 64) (by omega) 1
  rw [show ((i : Int) % 64) = ((i % 64 : Nat) : Int) from rfl, show (64 : Int) = ((64 : Nat) : Int) from rfl, h]
  congr 1
  rw [show 2 ^ 6 * 1 = 64 from rfl] at e
  rw [Nat.or_comm]
  omega
theorem or128 (i : Nat) (h : i = 0) : Go.bits .or .i64 ((i : Int) % 64) 128 = ((128 : Nat) : Int) := by subst h; decide +kernel
theorem Below.of_grown {W W1 : World} (hg : W.grownBy W1 none) : Below W.heap.size W W1 := ⟨hg.os, hg.tape, hg.output, hg.size, fun k hk => hg.block k hk (by simp)⟩
theorem ownsRow_slice {W : World} {base n e : Nat} {v : Value} {xs : List Value} (h : W.ownsRow base e 1 v n xs) : ∃ A c, v = .slice A n c := by
  rcases h.2 with ⟨rfl, rfl⟩ | ⟨g, cap, cur, rfl, _⟩
  · exact ⟨none, 0, rfl⟩
  · exact ⟨_, _, rfl⟩
theorem gen3 {P : Program} {C : Code} {Q : Exit → Act → World → Prop} {t : Array Value} {W : World} (a b c : Nat) (F : Array Value → Nat → Nat → Nat → Array Value) (hF : F t a b c = t) (R : Nat → Nat → Nat → World → Prop) (hR : R a b c W)
    (h : ∀ a b c W, R a b c W → Code.wp P C Q { tmps := F t a b c, defers := [] } W) : Code.wp P C Q { tmps := t, defers := [] } W := by
  have := h a b c W hR
  rwa [hF] at this
theorem u8_infoS : (Try.prog.info? 5).map (fun i => (i.zero, i.size, i.bytes)) = some (some (.int .u8 0), 1, 1) := by kernel_rfl
theorem row_infoS : (Try.prog.info? 31).map (fun i => (i.zero, i.size, i.bytes)) = some (some (.slice none 0 0), 1, 24) := by kernel_rfl
set_option maxRecDepth 100000 in
set_option maxHeartbeats 8000000 in
theorem split_calls (A0 : Option Addr) (c0 : Nat) (l : List Int) (w : World) (hr : Kd.C (Kd.int .u8) w A0 l.length l) (hc : l.length ≤ c0) (hl : l.length ≤ 1000000) :
    Calls Try.prog 16 #[.slice A0 l.length c0] w fun e w' => ∃ v, (if l.length ≤ 65536 then e = .returned (.tuple #[v, .int .i64 0]) ∧ Kd.R kRow 31 w' w.heap.size (fun _ => True) v (msgs l (mcount l.length)) else e = .returned (.tuple #[.slice none 0 0, .int .i64 7])) ∧ Below w.heap.size w w' := by
  by_cases hbig : l.length ≤ 65536
  · have hb1 : decide ((l.length : Int) > 65536) = false := decide_eq_false (by omega)
    have hb2 : decide ((65536 : Int) < (l.length : Int)) = false := decide_eq_false (by omega)
    simp only [if_pos hbig]
    obtain ⟨ad, hA⟩ : ∃ ad, 0 < l.length → A0 = some ad := by
      by_cases hp : 0 < l.length
      · obtain ⟨ad, ha, _⟩ := hr.2.2 hp; exact ⟨ad, fun _ => ha⟩
      · exact ⟨⟨0, 0, none⟩, fun h => absurd h hp⟩
    have HA := Aside0.mk hA
    clear hA
    go_enter Try.func16, Try.ntmps16
    go_wp2_with (go_at_call 40; refine ((callsIn_wide (n := 4)).1 (chunk63_in Fence.wide 4 trivial rfl A0 l.length c0 _)).mono ?_; rintro e w1 ⟨rfl, hw1⟩; have HW1 := Aside0.mk hw1; clear hw1)
    have bS0 := Boxed.new w 31 (.slice A0 l.length c0)
    have bS : Boxed w1 w.heap.size 31 (.slice A0 l.length c0) := by rw [HW1.out]; exact bS0.alloc _
    have bN : Boxed w1 (w.heap.size + 1) 3 (.int .i64 63) := by
      have h := Boxed.new (w.alloc (.cells #[.slice A0 l.length c0] 31)) 3 (.int .i64 63)
      rw [World.size_alloc] at h
      rw [HW1.out]; exact h
    have HB1 := Aside0.mk (show Below w.heap.size w w1 by rw [HW1.out]; exact below_alloc (below_alloc (Below.refl _ _) _) _)
    have HCC := Aside0.mk (collect_calls w.heap.size (w.heap.size + 1) A0 ad l.length c0 w1 HA.out hl hc bS bN)
    clear bS0 bS bN HW1
    go_wp2_with fail
    refine HCC.out.mono ?_
    rintro e w2 ⟨v4, ys, rfl, hro, hys, hb⟩
    have HB := Aside0.mk (below_step HB1.out hb)
    have HRO := Aside0.mk hro
    have HYS := Aside0.mk hys
    clear hb hro hys
    obtain ⟨A4, c4, e4⟩ := ownsRow_slice HRO.out
    subst e4
    clear HCC
    obtain ⟨n1, hn1⟩ : ∃ n1, n1 = w1.heap.size := ⟨_, rfl⟩
    rw [← hn1] at HRO
    have hrr := Aside0.mk hr
    have hn01 : w.heap.size ≤ n1 := by rw [hn1]; exact HB1.out.size
    clear hn1 hr HB1
    by_cases h0 : l.length = 0
    · have hy0 : ys.length = 0 := by
        have := congrArg List.length HYS.out
        rw [List.length_map, List.length_range] at this; omega
      rw [hy0]
      clear hn01
      go_wp2_with fail
      have HPN := Aside0.mk (show partN ad l.length 0 = .slice none 0 0 by unfold partN; rw [if_pos h0])
      have hnew := Kd.R_of_own (enc := partN ad l.length) (h1 := partN_one ad l.length) (ok := fun _ => True) (xs := [0]) (show (w2.alloc (.cells #[.slice none 0 0] 31)).ownsRow w.heap.size 31 1 (.slice (some ⟨w2.heap.size, 0, none⟩) 1 1) [0].length (encs (partN ad l.length) [0]) by
        have h := World.ownsRow_lit (base := w.heap.size) (e := 31) (size := 1) w2 #[.slice none 0 0] 1 HB.out.size (by decide) (by rfl)
        simpa [encs, HPN.out] using h) (fun _ _ => trivial)
      refine gen3 1 1 w2.heap.size (fun t mc c4 g4 => ((((t.setIfInBounds 4 (.slice (some ⟨g4, 0, none⟩) mc c4)).setIfInBounds 19 (.slice (some ⟨g4, 0, none⟩) mc c4)).setIfInBounds 20 (.int .i64 (mc : Int))))) rfl (fun mc c4 g4 w3 => Aside0 (mc = mcount l.length) ∧ Aside0 (Below w.heap.size w w3) ∧ Aside0 (Kd.R (kPart ad l.length) 31 w3 w.heap.size (fun _ => True) (.slice (some ⟨g4, 0, none⟩) mc c4) (List.range mc))) ⟨⟨by unfold mcount; omega⟩, ⟨HB.out.alloc HB.out.size _⟩, ⟨hnew⟩⟩ ?_
      clear HB hnew HPN HRO HYS hy0
      intro mc c4 g4 w3 ⟨HMD, HB, HP1⟩
      simp only [List.setIfInBounds_toArray, List.set_cons_zero, List.set_cons_succ]
      have HMC := Aside0.mk (show 0 < mc by rw [HMD.out]; unfold mcount; omega)
      obtain ⟨n2, hn2⟩ : ∃ n2, n2 = w3.heap.size := ⟨_, rfl⟩
      have HP2 := Aside0.mk (Kd.R_mono (Kd.R_bound HP1.out) (ok' := fun k => k < n2) (fun k ok => by rw [hn2]; exact ok.2.2.1))
      have hn02 : w.heap.size ≤ n2 := by rw [hn2]; exact HB.out.size
      have hn2s : n2 ≤ w3.heap.size := by omega
      have HN2 := Aside0.mk hn2s
      clear hn2 HP1 hn2s
      go_loopw [5, 21] (fun v5 v21 wr => ∃ (i : Nat), v21 = .int .i64 (i : Int) ∧ i ≤ mc ∧ Aside0 (Kd.R (kPart ad l.length) 31 wr w.heap.size (fun k => k < n2) (.slice (some ⟨g4, 0, none⟩) mc c4) (List.range mc)) ∧ Aside0 (Kd.R kRow 31 wr w.heap.size (fun k => n2 ≤ k) v5 (msgs l i)) ∧ Aside0 (n2 ≤ wr.heap.size) ∧ Aside0 (Below w.heap.size w wr)) (fun _ v21 _ => mc - (intOf v21).toNat)
      case atStart => exact ⟨0, by simp, by omega, HP2, ⟨Kd.R_nil _ _ _ _ _⟩, HN2, HB⟩
      case round =>
        clear HP2 HN2 HB
        obtain ⟨i, rfl, hi, HP, HO, HN, HB⟩ := hrel
        by_cases hlt : i < mc
        · have hltb : decide ((i : Int) < (mc : Int)) = true := decide_eq_true (by omega)
          have hcl := Kd.R_celln (0 : Nat) HP.out (i : Int) (by omega) (by omega)
          have hrd : rdOf 0 (List.range mc) (i : Int) = i := by simp [rdOf, List.getD_eq_getElem?_getD, List.getElem?_range, hlt]
          obtain ⟨Ap, epv, hCp⟩ := part_C (Kd.C_below hrr.out HB.out) ad HA.out i (by rw [← HMD.out]; exact hlt)
          rw [hrd, epv, Int.toNat_natCast] at hcl
          obtain ⟨hc1, hc2⟩ := hcl
          have HCP := Aside0.mk hCp
          clear hrd epv hCp
          obtain ⟨z, hz⟩ : ∃ z : Bool, z = decide (i = 0) := ⟨_, rfl⟩
          obtain ⟨y, hy⟩ : ∃ y : Bool, y = decide (i + 1 = mc) := ⟨_, rfl⟩
          have hz1 : ((i : Int) == 0) = z := by rw [hz]; by_cases q : i = 0 <;> simp [q]
          have hy1 : ((i : Int) == (mc : Int) - 1) = y := by
            rw [hy]
            by_cases q : i + 1 = mc
            · rw [decide_eq_true q, beq_iff_eq]; omega
            · rw [decide_eq_false q, beq_eq_false_iff_ne]; omega
          have HZ := Aside0.mk hz
          have HY := Aside0.mk hy
          clear hz hy
          obtain ⟨n8, hn8⟩ : ∃ n8, n8 = wr.heap.size := ⟨_, rfl⟩
          have HN8 := Aside0.mk (show n8 ≤ wr.heap.size by omega)
          have HN8b := Aside0.mk (show n2 ≤ n8 by have := HN.out; omega)
          have HO8 := Aside0.mk (show ∀ k, u5.ownBlock = some k → k < n8 from fun k hk => by rw [hn8]; exact Kd.R_lt HO.out k hk)
          have HOL := Aside0.mk (show ∀ k, u5.ownBlock = some k → n2 ≤ k from fun k hk => HO.out.1 k hk)
          have HOb := Aside0.mk (Kd.R_mono (Kd.R_bound HO.out) (ok' := fun k => n2 ≤ k ∧ k < n8) (fun k ok => ⟨ok.1, by rw [hn8]; exact ok.2.2.1⟩))
          clear HO
          have HO := HOb
          clear HOb
          have HCL := Aside0.mk (show (cont l i).length ≤ 63 by rw [cont_length]; omega)
          have hmcu : mc ≤ 2000 := by have := HMD.out; unfold mcount at this; omega
          have hwr : wrap64 ((mc : Int) - 1) = (mc : Int) - 1 := by unfold wrap64; omega
          have HLM := Aside0.mk (show i ≤ 1100 by have := HMD.out; unfold mcount at this; omega)
          clear hn8
          cases z with
          | false =>
            cases y with
            | false =>
              obtain ⟨hd, hhd⟩ : ∃ hd, hd = headOf mc i := ⟨_, rfl⟩
              have HHD := Aside0.mk hhd
              have hv : (i : Int) % 64 = hd := by rw [hhd]; unfold headOf; have h1 := of_decide_eq_false HZ.out.symm; have h2 := of_decide_eq_false HY.out.symm; rw [if_neg h1, if_neg h2]; omega
              clear hhd
              have HMSG := Aside0.mk (show msg l i = [hd] ++ cont l i by unfold msg; rw [← HMD.out, ← HHD.out]; rfl)
              go_wp2_with (first | ((with_reducible refine gate_dst (N := 42) rfl ?_); refine Kd.R_lit (Kd.int .u8) (w0 := w) w.heap.size 5 ?hg (N := 42) ?hd (xs := [hd]) (inner := [.int .u8 hd]) (ok := fun k => n8 ≤ k) (okp := fun _ => False) ?hr ?hp (fun _ hk => hk.elim) HN8.out HB.out HB.out.size (by simp) ?_; (case hd => rfl); (case hg => rfl); (case hr => first | (go_simp; done) | (go_simp; rfl)); (case hp => exact Reps.one rfl (Reps.none _ _)); intro v42 w42 ho hb hg hn; have H42 := Aside0.mk ho; have HQ42 := Aside0.mk (show ∀ k, n8 ≤ k → some k ≠ none by simp); have n0 := Aside0.mk hb; have n1 := Aside0.mk (Kd.R_grown HP.out hg (fun k ok => by simp)); have n2_ := Aside0.mk (Kd.R_grown HO.out hg (fun k ok => by simp)); have n3 := Aside0.mk (Nat.le_trans HN.out hg.size); have n4 := Aside0.mk (Kd.C_below HCP.out (Below.of_grown hg)); have n5 := Aside0.mk (Nat.le_trans HN8.out hg.size); clear HB HP HO HN HCP HN8 HQ42 ho hb hg hn; have HB := n0; have HP := n1; have HO := n2_; have HN := n3; have HCP := n4; have HN8 := n5; clear n0 n1 n2_ n3 n4 n5) | ((with_reducible refine gate_builtin (b := .append) (xs := #[.tmp 42, .tmp 43]) rfl ?_); at_builtin; refine Kd.R_append_rows (Kd.int .u8) (w0 := w) w.heap.size rfl (.tmp 42) (.tmp 43) 31 5 (.int .u8 0) 1 rfl Try.underlying31 u8_infoS rfl (by decide) (by omega) v42 [hd] (cont l i) Ap (cont l i).length (cont l i).length (fun k => n8 ≤ k) (fun _ => False) rfl rfl H42.out HCP.out (fun _ _ h => h) (fun _ h => h.elim) (fun k hk => Nat.le_trans HN8.out hk) HB.out HB.out.size (by have := HCL.out; simp only [List.length_cons, List.length_nil]; omega) ?_; intro v44 w44 ho hb hg hat; have H44 := Aside0.mk ho; obtain ⟨A44, n44, c44, e44⟩ : ∃ A n c, v44 = Value.slice A n c := (by obtain ⟨A, c, e⟩ := Kd.R_slice ho; exact ⟨A, _, c, e⟩); subst e44; have n0 := Aside0.mk hb; have n1 := Aside0.mk (Kd.R_grown HP.out hg (fun k ok e => by have := H42.out.1 k e.symm; have := HN8b.out; omega)); have n2_ := Aside0.mk (Kd.R_grown HO.out hg (fun k ok e => by have := H42.out.1 k e.symm; omega)); have n3 := Aside0.mk (Nat.le_trans HN.out hg.size); have n5 := Aside0.mk (Nat.le_trans HN8.out hg.size); clear HB HP HO HN HCP HN8 H42 ho hb hg hat; have HB := n0; have HP := n1; have HO := n2_; have HN := n3; have HN8 := n5; clear n0 n1 n2_ n3 n5) | ((with_reducible refine gate_builtin (b := .append) (xs := #[.tmp 39, .tmp 45]) rfl ?_); at_builtin; refine Kd.R_append kRow (w0 := w) w.heap.size rfl (.tmp 39) (.tmp 45) 36 31 (.slice none 0 0) 24 rfl Try.underlying36 row_infoS rfl (by decide) (by omega) u5 (msgs l i) (msg l i) [.slice A44 n44 c44] (fun k => n2 ≤ k) (fun k => n8 ≤ k) rfl (by first | (go_simp; done) | (go_simp; rfl)) ⟨.slice A44 n44 c44, rfl, by rw [HMSG.out]; exact H44.out⟩ (fun k hk => ⟨Nat.le_trans HN8b.out hk, fun e => by have := HO8.out k e.symm; omega⟩) (fun k hk => Nat.le_trans HN.out hk) (Kd.R_mono HO.out (fun k hk => hk.1)) HB.out HB.out.size (by have := HLM.out; simp only [msgs, List.length_map, List.length_range]; omega) ?_; intro v46 w46 ho hb hg hat; rw [← msgs_succ] at ho; have n0 := Aside0.mk hb; have n1 := Aside0.mk (Kd.R_grown HP.out hg (fun k ok e => by have := HOL.out k e.symm; omega)); have n2_ := Aside0.mk ho; have n3 := Aside0.mk (Nat.le_trans HN.out hg.size); clear HB HP HO HN HN8 H44 ho hb hg hat; have HB := n0; have HP := n1; have HO := n2_; have HN := n3; clear n0 n1 n2_ n3) | fail)
              go_roundw
              exact ⟨i + 1, by simp, by omega, HP, HO, HN, HB⟩
              case measure => simp only [intOf]; omega
            | true =>
              obtain ⟨hd, hhd⟩ : ∃ hd, hd = headOf mc i := ⟨_, rfl⟩
              have HHD := Aside0.mk hhd
              obtain ⟨k1, hk1, hk1v⟩ : ∃ k1 : Nat, Go.bits .or .i64 ((i : Int) % 64) 64 = (k1 : Int) ∧ k1 = i % 64 + 64 := ⟨_, or64 i, rfl⟩
              have hv : (k1 : Int) % 256 = hd := by rw [hhd, hk1v]; unfold headOf; have h1 := of_decide_eq_false HZ.out.symm; have h2 := of_decide_eq_true HY.out.symm; rw [if_neg h1, if_pos h2]; omega
              clear hk1v
              clear hhd
              have HMSG := Aside0.mk (show msg l i = [hd] ++ cont l i by unfold msg; rw [← HMD.out, ← HHD.out]; rfl)
              go_wp2_with (first | ((with_reducible refine gate_dst (N := 42) rfl ?_); refine Kd.R_lit (Kd.int .u8) (w0 := w) w.heap.size 5 ?hg (N := 42) ?hd (xs := [hd]) (inner := [.int .u8 hd]) (ok := fun k => n8 ≤ k) (okp := fun _ => False) ?hr ?hp (fun _ hk => hk.elim) HN8.out HB.out HB.out.size (by simp) ?_; (case hd => rfl); (case hg => rfl); (case hr => first | (go_simp; done) | (go_simp; rfl)); (case hp => exact Reps.one rfl (Reps.none _ _)); intro v42 w42 ho hb hg hn; have H42 := Aside0.mk ho; have HQ42 := Aside0.mk (show ∀ k, n8 ≤ k → some k ≠ none by simp); have n0 := Aside0.mk hb; have n1 := Aside0.mk (Kd.R_grown HP.out hg (fun k ok => by simp)); have n2_ := Aside0.mk (Kd.R_grown HO.out hg (fun k ok => by simp)); have n3 := Aside0.mk (Nat.le_trans HN.out hg.size); have n4 := Aside0.mk (Kd.C_below HCP.out (Below.of_grown hg)); have n5 := Aside0.mk (Nat.le_trans HN8.out hg.size); clear HB HP HO HN HCP HN8 HQ42 ho hb hg hn; have HB := n0; have HP := n1; have HO := n2_; have HN := n3; have HCP := n4; have HN8 := n5; clear n0 n1 n2_ n3 n4 n5) | ((with_reducible refine gate_builtin (b := .append) (xs := #[.tmp 42, .tmp 43]) rfl ?_); at_builtin; refine Kd.R_append_rows (Kd.int .u8) (w0 := w) w.heap.size rfl (.tmp 42) (.tmp 43) 31 5 (.int .u8 0) 1 rfl Try.underlying31 u8_infoS rfl (by decide) (by omega) v42 [hd] (cont l i) Ap (cont l i).length (cont l i).length (fun k => n8 ≤ k) (fun _ => False) rfl rfl H42.out HCP.out (fun _ _ h => h) (fun _ h => h.elim) (fun k hk => Nat.le_trans HN8.out hk) HB.out HB.out.size (by have := HCL.out; simp only [List.length_cons, List.length_nil]; omega) ?_; intro v44 w44 ho hb hg hat; have H44 := Aside0.mk ho; obtain ⟨A44, n44, c44, e44⟩ : ∃ A n c, v44 = Value.slice A n c := (by obtain ⟨A, c, e⟩ := Kd.R_slice ho; exact ⟨A, _, c, e⟩); subst e44; have n0 := Aside0.mk hb; have n1 := Aside0.mk (Kd.R_grown HP.out hg (fun k ok e => by have := H42.out.1 k e.symm; have := HN8b.out; omega)); have n2_ := Aside0.mk (Kd.R_grown HO.out hg (fun k ok e => by have := H42.out.1 k e.symm; omega)); have n3 := Aside0.mk (Nat.le_trans HN.out hg.size); have n5 := Aside0.mk (Nat.le_trans HN8.out hg.size); clear HB HP HO HN HCP HN8 H42 ho hb hg hat; have HB := n0; have HP := n1; have HO := n2_; have HN := n3; have HN8 := n5; clear n0 n1 n2_ n3 n5) | ((with_reducible refine gate_builtin (b := .append) (xs := #[.tmp 39, .tmp 45]) rfl ?_); at_builtin; refine Kd.R_append kRow (w0 := w) w.heap.size rfl (.tmp 39) (.tmp 45) 36 31 (.slice none 0 0) 24 rfl Try.underlying36 row_infoS rfl (by decide) (by omega) u5 (msgs l i) (msg l i) [.slice A44 n44 c44] (fun k => n2 ≤ k) (fun k => n8 ≤ k) rfl (by first | (go_simp; done) | (go_simp; rfl)) ⟨.slice A44 n44 c44, rfl, by rw [HMSG.out]; exact H44.out⟩ (fun k hk => ⟨Nat.le_trans HN8b.out hk, fun e => by have := HO8.out k e.symm; omega⟩) (fun k hk => Nat.le_trans HN.out hk) (Kd.R_mono HO.out (fun k hk => hk.1)) HB.out HB.out.size (by have := HLM.out; simp only [msgs, List.length_map, List.length_range]; omega) ?_; intro v46 w46 ho hb hg hat; rw [← msgs_succ] at ho; have n0 := Aside0.mk hb; have n1 := Aside0.mk (Kd.R_grown HP.out hg (fun k ok e => by have := HOL.out k e.symm; omega)); have n2_ := Aside0.mk ho; have n3 := Aside0.mk (Nat.le_trans HN.out hg.size); clear HB HP HO HN HN8 H44 ho hb hg hat; have HB := n0; have HP := n1; have HO := n2_; have HN := n3; clear n0 n1 n2_ n3) | fail)
              go_roundw
              exact ⟨i + 1, by simp, by omega, HP, HO, HN, HB⟩
              case measure => simp only [intOf]; omega
          | true =>
            cases y with
            | false =>
              obtain ⟨hd, hhd⟩ : ∃ hd, hd = headOf mc i := ⟨_, rfl⟩
              have HHD := Aside0.mk hhd
              obtain ⟨k1, hk1, hk1v⟩ : ∃ k1 : Nat, Go.bits .or .i64 ((i : Int) % 64) 128 = (k1 : Int) ∧ k1 = 128 := ⟨_, or128 i (of_decide_eq_true HZ.out.symm), rfl⟩
              have hv : (k1 : Int) % 256 = hd := by rw [hhd, hk1v]; unfold headOf; have h1 := of_decide_eq_true HZ.out.symm; have h2 := of_decide_eq_false HY.out.symm; rw [if_pos h1, if_neg h2]; omega
              clear hk1v
              clear hhd
              have HMSG := Aside0.mk (show msg l i = [hd] ++ cont l i by unfold msg; rw [← HMD.out, ← HHD.out]; rfl)
              go_wp2_with (first | ((with_reducible refine gate_dst (N := 42) rfl ?_); refine Kd.R_lit (Kd.int .u8) (w0 := w) w.heap.size 5 ?hg (N := 42) ?hd (xs := [hd]) (inner := [.int .u8 hd]) (ok := fun k => n8 ≤ k) (okp := fun _ => False) ?hr ?hp (fun _ hk => hk.elim) HN8.out HB.out HB.out.size (by simp) ?_; (case hd => rfl); (case hg => rfl); (case hr => first | (go_simp; done) | (go_simp; rfl)); (case hp => exact Reps.one rfl (Reps.none _ _)); intro v42 w42 ho hb hg hn; have H42 := Aside0.mk ho; have HQ42 := Aside0.mk (show ∀ k, n8 ≤ k → some k ≠ none by simp); have n0 := Aside0.mk hb; have n1 := Aside0.mk (Kd.R_grown HP.out hg (fun k ok => by simp)); have n2_ := Aside0.mk (Kd.R_grown HO.out hg (fun k ok => by simp)); have n3 := Aside0.mk (Nat.le_trans HN.out hg.size); have n4 := Aside0.mk (Kd.C_below HCP.out (Below.of_grown hg)); have n5 := Aside0.mk (Nat.le_trans HN8.out hg.size); clear HB HP HO HN HCP HN8 HQ42 ho hb hg hn; have HB := n0; have HP := n1; have HO := n2_; have HN := n3; have HCP := n4; have HN8 := n5; clear n0 n1 n2_ n3 n4 n5) | ((with_reducible refine gate_builtin (b := .append) (xs := #[.tmp 42, .tmp 43]) rfl ?_); at_builtin; refine Kd.R_append_rows (Kd.int .u8) (w0 := w) w.heap.size rfl (.tmp 42) (.tmp 43) 31 5 (.int .u8 0) 1 rfl Try.underlying31 u8_infoS rfl (by decide) (by omega) v42 [hd] (cont l i) Ap (cont l i).length (cont l i).length (fun k => n8 ≤ k) (fun _ => False) rfl rfl H42.out HCP.out (fun _ _ h => h) (fun _ h => h.elim) (fun k hk => Nat.le_trans HN8.out hk) HB.out HB.out.size (by have := HCL.out; simp only [List.length_cons, List.length_nil]; omega) ?_; intro v44 w44 ho hb hg hat; have H44 := Aside0.mk ho; obtain ⟨A44, n44, c44, e44⟩ : ∃ A n c, v44 = Value.slice A n c := (by obtain ⟨A, c, e⟩ := Kd.R_slice ho; exact ⟨A, _, c, e⟩); subst e44; have n0 := Aside0.mk hb; have n1 := Aside0.mk (Kd.R_grown HP.out hg (fun k ok e => by have := H42.out.1 k e.symm; have := HN8b.out; omega)); have n2_ := Aside0.mk (Kd.R_grown HO.out hg (fun k ok e => by have := H42.out.1 k e.symm; omega)); have n3 := Aside0.mk (Nat.le_trans HN.out hg.size); have n5 := Aside0.mk (Nat.le_trans HN8.out hg.size); clear HB HP HO HN HCP HN8 H42 ho hb hg hat; have HB := n0; have HP := n1; have HO := n2_; have HN := n3; have HN8 := n5; clear n0 n1 n2_ n3 n5) | ((with_reducible refine gate_builtin (b := .append) (xs := #[.tmp 39, .tmp 45]) rfl ?_); at_builtin; refine Kd.R_append kRow (w0 := w) w.heap.size rfl (.tmp 39) (.tmp 45) 36 31 (.slice none 0 0) 24 rfl Try.underlying36 row_infoS rfl (by decide) (by omega) u5 (msgs l i) (msg l i) [.slice A44 n44 c44] (fun k => n2 ≤ k) (fun k => n8 ≤ k) rfl (by first | (go_simp; done) | (go_simp; rfl)) ⟨.slice A44 n44 c44, rfl, by rw [HMSG.out]; exact H44.out⟩ (fun k hk => ⟨Nat.le_trans HN8b.out hk, fun e => by have := HO8.out k e.symm; omega⟩) (fun k hk => Nat.le_trans HN.out hk) (Kd.R_mono HO.out (fun k hk => hk.1)) HB.out HB.out.size (by have := HLM.out; simp only [msgs, List.length_map, List.length_range]; omega) ?_; intro v46 w46 ho hb hg hat; rw [← msgs_succ] at ho; have n0 := Aside0.mk hb; have n1 := Aside0.mk (Kd.R_grown HP.out hg (fun k ok e => by have := HOL.out k e.symm; omega)); have n2_ := Aside0.mk ho; have n3 := Aside0.mk (Nat.le_trans HN.out hg.size); clear HB HP HO HN HN8 H44 ho hb hg hat; have HB := n0; have HP := n1; have HO := n2_; have HN := n3; clear n0 n1 n2_ n3) | fail)
              go_roundw
              exact ⟨i + 1, by simp, by omega, HP, HO, HN, HB⟩
              case measure => simp only [intOf]; omega
            | true =>
              obtain ⟨hd, hhd⟩ : ∃ hd, hd = headOf mc i := ⟨_, rfl⟩
              have HHD := Aside0.mk hhd
              obtain ⟨k1, hk1, hk1v⟩ : ∃ k1 : Nat, Go.bits .or .i64 ((i : Int) % 64) 128 = (k1 : Int) ∧ k1 = 128 := ⟨_, or128 i (of_decide_eq_true HZ.out.symm), rfl⟩
              obtain ⟨k2, hk2, hk2v⟩ : ∃ k2 : Nat, Go.bits .or .i64 (k1 : Int) 64 = (k2 : Int) ∧ k2 = 192 := ⟨192, by rw [hk1v]; decide +kernel, rfl⟩
              have hv : (k2 : Int) % 256 = hd := by rw [hhd, hk2v]; unfold headOf; have h1 := of_decide_eq_true HZ.out.symm; have h2 := of_decide_eq_true HY.out.symm; rw [if_pos h1, if_pos h2]; omega
              clear hk1v hk2v
              clear hhd
              have HMSG := Aside0.mk (show msg l i = [hd] ++ cont l i by unfold msg; rw [← HMD.out, ← HHD.out]; rfl)
              go_wp2_with (first | ((with_reducible refine gate_dst (N := 42) rfl ?_); refine Kd.R_lit (Kd.int .u8) (w0 := w) w.heap.size 5 ?hg (N := 42) ?hd (xs := [hd]) (inner := [.int .u8 hd]) (ok := fun k => n8 ≤ k) (okp := fun _ => False) ?hr ?hp (fun _ hk => hk.elim) HN8.out HB.out HB.out.size (by simp) ?_; (case hd => rfl); (case hg => rfl); (case hr => first | (go_simp; done) | (go_simp; rfl)); (case hp => exact Reps.one rfl (Reps.none _ _)); intro v42 w42 ho hb hg hn; have H42 := Aside0.mk ho; have HQ42 := Aside0.mk (show ∀ k, n8 ≤ k → some k ≠ none by simp); have n0 := Aside0.mk hb; have n1 := Aside0.mk (Kd.R_grown HP.out hg (fun k ok => by simp)); have n2_ := Aside0.mk (Kd.R_grown HO.out hg (fun k ok => by simp)); have n3 := Aside0.mk (Nat.le_trans HN.out hg.size); have n4 := Aside0.mk (Kd.C_below HCP.out (Below.of_grown hg)); have n5 := Aside0.mk (Nat.le_trans HN8.out hg.size); clear HB HP HO HN HCP HN8 HQ42 ho hb hg hn; have HB := n0; have HP := n1; have HO := n2_; have HN := n3; have HCP := n4; have HN8 := n5; clear n0 n1 n2_ n3 n4 n5) | ((with_reducible refine gate_builtin (b := .append) (xs := #[.tmp 42, .tmp 43]) rfl ?_); at_builtin; refine Kd.R_append_rows (Kd.int .u8) (w0 := w) w.heap.size rfl (.tmp 42) (.tmp 43) 31 5 (.int .u8 0) 1 rfl Try.underlying31 u8_infoS rfl (by decide) (by omega) v42 [hd] (cont l i) Ap (cont l i).length (cont l i).length (fun k => n8 ≤ k) (fun _ => False) rfl rfl H42.out HCP.out (fun _ _ h => h) (fun _ h => h.elim) (fun k hk => Nat.le_trans HN8.out hk) HB.out HB.out.size (by have := HCL.out; simp only [List.length_cons, List.length_nil]; omega) ?_; intro v44 w44 ho hb hg hat; have H44 := Aside0.mk ho; obtain ⟨A44, n44, c44, e44⟩ : ∃ A n c, v44 = Value.slice A n c := (by obtain ⟨A, c, e⟩ := Kd.R_slice ho; exact ⟨A, _, c, e⟩); subst e44; have n0 := Aside0.mk hb; have n1 := Aside0.mk (Kd.R_grown HP.out hg (fun k ok e => by have := H42.out.1 k e.symm; have := HN8b.out; omega)); have n2_ := Aside0.mk (Kd.R_grown HO.out hg (fun k ok e => by have := H42.out.1 k e.symm; omega)); have n3 := Aside0.mk (Nat.le_trans HN.out hg.size); have n5 := Aside0.mk (Nat.le_trans HN8.out hg.size); clear HB HP HO HN HCP HN8 H42 ho hb hg hat; have HB := n0; have HP := n1; have HO := n2_; have HN := n3; have HN8 := n5; clear n0 n1 n2_ n3 n5) | ((with_reducible refine gate_builtin (b := .append) (xs := #[.tmp 39, .tmp 45]) rfl ?_); at_builtin; refine Kd.R_append kRow (w0 := w) w.heap.size rfl (.tmp 39) (.tmp 45) 36 31 (.slice none 0 0) 24 rfl Try.underlying36 row_infoS rfl (by decide) (by omega) u5 (msgs l i) (msg l i) [.slice A44 n44 c44] (fun k => n2 ≤ k) (fun k => n8 ≤ k) rfl (by first | (go_simp; done) | (go_simp; rfl)) ⟨.slice A44 n44 c44, rfl, by rw [HMSG.out]; exact H44.out⟩ (fun k hk => ⟨Nat.le_trans HN8b.out hk, fun e => by have := HO8.out k e.symm; omega⟩) (fun k hk => Nat.le_trans HN.out hk) (Kd.R_mono HO.out (fun k hk => hk.1)) HB.out HB.out.size (by have := HLM.out; simp only [msgs, List.length_map, List.length_range]; omega) ?_; intro v46 w46 ho hb hg hat; rw [← msgs_succ] at ho; have n0 := Aside0.mk hb; have n1 := Aside0.mk (Kd.R_grown HP.out hg (fun k ok e => by have := HOL.out k e.symm; omega)); have n2_ := Aside0.mk ho; have n3 := Aside0.mk (Nat.le_trans HN.out hg.size); clear HB HP HO HN HN8 H44 ho hb hg hat; have HB := n0; have HP := n1; have HO := n2_; have HN := n3; clear n0 n1 n2_ n3) | fail)
              go_roundw
              exact ⟨i + 1, by simp, by omega, HP, HO, HN, HB⟩
              case measure => simp only [intOf]; omega
        · obtain rfl : mc = i := by omega
          have hltb : decide ((mc : Int) < (mc : Int)) = false := decide_eq_false (by omega)
          rw [HMD.out] at HO
          go_wp2
          go_ret2
          exact ⟨_, ⟨by simp, Kd.R_mono HO.out (fun _ _ => trivial)⟩, HB.out⟩
    · obtain ⟨hp, hlp⟩ := parts_of ad l.length (by omega) ys HYS.out
      rw [hp, hlp] at HRO
      rw [hlp]
      have hpr : Kd.R (kPart ad l.length) 31 w2 n1 (fun _ => True) (.slice A4 (mcount l.length) c4) (List.range (mcount l.length)) := Kd.R_of_own (by rw [List.length_range]; exact HRO.out) (fun _ _ => trivial)
      clear hp hlp HRO HYS
      have HP1 := Aside0.mk (Kd.R_lower hpr hn01)
      clear hpr
      have hmc : 0 < mcount l.length := by unfold mcount; omega
      obtain ⟨g4, cap4, e4, hg4, hg4b, _⟩ := Kd.R_form HP1.out (by rw [List.length_range]; exact hmc)
      rw [List.length_range] at e4
      injection e4 with eA _ eC
      subst eA
      subst eC
      have HMC := Aside0.mk hmc
      clear hmc
      obtain ⟨mc, hmcd⟩ : ∃ mc, mc = mcount l.length := ⟨_, rfl⟩
      rw [← hmcd] at HP1 HMC ⊢
      have hyb : ((mc : Int) == 0) = false := by have := HMC.out; simp; omega
      have hyi : ¬ (mc : Int) = 0 := by have := HMC.out; omega
      have HMD := Aside0.mk hmcd
      clear hmcd
      go_wp2_with fail
      obtain ⟨n2, hn2⟩ : ∃ n2, n2 = w2.heap.size := ⟨_, rfl⟩
      have HP2 := Aside0.mk (Kd.R_mono (Kd.R_bound HP1.out) (ok' := fun k => k < n2) (fun k ok => by rw [hn2]; exact ok.2.2.1))
      have hn02 : w.heap.size ≤ n2 := by rw [hn2]; exact HB.out.size
      have hn2s : n2 ≤ w2.heap.size := by omega
      have HN2 := Aside0.mk hn2s
      clear hn2 HP1 hn2s
      go_loopw [5, 21] (fun v5 v21 wr => ∃ (i : Nat), v21 = .int .i64 (i : Int) ∧ i ≤ mc ∧ Aside0 (Kd.R (kPart ad l.length) 31 wr w.heap.size (fun k => k < n2) (.slice (some ⟨g4, 0, none⟩) mc c4) (List.range mc)) ∧ Aside0 (Kd.R kRow 31 wr w.heap.size (fun k => n2 ≤ k) v5 (msgs l i)) ∧ Aside0 (n2 ≤ wr.heap.size) ∧ Aside0 (Below w.heap.size w wr)) (fun _ v21 _ => mc - (intOf v21).toNat)
      case atStart => exact ⟨0, by simp, by omega, HP2, ⟨Kd.R_nil _ _ _ _ _⟩, HN2, HB⟩
      case round =>
        clear HP2 HN2 HB
        obtain ⟨i, rfl, hi, HP, HO, HN, HB⟩ := hrel
        by_cases hlt : i < mc
        · have hltb : decide ((i : Int) < (mc : Int)) = true := decide_eq_true (by omega)
          have hcl := Kd.R_celln (0 : Nat) HP.out (i : Int) (by omega) (by omega)
          have hrd : rdOf 0 (List.range mc) (i : Int) = i := by simp [rdOf, List.getD_eq_getElem?_getD, List.getElem?_range, hlt]
          obtain ⟨Ap, epv, hCp⟩ := part_C (Kd.C_below hrr.out HB.out) ad HA.out i (by rw [← HMD.out]; exact hlt)
          rw [hrd, epv, Int.toNat_natCast] at hcl
          obtain ⟨hc1, hc2⟩ := hcl
          have HCP := Aside0.mk hCp
          clear hrd epv hCp
          obtain ⟨z, hz⟩ : ∃ z : Bool, z = decide (i = 0) := ⟨_, rfl⟩
          obtain ⟨y, hy⟩ : ∃ y : Bool, y = decide (i + 1 = mc) := ⟨_, rfl⟩
          have hz1 : ((i : Int) == 0) = z := by rw [hz]; by_cases q : i = 0 <;> simp [q]
          have hy1 : ((i : Int) == (mc : Int) - 1) = y := by
            rw [hy]
            by_cases q : i + 1 = mc
            · rw [decide_eq_true q, beq_iff_eq]; omega
            · rw [decide_eq_false q, beq_eq_false_iff_ne]; omega
          have HZ := Aside0.mk hz
          have HY := Aside0.mk hy
          clear hz hy
          obtain ⟨n8, hn8⟩ : ∃ n8, n8 = wr.heap.size := ⟨_, rfl⟩
          have HN8 := Aside0.mk (show n8 ≤ wr.heap.size by omega)
          have HN8b := Aside0.mk (show n2 ≤ n8 by have := HN.out; omega)
          have HO8 := Aside0.mk (show ∀ k, u5.ownBlock = some k → k < n8 from fun k hk => by rw [hn8]; exact Kd.R_lt HO.out k hk)
          have HOL := Aside0.mk (show ∀ k, u5.ownBlock = some k → n2 ≤ k from fun k hk => HO.out.1 k hk)
          have HOb := Aside0.mk (Kd.R_mono (Kd.R_bound HO.out) (ok' := fun k => n2 ≤ k ∧ k < n8) (fun k ok => ⟨ok.1, by rw [hn8]; exact ok.2.2.1⟩))
          clear HO
          have HO := HOb
          clear HOb
          have HCL := Aside0.mk (show (cont l i).length ≤ 63 by rw [cont_length]; omega)
          have hmcu : mc ≤ 2000 := by have := HMD.out; unfold mcount at this; omega
          have hwr : wrap64 ((mc : Int) - 1) = (mc : Int) - 1 := by unfold wrap64; omega
          have HLM := Aside0.mk (show i ≤ 1100 by have := HMD.out; unfold mcount at this; omega)
          clear hn8
          cases z with
          | false =>
            cases y with
            | false =>
              obtain ⟨hd, hhd⟩ : ∃ hd, hd = headOf mc i := ⟨_, rfl⟩
              have HHD := Aside0.mk hhd
              have hv : (i : Int) % 64 = hd := by rw [hhd]; unfold headOf; have h1 := of_decide_eq_false HZ.out.symm; have h2 := of_decide_eq_false HY.out.symm; rw [if_neg h1, if_neg h2]; omega
              clear hhd
              have HMSG := Aside0.mk (show msg l i = [hd] ++ cont l i by unfold msg; rw [← HMD.out, ← HHD.out]; rfl)
              go_wp2_with (first | ((with_reducible refine gate_dst (N := 42) rfl ?_); refine Kd.R_lit (Kd.int .u8) (w0 := w) w.heap.size 5 ?hg (N := 42) ?hd (xs := [hd]) (inner := [.int .u8 hd]) (ok := fun k => n8 ≤ k) (okp := fun _ => False) ?hr ?hp (fun _ hk => hk.elim) HN8.out HB.out HB.out.size (by simp) ?_; (case hd => rfl); (case hg => rfl); (case hr => first | (go_simp; done) | (go_simp; rfl)); (case hp => exact Reps.one rfl (Reps.none _ _)); intro v42 w42 ho hb hg hn; have H42 := Aside0.mk ho; have HQ42 := Aside0.mk (show ∀ k, n8 ≤ k → some k ≠ none by simp); have n0 := Aside0.mk hb; have n1 := Aside0.mk (Kd.R_grown HP.out hg (fun k ok => by simp)); have n2_ := Aside0.mk (Kd.R_grown HO.out hg (fun k ok => by simp)); have n3 := Aside0.mk (Nat.le_trans HN.out hg.size); have n4 := Aside0.mk (Kd.C_below HCP.out (Below.of_grown hg)); have n5 := Aside0.mk (Nat.le_trans HN8.out hg.size); clear HB HP HO HN HCP HN8 HQ42 ho hb hg hn; have HB := n0; have HP := n1; have HO := n2_; have HN := n3; have HCP := n4; have HN8 := n5; clear n0 n1 n2_ n3 n4 n5) | ((with_reducible refine gate_builtin (b := .append) (xs := #[.tmp 42, .tmp 43]) rfl ?_); at_builtin; refine Kd.R_append_rows (Kd.int .u8) (w0 := w) w.heap.size rfl (.tmp 42) (.tmp 43) 31 5 (.int .u8 0) 1 rfl Try.underlying31 u8_infoS rfl (by decide) (by omega) v42 [hd] (cont l i) Ap (cont l i).length (cont l i).length (fun k => n8 ≤ k) (fun _ => False) rfl rfl H42.out HCP.out (fun _ _ h => h) (fun _ h => h.elim) (fun k hk => Nat.le_trans HN8.out hk) HB.out HB.out.size (by have := HCL.out; simp only [List.length_cons, List.length_nil]; omega) ?_; intro v44 w44 ho hb hg hat; have H44 := Aside0.mk ho; obtain ⟨A44, n44, c44, e44⟩ : ∃ A n c, v44 = Value.slice A n c := (by obtain ⟨A, c, e⟩ := Kd.R_slice ho; exact ⟨A, _, c, e⟩); subst e44; have n0 := Aside0.mk hb; have n1 := Aside0.mk (Kd.R_grown HP.out hg (fun k ok e => by have := H42.out.1 k e.symm; have := HN8b.out; omega)); have n2_ := Aside0.mk (Kd.R_grown HO.out hg (fun k ok e => by have := H42.out.1 k e.symm; omega)); have n3 := Aside0.mk (Nat.le_trans HN.out hg.size); have n5 := Aside0.mk (Nat.le_trans HN8.out hg.size); clear HB HP HO HN HCP HN8 H42 ho hb hg hat; have HB := n0; have HP := n1; have HO := n2_; have HN := n3; have HN8 := n5; clear n0 n1 n2_ n3 n5) | ((with_reducible refine gate_builtin (b := .append) (xs := #[.tmp 39, .tmp 45]) rfl ?_); at_builtin; refine Kd.R_append kRow (w0 := w) w.heap.size rfl (.tmp 39) (.tmp 45) 36 31 (.slice none 0 0) 24 rfl Try.underlying36 row_infoS rfl (by decide) (by omega) u5 (msgs l i) (msg l i) [.slice A44 n44 c44] (fun k => n2 ≤ k) (fun k => n8 ≤ k) rfl (by first | (go_simp; done) | (go_simp; rfl)) ⟨.slice A44 n44 c44, rfl, by rw [HMSG.out]; exact H44.out⟩ (fun k hk => ⟨Nat.le_trans HN8b.out hk, fun e => by have := HO8.out k e.symm; omega⟩) (fun k hk => Nat.le_trans HN.out hk) (Kd.R_mono HO.out (fun k hk => hk.1)) HB.out HB.out.size (by have := HLM.out; simp only [msgs, List.length_map, List.length_range]; omega) ?_; intro v46 w46 ho hb hg hat; rw [← msgs_succ] at ho; have n0 := Aside0.mk hb; have n1 := Aside0.mk (Kd.R_grown HP.out hg (fun k ok e => by have := HOL.out k e.symm; omega)); have n2_ := Aside0.mk ho; have n3 := Aside0.mk (Nat.le_trans HN.out hg.size); clear HB HP HO HN HN8 H44 ho hb hg hat; have HB := n0; have HP := n1; have HO := n2_; have HN := n3; clear n0 n1 n2_ n3) | fail)
              go_roundw
              exact ⟨i + 1, by simp, by omega, HP, HO, HN, HB⟩
              case measure => simp only [intOf]; omega
            | true =>
              obtain ⟨hd, hhd⟩ : ∃ hd, hd = headOf mc i := ⟨_, rfl⟩
              have HHD := Aside0.mk hhd
              obtain ⟨k1, hk1, hk1v⟩ : ∃ k1 : Nat, Go.bits .or .i64 ((i : Int) % 64) 64 = (k1 : Int) ∧ k1 = i % 64 + 64 := ⟨_, or64 i, rfl⟩
              have hv : (k1 : Int) % 256 = hd := by rw [hhd, hk1v]; unfold headOf; have h1 := of_decide_eq_false HZ.out.symm; have h2 := of_decide_eq_true HY.out.symm; rw [if_neg h1, if_pos h2]; omega
              clear hk1v
              clear hhd
              have HMSG := Aside0.mk (show msg l i = [hd] ++ cont l i by unfold msg; rw [← HMD.out, ← HHD.out]; rfl)
              go_wp2_with (first | ((with_reducible refine gate_dst (N := 42) rfl ?_); refine Kd.R_lit (Kd.int .u8) (w0 := w) w.heap.size 5 ?hg (N := 42) ?hd (xs := [hd]) (inner := [.int .u8 hd]) (ok := fun k => n8 ≤ k) (okp := fun _ => False) ?hr ?hp (fun _ hk => hk.elim) HN8.out HB.out HB.out.size (by simp) ?_; (case hd => rfl); (case hg => rfl); (case hr => first | (go_simp; done) | (go_simp; rfl)); (case hp => exact Reps.one rfl (Reps.none _ _)); intro v42 w42 ho hb hg hn; have H42 := Aside0.mk ho; have HQ42 := Aside0.mk (show ∀ k, n8 ≤ k → some k ≠ none by simp); have n0 := Aside0.mk hb; have n1 := Aside0.mk (Kd.R_grown HP.out hg (fun k ok => by simp)); have n2_ := Aside0.mk (Kd.R_grown HO.out hg (fun k ok => by simp)); have n3 := Aside0.mk (Nat.le_trans HN.out hg.size); have n4 := Aside0.mk (Kd.C_below HCP.out (Below.of_grown hg)); have n5 := Aside0.mk (Nat.le_trans HN8.out hg.size); clear HB HP HO HN HCP HN8 HQ42 ho hb hg hn; have HB := n0; have HP := n1; have HO := n2_; have HN := n3; have HCP := n4; have HN8 := n5; clear n0 n1 n2_ n3 n4 n5) | ((with_reducible refine gate_builtin (b := .append) (xs := #[.tmp 42, .tmp 43]) rfl ?_); at_builtin; refine Kd.R_append_rows (Kd.int .u8) (w0 := w) w.heap.size rfl (.tmp 42) (.tmp 43) 31 5 (.int .u8 0) 1 rfl Try.underlying31 u8_infoS rfl (by decide) (by omega) v42 [hd] (cont l i) Ap (cont l i).length (cont l i).length (fun k => n8 ≤ k) (fun _ => False) rfl rfl H42.out HCP.out (fun _ _ h => h) (fun _ h => h.elim) (fun k hk => Nat.le_trans HN8.out hk) HB.out HB.out.size (by have := HCL.out; simp only [List.length_cons, List.length_nil]; omega) ?_; intro v44 w44 ho hb hg hat; have H44 := Aside0.mk ho; obtain ⟨A44, n44, c44, e44⟩ : ∃ A n c, v44 = Value.slice A n c := (by obtain ⟨A, c, e⟩ := Kd.R_slice ho; exact ⟨A, _, c, e⟩); subst e44; have n0 := Aside0.mk hb; have n1 := Aside0.mk (Kd.R_grown HP.out hg (fun k ok e => by have := H42.out.1 k e.symm; have := HN8b.out; omega)); have n2_ := Aside0.mk (Kd.R_grown HO.out hg (fun k ok e => by have := H42.out.1 k e.symm; omega)); have n3 := Aside0.mk (Nat.le_trans HN.out hg.size); have n5 := Aside0.mk (Nat.le_trans HN8.out hg.size); clear HB HP HO HN HCP HN8 H42 ho hb hg hat; have HB := n0; have HP := n1; have HO := n2_; have HN := n3; have HN8 := n5; clear n0 n1 n2_ n3 n5) | ((with_reducible refine gate_builtin (b := .append) (xs := #[.tmp 39, .tmp 45]) rfl ?_); at_builtin; refine Kd.R_append kRow (w0 := w) w.heap.size rfl (.tmp 39) (.tmp 45) 36 31 (.slice none 0 0) 24 rfl Try.underlying36 row_infoS rfl (by decide) (by omega) u5 (msgs l i) (msg l i) [.slice A44 n44 c44] (fun k => n2 ≤ k) (fun k => n8 ≤ k) rfl (by first | (go_simp; done) | (go_simp; rfl)) ⟨.slice A44 n44 c44, rfl, by rw [HMSG.out]; exact H44.out⟩ (fun k hk => ⟨Nat.le_trans HN8b.out hk, fun e => by have := HO8.out k e.symm; omega⟩) (fun k hk => Nat.le_trans HN.out hk) (Kd.R_mono HO.out (fun k hk => hk.1)) HB.out HB.out.size (by have := HLM.out; simp only [msgs, List.length_map, List.length_range]; omega) ?_; intro v46 w46 ho hb hg hat; rw [← msgs_succ] at ho; have n0 := Aside0.mk hb; have n1 := Aside0.mk (Kd.R_grown HP.out hg (fun k ok e => by have := HOL.out k e.symm; omega)); have n2_ := Aside0.mk ho; have n3 := Aside0.mk (Nat.le_trans HN.out hg.size); clear HB HP HO HN HN8 H44 ho hb hg hat; have HB := n0; have HP := n1; have HO := n2_; have HN := n3; clear n0 n1 n2_ n3) | fail)
              go_roundw
              exact ⟨i + 1, by simp, by omega, HP, HO, HN, HB⟩
              case measure => simp only [intOf]; omega
          | true =>
            cases y with
            | false =>
              obtain ⟨hd, hhd⟩ : ∃ hd, hd = headOf mc i := ⟨_, rfl⟩
              have HHD := Aside0.mk hhd
              obtain ⟨k1, hk1, hk1v⟩ : ∃ k1 : Nat, Go.bits .or .i64 ((i : Int) % 64) 128 = (k1 : Int) ∧ k1 = 128 := ⟨_, or128 i (of_decide_eq_true HZ.out.symm), rfl⟩
              have hv : (k1 : Int) % 256 = hd := by rw [hhd, hk1v]; unfold headOf; have h1 := of_decide_eq_true HZ.out.symm; have h2 := of_decide_eq_false HY.out.symm; rw [if_pos h1, if_neg h2]; omega
              clear hk1v
              clear hhd
              have HMSG := Aside0.mk (show msg l i = [hd] ++ cont l i by unfold msg; rw [← HMD.out, ← HHD.out]; rfl)
              go_wp2_with (first | ((with_reducible refine gate_dst (N := 42) rfl ?_); refine Kd.R_lit (Kd.int .u8) (w0 := w) w.heap.size 5 ?hg (N := 42) ?hd (xs := [hd]) (inner := [.int .u8 hd]) (ok := fun k => n8 ≤ k) (okp := fun _ => False) ?hr ?hp (fun _ hk => hk.elim) HN8.out HB.out HB.out.size (by simp) ?_; (case hd => rfl); (case hg => rfl); (case hr => first | (go_simp; done) | (go_simp; rfl)); (case hp => exact Reps.one rfl (Reps.none _ _)); intro v42 w42 ho hb hg hn; have H42 := Aside0.mk ho; have HQ42 := Aside0.mk (show ∀ k, n8 ≤ k → some k ≠ none by simp); have n0 := Aside0.mk hb; have n1 := Aside0.mk (Kd.R_grown HP.out hg (fun k ok => by simp)); have n2_ := Aside0.mk (Kd.R_grown HO.out hg (fun k ok => by simp)); have n3 := Aside0.mk (Nat.le_trans HN.out hg.size); have n4 := Aside0.mk (Kd.C_below HCP.out (Below.of_grown hg)); have n5 := Aside0.mk (Nat.le_trans HN8.out hg.size); clear HB HP HO HN HCP HN8 HQ42 ho hb hg hn; have HB := n0; have HP := n1; have HO := n2_; have HN := n3; have HCP := n4; have HN8 := n5; clear n0 n1 n2_ n3 n4 n5) | ((with_reducible refine gate_builtin (b := .append) (xs := #[.tmp 42, .tmp 43]) rfl ?_); at_builtin; refine Kd.R_append_rows (Kd.int .u8) (w0 := w) w.heap.size rfl (.tmp 42) (.tmp 43) 31 5 (.int .u8 0) 1 rfl Try.underlying31 u8_infoS rfl (by decide) (by omega) v42 [hd] (cont l i) Ap (cont l i).length (cont l i).length (fun k => n8 ≤ k) (fun _ => False) rfl rfl H42.out HCP.out (fun _ _ h => h) (fun _ h => h.elim) (fun k hk => Nat.le_trans HN8.out hk) HB.out HB.out.size (by have := HCL.out; simp only [List.length_cons, List.length_nil]; omega) ?_; intro v44 w44 ho hb hg hat; have H44 := Aside0.mk ho; obtain ⟨A44, n44, c44, e44⟩ : ∃ A n c, v44 = Value.slice A n c := (by obtain ⟨A, c, e⟩ := Kd.R_slice ho; exact ⟨A, _, c, e⟩); subst e44; have n0 := Aside0.mk hb; have n1 := Aside0.mk (Kd.R_grown HP.out hg (fun k ok e => by have := H42.out.1 k e.symm; have := HN8b.out; omega)); have n2_ := Aside0.mk (Kd.R_grown HO.out hg (fun k ok e => by have := H42.out.1 k e.symm; omega)); have n3 := Aside0.mk (Nat.le_trans HN.out hg.size); have n5 := Aside0.mk (Nat.le_trans HN8.out hg.size); clear HB HP HO HN HCP HN8 H42 ho hb hg hat; have HB := n0; have HP := n1; have HO := n2_; have HN := n3; have HN8 := n5; clear n0 n1 n2_ n3 n5) | ((with_reducible refine gate_builtin (b := .append) (xs := #[.tmp 39, .tmp 45]) rfl ?_); at_builtin; refine Kd.R_append kRow (w0 := w) w.heap.size rfl (.tmp 39) (.tmp 45) 36 31 (.slice none 0 0) 24 rfl Try.underlying36 row_infoS rfl (by decide) (by omega) u5 (msgs l i) (msg l i) [.slice A44 n44 c44] (fun k => n2 ≤ k) (fun k => n8 ≤ k) rfl (by first | (go_simp; done) | (go_simp; rfl)) ⟨.slice A44 n44 c44, rfl, by rw [HMSG.out]; exact H44.out⟩ (fun k hk => ⟨Nat.le_trans HN8b.out hk, fun e => by have := HO8.out k e.symm; omega⟩) (fun k hk => Nat.le_trans HN.out hk) (Kd.R_mono HO.out (fun k hk => hk.1)) HB.out HB.out.size (by have := HLM.out; simp only [msgs, List.length_map, List.length_range]; omega) ?_; intro v46 w46 ho hb hg hat; rw [← msgs_succ] at ho; have n0 := Aside0.mk hb; have n1 := Aside0.mk (Kd.R_grown HP.out hg (fun k ok e => by have := HOL.out k e.symm; omega)); have n2_ := Aside0.mk ho; have n3 := Aside0.mk (Nat.le_trans HN.out hg.size); clear HB HP HO HN HN8 H44 ho hb hg hat; have HB := n0; have HP := n1; have HO := n2_; have HN := n3; clear n0 n1 n2_ n3) | fail)
              go_roundw
              exact ⟨i + 1, by simp, by omega, HP, HO, HN, HB⟩
              case measure => simp only [intOf]; omega
            | true =>
              obtain ⟨hd, hhd⟩ : ∃ hd, hd = headOf mc i := ⟨_, rfl⟩
              have HHD := Aside0.mk hhd
              obtain ⟨k1, hk1, hk1v⟩ : ∃ k1 : Nat, Go.bits .or .i64 ((i : Int) % 64) 128 = (k1 : Int) ∧ k1 = 128 := ⟨_, or128 i (of_decide_eq_true HZ.out.symm), rfl⟩
              obtain ⟨k2, hk2, hk2v⟩ : ∃ k2 : Nat, Go.bits .or .i64 (k1 : Int) 64 = (k2 : Int) ∧ k2 = 192 := ⟨192, by rw [hk1v]; decide +kernel, rfl⟩
              have hv : (k2 : Int) % 256 = hd := by rw [hhd, hk2v]; unfold headOf; have h1 := of_decide_eq_true HZ.out.symm; have h2 := of_decide_eq_true HY.out.symm; rw [if_pos h1, if_pos h2]; omega
              clear hk1v hk2v
              clear hhd
              have HMSG := Aside0.mk (show msg l i = [hd] ++ cont l i by unfold msg; rw [← HMD.out, ← HHD.out]; rfl)
              go_wp2_with (first | ((with_reducible refine gate_dst (N := 42) rfl ?_); refine Kd.R_lit (Kd.int .u8) (w0 := w) w.heap.size 5 ?hg (N := 42) ?hd (xs := [hd]) (inner := [.int .u8 hd]) (ok := fun k => n8 ≤ k) (okp := fun _ => False) ?hr ?hp (fun _ hk => hk.elim) HN8.out HB.out HB.out.size (by simp) ?_; (case hd => rfl); (case hg => rfl); (case hr => first | (go_simp; done) | (go_simp; rfl)); (case hp => exact Reps.one rfl (Reps.none _ _)); intro v42 w42 ho hb hg hn; have H42 := Aside0.mk ho; have HQ42 := Aside0.mk (show ∀ k, n8 ≤ k → some k ≠ none by simp); have n0 := Aside0.mk hb; have n1 := Aside0.mk (Kd.R_grown HP.out hg (fun k ok => by simp)); have n2_ := Aside0.mk (Kd.R_grown HO.out hg (fun k ok => by simp)); have n3 := Aside0.mk (Nat.le_trans HN.out hg.size); have n4 := Aside0.mk (Kd.C_below HCP.out (Below.of_grown hg)); have n5 := Aside0.mk (Nat.le_trans HN8.out hg.size); clear HB HP HO HN HCP HN8 HQ42 ho hb hg hn; have HB := n0; have HP := n1; have HO := n2_; have HN := n3; have HCP := n4; have HN8 := n5; clear n0 n1 n2_ n3 n4 n5) | ((with_reducible refine gate_builtin (b := .append) (xs := #[.tmp 42, .tmp 43]) rfl ?_); at_builtin; refine Kd.R_append_rows (Kd.int .u8) (w0 := w) w.heap.size rfl (.tmp 42) (.tmp 43) 31 5 (.int .u8 0) 1 rfl Try.underlying31 u8_infoS rfl (by decide) (by omega) v42 [hd] (cont l i) Ap (cont l i).length (cont l i).length (fun k => n8 ≤ k) (fun _ => False) rfl rfl H42.out HCP.out (fun _ _ h => h) (fun _ h => h.elim) (fun k hk => Nat.le_trans HN8.out hk) HB.out HB.out.size (by have := HCL.out; simp only [List.length_cons, List.length_nil]; omega) ?_; intro v44 w44 ho hb hg hat; have H44 := Aside0.mk ho; obtain ⟨A44, n44, c44, e44⟩ : ∃ A n c, v44 = Value.slice A n c := (by obtain ⟨A, c, e⟩ := Kd.R_slice ho; exact ⟨A, _, c, e⟩); subst e44; have n0 := Aside0.mk hb; have n1 := Aside0.mk (Kd.R_grown HP.out hg (fun k ok e => by have := H42.out.1 k e.symm; have := HN8b.out; omega)); have n2_ := Aside0.mk (Kd.R_grown HO.out hg (fun k ok e => by have := H42.out.1 k e.symm; omega)); have n3 := Aside0.mk (Nat.le_trans HN.out hg.size); have n5 := Aside0.mk (Nat.le_trans HN8.out hg.size); clear HB HP HO HN HCP HN8 H42 ho hb hg hat; have HB := n0; have HP := n1; have HO := n2_; have HN := n3; have HN8 := n5; clear n0 n1 n2_ n3 n5) | ((with_reducible refine gate_builtin (b := .append) (xs := #[.tmp 39, .tmp 45]) rfl ?_); at_builtin; refine Kd.R_append kRow (w0 := w) w.heap.size rfl (.tmp 39) (.tmp 45) 36 31 (.slice none 0 0) 24 rfl Try.underlying36 row_infoS rfl (by decide) (by omega) u5 (msgs l i) (msg l i) [.slice A44 n44 c44] (fun k => n2 ≤ k) (fun k => n8 ≤ k) rfl (by first | (go_simp; done) | (go_simp; rfl)) ⟨.slice A44 n44 c44, rfl, by rw [HMSG.out]; exact H44.out⟩ (fun k hk => ⟨Nat.le_trans HN8b.out hk, fun e => by have := HO8.out k e.symm; omega⟩) (fun k hk => Nat.le_trans HN.out hk) (Kd.R_mono HO.out (fun k hk => hk.1)) HB.out HB.out.size (by have := HLM.out; simp only [msgs, List.length_map, List.length_range]; omega) ?_; intro v46 w46 ho hb hg hat; rw [← msgs_succ] at ho; have n0 := Aside0.mk hb; have n1 := Aside0.mk (Kd.R_grown HP.out hg (fun k ok e => by have := HOL.out k e.symm; omega)); have n2_ := Aside0.mk ho; have n3 := Aside0.mk (Nat.le_trans HN.out hg.size); clear HB HP HO HN HN8 H44 ho hb hg hat; have HB := n0; have HP := n1; have HO := n2_; have HN := n3; clear n0 n1 n2_ n3) | fail)
              go_roundw
              exact ⟨i + 1, by simp, by omega, HP, HO, HN, HB⟩
              case measure => simp only [intOf]; omega
        · obtain rfl : mc = i := by omega
          have hltb : decide ((mc : Int) < (mc : Int)) = false := decide_eq_false (by omega)
          rw [HMD.out] at HO
          go_wp2
          go_ret2
          exact ⟨_, ⟨by simp, Kd.R_mono HO.out (fun _ _ => trivial)⟩, HB.out⟩
  · have hb1 : decide ((l.length : Int) > 65536) = true := decide_eq_true (by omega)
    have hb2 : decide ((65536 : Int) < (l.length : Int)) = true := decide_eq_true (by omega)
    simp only [if_neg hbig]
    go_enter Try.func16, Try.ntmps16
    go_wp2
    go_ret2
    exact ⟨.slice none 0 0, by simp, Below.refl _ _⟩
end Go.Proofs.Ytfplmoeahbjfmaa.P

-- YtfplmoeahbjfmaaP0
namespace Go.Proofs.Ytfplmoeahbjfmaa.P
open Go.RowKit Go.Proofs.YtfplmoeahbjfmaaW.PrintWords Go.Proofs.YtfplmoeahbjfmaaW.PrintLast Go.Proofs.YtfplmoeahbjfmaaW.PrintMore
attribute [local go_sem] max2_int min2_int max_two min_two max_three min_three max_four min_four   -- for this text's walks alone
set_option linter.unusedVariables false
set_option linter.unusedSimpArgs false



def errW : Option Int → Value
  | none => .nilIface
  | some c => .iface 0 (.int .i64 c)
theorem errW_none : errW none = .nilIface := rfl
theorem errW_some (c : Int) : errW (some c) = .iface 0 (.int .i64 c) := rfl

theorem info5 : (Try.prog.info? 5).map (fun i => (i.zero, i.size, i.bytes)) = some (some (.int .u8 0), 1, 1) := by kernel_rfl
theorem info31 : (Try.prog.info? 31).map (fun i => (i.zero, i.size, i.bytes)) = some (some (.slice none 0 0), 1, 24) := by kernel_rfl
-- the values' own types
def rd_L1 (xs : List (List Int)) (i : Int) : (List Int) := xs.getD i.toNat ([] : List Int)
theorem at_L1 {w : World} {A : Option Addr} {n : Nat} {xs : List (List Int)} (h : Kd.C (Kd.slice 5 (Kd.int .u8)) w A n xs) (i : Int) (h0 : 0 ≤ i) (h1 : i < n) : ∃ ad A0 c0, A = some ad ∧ w.cell? (ad.add i.toNat) = some (.slice A0 (rd_L1 xs i).length c0) ∧ (rd_L1 xs i).length ≤ c0 ∧ (Kd.int .u8).C w A0 (rd_L1 xs i).length (rd_L1 xs i) := by
  obtain ⟨ad, c, e, _, hK, hc0⟩ := Kd.C_get h ([] : List Int) i h0 h1
  have hc : ∀ j u, c[j]? = some u → w.cell? (ad.add (i.toNat * 1 + j)) = some u := hc0
  obtain ⟨A0, c0, rfl, l0, g0⟩ := hK
  exact ⟨ad, A0, c0, e, by have hq := hc 0 _ rfl; rwa [Nat.mul_one, Nat.add_zero] at hq, l0, g0⟩

/-! #### struct type 50 -/
structure S50 where
  f0 : (List Int)
  f1 : (List Int)
  f2 : Int
def z50 : S50 := ⟨([] : List Int), ([] : List Int), (0 : Int)⟩
def k50 : Kd S50 := Kd.iso (Kd.pair (Kd.slice 5 (Kd.int .u8)) (Kd.pair (Kd.slice 5 (Kd.int .u8)) (Kd.int .i64))) (fun x : S50 => (x.f0, x.f1, x.f2))
theorem k50_open {w : World} {x : S50} {cs : List Value} (h : k50.K w x cs) : ∃ A0 c0 A1 c1, cs = [.slice A0 x.f0.length c0, .slice A1 x.f1.length c1, .int .i64 x.f2] ∧ x.f0.length ≤ c0 ∧ (Kd.int .u8).C w A0 x.f0.length x.f0 ∧ x.f1.length ≤ c1 ∧ (Kd.int .u8).C w A1 x.f1.length x.f1 := by
  obtain ⟨_, _, rfl, ⟨A0, c0, rfl, l0, g0⟩, ⟨_, _, rfl, ⟨A1, c1, rfl, l1, g1⟩, rfl⟩⟩ := h
  exact ⟨A0, c0, A1, c1, rfl, l0, g0, l1, g1⟩
theorem k50_openM {w : World} {base : Nat} {ok : Nat → Prop} {x : S50} {cs : List Value} (h : k50.M w base ok x cs) : ∃ v0 v1, cs = [v0, v1, .int .i64 x.f2] ∧ (Kd.int .u8).R 5 w base ok v0 x.f0 ∧ (Kd.int .u8).R 5 w base ok v1 x.f1 := by
  obtain ⟨_, _, rfl, ⟨v0, rfl, g0⟩, ⟨_, _, rfl, ⟨v1, rfl, g1⟩, rfl⟩⟩ := h
  exact ⟨v0, v1, rfl, g0, g1⟩
theorem k50_mk (w : World) (x : S50) {A0 : Option Addr} {c0 : Nat} (l0 : x.f0.length ≤ c0) (g0 : (Kd.int .u8).C w A0 x.f0.length x.f0) {A1 : Option Addr} {c1 : Nat} (l1 : x.f1.length ≤ c1) (g1 : (Kd.int .u8).C w A1 x.f1.length x.f1) : k50.K w x [.slice A0 x.f0.length c0, .slice A1 x.f1.length c1, .int .i64 x.f2] := ⟨[.slice A0 x.f0.length c0], [.slice A1 x.f1.length c1, .int .i64 x.f2], rfl, ⟨A0, c0, rfl, l0, g0⟩, ⟨[.slice A1 x.f1.length c1], [.int .i64 x.f2], rfl, ⟨A1, c1, rfl, l1, g1⟩, rfl⟩⟩
theorem k50_mkM (w : World) (base : Nat) (ok : Nat → Prop) (x : S50) {v0 : Value} (g0 : (Kd.int .u8).R 5 w base ok v0 x.f0) {v1 : Value} (g1 : (Kd.int .u8).R 5 w base ok v1 x.f1) : k50.M w base ok x [v0, v1, .int .i64 x.f2] := ⟨[v0], [v1, .int .i64 x.f2], rfl, ⟨v0, rfl, g0⟩, ⟨[v1], [.int .i64 x.f2], rfl, ⟨v1, rfl, g1⟩, rfl⟩⟩
def rd_T50 (xs : List S50) (i : Int) : S50 := xs.getD i.toNat z50
theorem at_T50 {w : World} {A : Option Addr} {n : Nat} {xs : List S50} (h : Kd.C k50 w A n xs) (i : Int) (h0 : 0 ≤ i) (h1 : i < n) : ∃ ad A0 c0 A1 c1, A = some ad ∧ w.cell? (ad.add (i.toNat * 3)) = some (.slice A0 (rd_T50 xs i).f0.length c0) ∧ w.cell? ⟨(ad.add (i.toNat * 3)).block, (ad.add (i.toNat * 3)).off + 1, none⟩ = some (.slice A1 (rd_T50 xs i).f1.length c1) ∧ w.cell? ⟨(ad.add (i.toNat * 3)).block, (ad.add (i.toNat * 3)).off + 2, none⟩ = some (.int .i64 (rd_T50 xs i).f2) ∧ (rd_T50 xs i).f0.length ≤ c0 ∧ (Kd.int .u8).C w A0 (rd_T50 xs i).f0.length (rd_T50 xs i).f0 ∧ (rd_T50 xs i).f1.length ≤ c1 ∧ (Kd.int .u8).C w A1 (rd_T50 xs i).f1.length (rd_T50 xs i).f1 := by
  obtain ⟨ad, c, e, _, hK, hc0⟩ := Kd.C_get h z50 i h0 h1
  have hc : ∀ j u, c[j]? = some u → w.cell? (ad.add (i.toNat * 3 + j)) = some u := hc0
  obtain ⟨A0, c0, A1, c1, rfl, l0, g0, l1, g1⟩ := k50_open hK
  exact ⟨ad, A0, c0, A1, c1, e, hc 0 _ rfl, by rw [← add_field _ _ 1 (by omega)]; exact hc 1 _ rfl, by rw [← add_field _ _ 2 (by omega)]; exact hc 2 _ rfl, l0, g0, l1, g1⟩

/-! #### struct type 61 -/
structure S61 where
  f0 : ByteArray
  f1 : ByteArray
  f2 : Int
def z61 : S61 := ⟨(⟨#[]⟩ : ByteArray), (⟨#[]⟩ : ByteArray), (0 : Int)⟩
def k61 : Kd S61 := Kd.iso (Kd.pair Kd.string (Kd.pair Kd.string (Kd.int .i64))) (fun x : S61 => (x.f0, x.f1, x.f2))
theorem k61_open {w : World} {x : S61} {cs : List Value} (h : k61.K w x cs) : cs = [.string x.f0, .string x.f1, .int .i64 x.f2] := by
  obtain ⟨_, _, rfl, rfl, ⟨_, _, rfl, rfl, rfl⟩⟩ := h
  exact rfl
theorem k61_openM {w : World} {base : Nat} {ok : Nat → Prop} {x : S61} {cs : List Value} (h : k61.M w base ok x cs) : cs = [.string x.f0, .string x.f1, .int .i64 x.f2] := by
  obtain ⟨_, _, rfl, rfl, ⟨_, _, rfl, rfl, rfl⟩⟩ := h
  exact rfl
theorem k61_mk (w : World) (x : S61)  : k61.K w x [.string x.f0, .string x.f1, .int .i64 x.f2] := ⟨[.string x.f0], [.string x.f1, .int .i64 x.f2], rfl, rfl, ⟨[.string x.f1], [.int .i64 x.f2], rfl, rfl, rfl⟩⟩
theorem k61_mkM (w : World) (base : Nat) (ok : Nat → Prop) (x : S61)  : k61.M w base ok x [.string x.f0, .string x.f1, .int .i64 x.f2] := ⟨[.string x.f0], [.string x.f1, .int .i64 x.f2], rfl, rfl, ⟨[.string x.f1], [.int .i64 x.f2], rfl, rfl, rfl⟩⟩
def rd_T61 (xs : List S61) (i : Int) : S61 := xs.getD i.toNat z61
theorem at_T61 {w : World} {A : Option Addr} {n : Nat} {xs : List S61} (h : Kd.C k61 w A n xs) (i : Int) (h0 : 0 ≤ i) (h1 : i < n) : ∃ ad , A = some ad ∧ w.cell? (ad.add (i.toNat * 3)) = some (.string (rd_T61 xs i).f0) ∧ w.cell? ⟨(ad.add (i.toNat * 3)).block, (ad.add (i.toNat * 3)).off + 1, none⟩ = some (.string (rd_T61 xs i).f1) ∧ w.cell? ⟨(ad.add (i.toNat * 3)).block, (ad.add (i.toNat * 3)).off + 2, none⟩ = some (.int .i64 (rd_T61 xs i).f2) := by
  obtain ⟨ad, c, e, _, hK, hc0⟩ := Kd.C_get h z61 i h0 h1
  have hc : ∀ j u, c[j]? = some u → w.cell? (ad.add (i.toNat * 3 + j)) = some u := hc0
  obtain rfl := k61_open hK
  exact ⟨ad, e, hc 0 _ rfl, by rw [← add_field _ _ 1 (by omega)]; exact hc 1 _ rfl, by rw [← add_field _ _ 2 (by omega)]; exact hc 2 _ rfl⟩

end Go.Proofs.Ytfplmoeahbjfmaa.P

-- YtfplmoeahbjfmaaP6
namespace Go.Proofs.Ytfplmoeahbjfmaa.P
open Go.RowKit Go.Proofs.YtfplmoeahbjfmaaW.PrintWords Go.Proofs.YtfplmoeahbjfmaaW.PrintLast Go.Proofs.YtfplmoeahbjfmaaW.PrintMore
attribute [local go_sem] max2_int min2_int max_two min_two max_three min_three max_four min_four   -- for this text's walks alone
set_option linter.unusedVariables false
set_option linter.unusedSimpArgs false

/-! ### bytes_Clone: function 34 -/
def bytes_Clone.f (l0 : List Int) : Option (List Int) := if l0.length < 140737488355328 then some l0 else none
set_option maxHeartbeats 8000000 in
set_option maxRecDepth 100000 in
theorem bytes_Clone.calls (A0 : Option Addr) (c0 : Nat) (l0 : List Int) (r : List Int) (w : World) (hr0 : Kd.C (Kd.int .u8) w A0 l0.length l0) (hc0 : l0.length ≤ c0) (h : bytes_Clone.f l0 = some r) :
    Calls Try.prog 34 #[.slice A0 l0.length c0] w fun e w' => ∃ v0_ : Value, e = .returned (v0_) ∧ Kd.R (Kd.int .u8) 5 w' w.heap.size (fun _ => True) v0_ r ∧ Below w.heap.size w w' := by
  have HR0 := Aside0.mk hr0
  have HC0 := Aside0.mk hc0
  have HB := Aside0.mk (Below.refl w.heap.size w)
  unfold bytes_Clone.f at h
  by_cases c3 : l0.length < 140737488355328
  · rw [if_pos c3] at h
    obtain rfl := Option.some.inj h
    clear h
    cases A0 with
    | none =>
      have hl : l0 = [] := nil_of_none hr0
      subst hl
      have heq := fun wx => Lib.run_eql_slice_nil (P := Try.prog) wx 31 5 none 0 c0 0 0 Try.underlying31
      clear hr0 hc0
      go_enter Try.func34, Try.ntmps34
      go_wp2
      go_ret
      exact ⟨_, rfl, Kd.R_nil _ _ _ _ _, HB.out⟩
    | some a =>
      obtain ⟨y1, hy1⟩ : ∃ y_ : List Int, y_ = (([] : List Int)) := ⟨_, rfl⟩
      have Ny1 := Aside0.mk hy1
      have hr : l0 = y1 ++ l0 := by rw [hy1]; rfl
      have Nr := Aside0.mk hr
      have LM := Aside0.mk c3
      have hlen : y1.length = 0 := by rw [hy1]; rfl
      have NL := Aside0.mk hlen
      have heq := fun wx => Lib.run_eql_slice_nil (P := Try.prog) wx 31 5 (some a) l0.length c0 0 0 Try.underlying31
      clear hr0 hc0 hy1 hr c3 hlen
      go_enter Try.func34, Try.ntmps34
      go_wp2_with (first | ((with_reducible refine gate_dst (N := 5) rfl ?_); refine Kd.R_lit (Kd.int .u8) _ 5 ?hg (N := 5) ?hd (xs := ([] : List Int)) (inner := []) (ok := fun _ => True) (okp := fun _ => True) ?hr ?hp (fun _ hk => hk) trivial (Below.refl _ _) (Nat.le_refl _) (by simp) ?_; (case hd => rfl); (case hg => rfl); (case hr => first | (go_simp; done) | (go_simp; rfl)); (case hp => exact (Reps.none _ _)); intro v1 w5 ho6 hb hg_ hnew_; clear hg_ hnew_; rw [← Ny1.out] at ho6; have n0_ := Aside0.mk (Kd.R_lower ho6 (below_size (by repeat (first | (with_reducible first | exact HB.out | apply below_alloc | apply pw_below_drewN | apply below_drew1) | exact HB.out)))); have n1_ := Aside0.mk (below_step (by repeat (first | (with_reducible first | exact HB.out | apply below_alloc | apply pw_below_drewN | apply below_drew1) | exact HB.out)) hb); clear HB; have HO1 := n0_; have HB := n1_; clear n0_ n1_; clear hb ho6) | ((with_reducible refine gate_builtin (b := .append) (xs := #[.tmp 5, .tmp 6]) rfl ?_); at_builtin; refine Kd.R_append_rows (Kd.int .u8) (w0 := w) w.heap.size rfl (.tmp 5) (.tmp 6) 31 5 (.int .u8 0) 1 rfl Try.underlying31 info5 rfl (by decide) (by omega) v1 y1 l0 _ _ _ (fun _ => True) (fun _ => False) rfl rfl ?aO ?aR (fun _ _ h => h) (fun _ h => h.elim) ?aF ?aB ?aS ?aL ?_; (case aR => repeat (first | exact (Kd.C_below HR0.out HB.out) | (with_reducible refine Kd.C_alloc ?_ _) | (with_reducible refine Kd.C_drewN ?_ _) | (with_reducible refine Kd.C_drew ?_))); (case aB => exact (by repeat (first | (with_reducible first | exact HB.out | apply below_alloc | apply pw_below_drewN | apply below_drew1) | exact HB.out))); (case aF => exact (fun _ _ => trivial)); (case aO => exact (by (with_reducible repeat (first | apply Kd.R_alloc | apply Kd.R_drewN | apply Kd.R_drew)); exact HO1.out)); (case aS => exact (below_size (by repeat (first | (with_reducible first | exact HB.out | apply below_alloc | apply pw_below_drewN | apply below_drew1) | exact HB.out)))); (case aL => have := LM.out; have := NL.out; omega); intro v114 w7 ho hb hg hat; rw [← Nr.out] at ho; have n0_ := Aside0.mk (hb); have n1_ := Aside0.mk (ho); clear HB; clear HO1; have HB := n0_; have HO115 := n1_; clear n0_ n1_; clear ho hb hg hat))
      go_ret
      exact ⟨_, rfl, HO115.out, HB.out⟩
  · rw [if_neg c3] at h
    exact absurd h (by simp)

end Go.Proofs.Ytfplmoeahbjfmaa.P

-- YtfplmoeahbjfmaaPCChan0
namespace Go.Proofs.Ytfplmoeahbjfmaa.P
open Go Go.Proofs Go.RowKit Go.Shelf Go.Proofs.YtfplmoeahbjfmaaW.PrintWords Go.Proofs.YtfplmoeahbjfmaaW.PrintLast Go.Proofs.YtfplmoeahbjfmaaW.PrintMore
set_option linter.unusedVariables false
set_option linter.unusedSimpArgs false

/-- A datagram under way: as it is, as it was put, since when. -/
abbrev Fl := List Int × (List Int × Int)
abbrev kFl : Kd Fl := Kd.pair (Kd.slice 5 (Kd.int .u8)) (Kd.pair (Kd.slice 5 (Kd.int .u8)) (Kd.int .i64))
theorem fl_info : (Try.prog.info? 50).map (fun i => (i.zero, i.size, i.bytes)) = some (some (.agg #[.slice none 0 0, .slice none 0 0, .int .i64 0]), 3, 56) := by kernel_rfl
theorem fl_size : (Try.prog.info? 50).map (·.size) = some 3 := by kernel_rfl
/-- The channel at block g: how long datagrams live, the step, the row of datagrams (from n₀ on). -/
structure CS (w : World) (n₀ g : Nat) (age now : Int) (v : Value) (L : List Fl) : Prop where
  blk : w.heap[g]? = some (.cells #[.int .i64 age, .int .i64 now, v] 67 (0, 0))
  row : Kd.R kFl 50 w n₀ (fun _ => True) v L
  low : n₀ ≤ g
variable {w w' : World} {n₀ g : Nat} {age now : Int} {v v' : Value} {L L' : List Fl}
theorem CS.lt (h : CS w n₀ g age now v L) : g < w.heap.size := blk_lt h.blk
theorem CS.ne (h : CS w n₀ g age now v L) : some g ≠ v.ownBlock := Kd.R_ne h.row h.blk (by decide)
theorem CS.own (h : CS w n₀ g age now v L) : ∀ b, v.ownBlock = some b → n₀ ≤ b ∧ b < w.heap.size := by
  intro b hb
  obtain ⟨inner, ho⟩ := Kd.R_own h.row
  exact ⟨own_base ho b hb, own_lt ho b hb⟩
theorem CS.below (h : CS w n₀ g age now v L) (hb : Below w.heap.size w w') : CS w' n₀ g age now v L := ⟨(hb.block g h.lt).trans h.blk, Kd.R_below h.row hb, h.low⟩
theorem CS.now_ (h : CS w n₀ g age now v L) (now' : Int) : CS (w.setCell ⟨g, 1, none⟩ (.int .i64 now')) n₀ g age now' v L :=
  ⟨blk_put h.blk 1 _ rfl, Kd.R_set h.row h.blk (by decide) 1 _, h.low⟩
/-- Behind what was done to the row (the channel's block is as it was), the row's value stored. -/
theorem CS.rowed {w2 : World} (h : CS w n₀ g age now v L) (hr : Kd.R kFl 50 w2 n₀ (fun _ => True) v' L') (hg : w.grownBy w2 v.ownBlock) (hat : v'.ownBlock = v.ownBlock ∨ (∃ b, v'.ownBlock = some b ∧ w.heap.size ≤ b) ∨ v'.ownBlock = none) :
    CS (w2.setCell ⟨g, 2, none⟩ v') n₀ g age now v' L' ∧ Fr g v w (w2.setCell ⟨g, 2, none⟩ v') ∧ Newer w v v' := by
  have hb2 : w2.heap[g]? = some (.cells #[.int .i64 age, .int .i64 now, v] 67 (0, 0)) := (hg.block g h.lt h.ne).trans h.blk
  refine ⟨⟨blk_put hb2 2 _ rfl, Kd.R_set hr hb2 (by decide) 2 _, h.low⟩, ⟨hg.os, hg.tape, hg.output, by simpa using hg.size, fun k hk hkg hkv => ?_⟩, ?_⟩
  · rw [Below.heap_setCell w2 ⟨g, 2, none⟩ v' k hkg]; exact hg.block k hk hkv
  · rcases hat with e | ⟨b, e, hb⟩ | e
    · exact .inl e
    · exact .inr fun b' hb' => by rw [e] at hb'; injection hb' with hb'; omega
    · exact .inr fun b' hb' => by rw [e] at hb'; cases hb'
theorem CS.slice (h : CS w n₀ g age now v L) : ∃ A c, v = .slice A L.length c := Kd.R_slice h.row
set_option maxRecDepth 100000 in
set_option maxHeartbeats 4000000 in
theorem cnew_calls (w : World) (n₀ : Nat) (age : Int) (hn : n₀ ≤ w.heap.size) (h1 : 1 ≤ age) (h2 : age ≤ 1000) : Calls Try.prog 10 #[.int .i64 age] w fun e w' => ∃ g, e = .returned (.tuple #[.pointer (some ⟨g, 0, none⟩), .int .i64 0]) ∧ g = w.heap.size ∧ CS w' n₀ g age 0 (.slice none 0 0) [] ∧ Below w.heap.size w w' := by
  have d1 : decide (age < 1) = false := decide_eq_false (by omega)
  have d2 : decide (age > 1000) = false := decide_eq_false (by omega)
  have d3 : decide (1000 < age) = false := decide_eq_false (by omega)
  go_enter Try.func10, Try.ntmps10
  go_wp2
  go_ret2
  exact ⟨w.heap.size, by simp, rfl, ⟨blk_new _ _, Kd.R_nil _ _ _ _ _, hn⟩, below_alloc (Below.refl _ _) _⟩
set_option maxRecDepth 100000 in
set_option maxHeartbeats 4000000 in
theorem cnew_bad (w : World) (age : Int) (h : age < 1 ∨ 1000 < age) : Calls Try.prog 10 #[.int .i64 age] w fun e w' => e = .returned (.tuple #[.pointer none, .int .i64 1]) ∧ w = w' := by
  by_cases h1 : age < 1
  · have d1 : decide (age < 1) = true := decide_eq_true (by omega)
    go_enter Try.func10, Try.ntmps10
    go_wp2
    go_ret2
    exact ⟨by simp, rfl⟩
  · have d1 : decide (age < 1) = false := decide_eq_false (by omega)
    have d2 : decide (age > 1000) = true := decide_eq_true (by omega)
    have d3 : decide (1000 < age) = true := decide_eq_true (by omega)
    go_enter Try.func10, Try.ntmps10
    go_wp2
    go_ret2
    exact ⟨by simp, rfl⟩
set_option maxRecDepth 100000 in
set_option maxHeartbeats 4000000 in
theorem clen_calls (h : CS w n₀ g age now v L) : Calls Try.prog 14 #[.pointer (some ⟨g, 0, none⟩)] w fun e w' => e = .returned (.int .i64 (L.length : Int)) ∧ w = w' := by
  obtain ⟨A, c, e⟩ := h.slice
  subst e
  have hc : w.cell? ⟨g, 2, none⟩ = some (.slice A L.length c) := blk_cell h.blk 2
  clear h
  go_enter Try.func14, Try.ntmps14
  go_wp2
  go_ret
  exact ⟨by simp, rfl⟩
set_option maxRecDepth 100000 in
set_option maxHeartbeats 4000000 in
theorem cnow_calls (h : CS w n₀ g age now v L) : Calls Try.prog 28 #[.pointer (some ⟨g, 0, none⟩)] w fun e w' => e = .returned (.int .i64 now) ∧ w = w' := by
  have hc : w.cell? ⟨g, 1, none⟩ = some (.int .i64 now) := blk_cell h.blk 1
  clear h
  go_enter Try.func28, Try.ntmps28
  go_wp2
  go_ret
  exact ⟨by simp, rfl⟩
/-- What has says. -/
def hasE (n : Nat) (k : Int) : Int := if 0 ≤ k ∧ k < n then 0 else 9
set_option maxRecDepth 100000 in
set_option maxHeartbeats 4000000 in
theorem chas_calls (h : CS w n₀ g age now v L) (k : Int) : Calls Try.prog 37 #[.pointer (some ⟨g, 0, none⟩), .int .i64 k] w fun e w' => e = .returned (.int .i64 (hasE L.length k)) ∧ w = w' := by
  obtain ⟨A, c, e⟩ := h.slice
  subst e
  have hc : w.cell? ⟨g, 2, none⟩ = some (.slice A L.length c) := blk_cell h.blk 2
  clear h
  by_cases h0 : k < 0
  · have d0 : decide (k < 0) = true := decide_eq_true h0
    have e : hasE L.length k = 9 := by unfold hasE; rw [if_neg (by omega)]
    rw [e]
    go_enter Try.func37, Try.ntmps37
    go_wp2
    go_ret
    exact ⟨by simp, rfl⟩
  · have d0 : decide (k < 0) = false := decide_eq_false h0
    by_cases h1 : (L.length : Int) ≤ k
    · have d1 : decide ((L.length : Int) ≤ k) = true := decide_eq_true h1
      have e : hasE L.length k = 9 := by unfold hasE; rw [if_neg (by omega)]
      rw [e]
      go_enter Try.func37, Try.ntmps37
      go_wp2
      go_ret
      exact ⟨by simp, rfl⟩
    · have d1 : decide ((L.length : Int) ≤ k) = false := decide_eq_false h1
      have e : hasE L.length k = 0 := by unfold hasE; rw [if_pos (by omega)]
      rw [e]
      go_enter Try.func37, Try.ntmps37
      go_wp2
      go_ret
      exact ⟨by simp, rfl⟩
end Go.Proofs.Ytfplmoeahbjfmaa.P

-- YtfplmoeahbjfmaaPCPut
namespace Go.Proofs.Ytfplmoeahbjfmaa.P
open Go Go.Proofs Go.RowKit Go.Shelf Go.Proofs.YtfplmoeahbjfmaaW.PrintWords Go.Proofs.YtfplmoeahbjfmaaW.PrintLast Go.Proofs.YtfplmoeahbjfmaaW.PrintMore
set_option linter.unusedVariables false
set_option linter.unusedSimpArgs false

variable {n₀ g : Nat} {age now : Int} {v : Value} {L : List Fl}
def putC (now : Int) (b : List Int) (L : List Fl) : List Fl := if L.length < 4096 then L ++ [(b, b, now)] else L
def PutPost (w : World) (n₀ g : Nat) (age now : Int) (v : Value) (L : List Fl) (e : Ending) (w' : World) : Prop := e = .returned (.tuple #[]) ∧ ∃ v', CS w' n₀ g age now v' L ∧ Fr g v w w' ∧ Newer w v v'
def put1.T : Bool × List (List Nat × List Nat) := (true, [([], []), ([], []), ([1], [1]), ([2], [2]), ([3], [3]), ([], []), ([5], [5]), ([], []), ([7, 6], [7]), ([], []), ([9], [9]), ([10], [10]), ([11], [11]), ([6, 8, 12], [6, 8, 12]), ([13], [13]), ([4, 14, 8], [4, 14]), ([0, 0, 1, 2, 3, 4, 5, 6, 7, 8, 9, 10, 11, 12, 13, 14, 15], [0]), ([16, 0, 1, 2, 3, 4, 5, 6, 7, 8, 9, 10, 11, 12, 13, 14, 15], [16]), ([17, 15, 15, 0, 1, 2, 3, 4, 5, 6, 7, 8, 9, 10, 11, 12, 13, 14, 15], [15, 17])])
def put1.B : List Nat := [0, 0, 2, 6, 14, 0, 32, 0, 224, 0, 512, 1536, 3584, 8160, 16352, 32766, 65535, 131071, 262143]
theorem put1.tab : rtab .any (opsOf Try.f12 1) = put1.T := by kernel_rfl
theorem put1.bits : waitsOk put1.T.2 put1.B = true := by kernel_rfl
set_option maxRecDepth 100000 in
set_option maxHeartbeats 8000000 in
theorem put_calls {w : World} (h : CS w n₀ g age now v L) (A : Option Addr) (c : Nat) (b : List Int) (hr : Kd.C (Kd.int .u8) w A b.length b) (hc : b.length ≤ c) (hb : b.length ≤ 100000) :
    Calls Try.prog 12 #[.pointer (some ⟨g, 0, none⟩), .slice A b.length c] w fun e w' => e = .returned (.tuple #[]) ∧ ∃ v', CS w' n₀ g age now v' (putC now b L) ∧ Fr g v w w' ∧ Newer w v v' := by
  obtain ⟨Af, cf, e⟩ := h.slice
  subst e
  have hc2 : w.cell? ⟨g, 2, none⟩ = some (.slice Af L.length cf) := blk_cell h.blk 2
  by_cases hlt : L.length < 4096
  · have e0 : putC now b L = L ++ [(b, b, now)] := by unfold putC; rw [if_pos hlt]
    rw [e0]
    have hlb : decide ((L.length : Int) < 4096) = true := decide_eq_true (by omega)
    have hbd : Below w.heap.size w w.drew := below_drew1 (Below.refl _ _)
    have HC := Aside0.mk (h.below hbd)
    have HR := Aside0.mk (Kd.C_below hr hbd)
    have HF := Aside0.mk hbd
    obtain ⟨nL, hnL⟩ : ∃ nL, nL = L.length := ⟨_, rfl⟩
    rw [← hnL] at hc2 hlb ⊢
    have HNL := Aside0.mk hnL
    have HS := Aside0.mk (show w.drew.cell? ⟨g, 2, none⟩ = some (.slice Af nL cf) ∧ w.drew.cell? ⟨g, 1, none⟩ = some (.int .i64 now) from ⟨hc2, blk_cell h.blk 1⟩)
    have HLT := Aside0.mk hlt
    obtain ⟨nb, hnb⟩ : ∃ nb, nb = b.length := ⟨_, rfl⟩
    have HNB := Aside0.mk hnb
    rw [← hnb] at hc ⊢
    clear h hr hbd hnL hlt hnb
    go_enter Try.func12, Try.ntmps12
    go_wp2_with fail
    clear hc2
    have HB := Aside0.mk (Below.refl w.drew.heap.size w.drew)
    refine start_ (n := 19) (S := (fun w' => w'.cell? ⟨g, 2, none⟩ = some (.slice Af nL cf) ∧ w'.cell? ⟨g, 1, none⟩ = some (.int .i64 now))) (ds := [18]) #[false, false, false, false, false, false, false, false, false, false, false, false, false, false, false, false, false, false, false] (by kernel_rfl) rfl rfl HS.out (fun hHeld => ?_)
    refine with_tabW put1.tab put1.bits (fun HT_ HW_ => ?_)
    refine pure_ (i := 0) (N := some 14) (v := ?_) (a' := ?_) #[true, false, false, false, false, false, false, false, false, false, false, false, false, false, false, false, false, false, false] rfl rfl (any_of HT_.out (by kernel_rfl)) (fun _ _ _ h => h) (Or.inl ⟨by rfl, ?_⟩) ?_ ?_
    rotate_left
    · intro w'
      go_simp
      with_reducible rfl
    rotate_left
    · simp only [Act.put, List.setIfInBounds_toArray, List.set_cons_zero, List.set_cons_succ, i64_w, i32_w]
      rfl
    refine pure_ (i := 1) (N := some 15) (v := ?_) (a' := ?_) #[true, true, false, false, false, false, false, false, false, false, false, false, false, false, false, false, false, false, false] rfl rfl (any_of HT_.out (by kernel_rfl)) (fun _ _ _ h => h) (Or.inl ⟨by rfl, ?_⟩) ?_ ?_
    rotate_left
    · intro w'
      go_simp
      with_reducible rfl
    rotate_left
    · simp only [Act.put, List.setIfInBounds_toArray, List.set_cons_zero, List.set_cons_succ, i64_w, i32_w]
      rfl
    refine pure_ (i := 2) (N := some 16) (v := ?_) (a' := ?_) #[true, true, true, false, false, false, false, false, false, false, false, false, false, false, false, false, false, false, false] rfl rfl (any_of HT_.out (by kernel_rfl)) (fun _ _ _ h => h) (Or.inl ⟨by rfl, ?_⟩) ?_ ?_
    rotate_left
    · intro w'
      go_simp
      with_reducible rfl
    rotate_left
    · simp only [Act.put, List.setIfInBounds_toArray, List.set_cons_zero, List.set_cons_succ, i64_w, i32_w]
      rfl
    refine pure_ (i := 3) (N := some 17) (v := ?_) (a' := ?_) #[true, true, true, true, false, false, false, false, false, false, false, false, false, false, false, false, false, false, false] rfl rfl (any_of HT_.out (by kernel_rfl)) (fun _ _ _ h => h) (Or.inl ⟨by rfl, ?_⟩) ?_ ?_
    rotate_left
    · intro w'
      go_simp
      with_reducible rfl
    rotate_left
    · simp only [Act.put, List.setIfInBounds_toArray, List.set_cons_zero, List.set_cons_succ, i64_w, i32_w]
      rfl
    refine take_ (i := 4) (N := some 18) (v := ?_) (a' := ?_) #[true, true, true, true, true, false, false, false, false, false, false, false, false, false, false, false, false, false, false] rfl rfl (take_ofW HT_.out HW_.out (by kernel_rfl)) (fun _ _ _ h => h) (Or.inl ⟨by rfl, ?_⟩) hHeld ?_ ?_
    rotate_left
    · rintro w' ⟨s0, s1⟩
      go_simp
      with_reducible rfl
    rotate_left
    · simp only [Act.put, List.setIfInBounds_toArray, List.set_cons_zero, List.set_cons_succ, i64_w, i32_w]
      rfl
    refine pure_ (i := 5) (N := some 19) (v := ?_) (a' := ?_) #[true, true, true, true, true, true, false, false, false, false, false, false, false, false, false, false, false, false, false] rfl rfl (any_of HT_.out (by kernel_rfl)) (fun _ _ _ h => h) (Or.inl ⟨by rfl, ?_⟩) ?_ ?_
    rotate_left
    · intro w'
      go_simp
      with_reducible rfl
    rotate_left
    · simp only [Act.put, List.setIfInBounds_toArray, List.set_cons_zero, List.set_cons_succ, i64_w, i32_w]
      rfl
    refine pure_ (i := 7) (N := some 21) (v := ?_) (a' := ?_) #[true, true, true, true, true, true, false, true, false, false, false, false, false, false, false, false, false, false, false] rfl rfl (any_of HT_.out (by kernel_rfl)) (fun _ _ _ h => h) (Or.inl ⟨by rfl, ?_⟩) ?_ ?_
    rotate_left
    · intro w'
      go_simp
      with_reducible rfl
    rotate_left
    · simp only [Act.put, List.setIfInBounds_toArray, List.set_cons_zero, List.set_cons_succ, i64_w, i32_w]
      rfl
    refine pure_ (i := 9) (N := some 23) (v := ?_) (a' := ?_) #[true, true, true, true, true, true, false, true, false, true, false, false, false, false, false, false, false, false, false] rfl rfl (any_of HT_.out (by kernel_rfl)) (fun _ _ _ h => h) (Or.inl ⟨by rfl, ?_⟩) ?_ ?_
    rotate_left
    · intro w'
      go_simp
      with_reducible rfl
    rotate_left
    · simp only [Act.put, List.setIfInBounds_toArray, List.set_cons_zero, List.set_cons_succ, i64_w, i32_w]
      rfl
    refine pure_ (i := 10) (N := some 24) (v := ?_) (a' := ?_) #[true, true, true, true, true, true, false, true, false, true, true, false, false, false, false, false, false, false, false] rfl rfl (any_of HT_.out (by kernel_rfl)) (fun _ _ _ h => h) (Or.inl ⟨by rfl, ?_⟩) ?_ ?_
    rotate_left
    · intro w'
      go_simp
      with_reducible rfl
    rotate_left
    · simp only [Act.put, List.setIfInBounds_toArray, List.set_cons_zero, List.set_cons_succ, i64_w, i32_w]
      rfl
    refine pure_ (i := 11) (N := some 25) (v := ?_) (a' := ?_) #[true, true, true, true, true, true, false, true, false, true, true, true, false, false, false, false, false, false, false] rfl rfl (any_of HT_.out (by kernel_rfl)) (fun _ _ _ h => h) (Or.inl ⟨by rfl, ?_⟩) ?_ ?_
    rotate_left
    · intro w'
      go_simp
      with_reducible rfl
    rotate_left
    · simp only [Act.put, List.setIfInBounds_toArray, List.set_cons_zero, List.set_cons_succ, i64_w, i32_w]
      rfl
    refine take_ (i := 12) (N := some 26) (v := ?_) (a' := ?_) #[true, true, true, true, true, true, false, true, false, true, true, true, true, false, false, false, false, false, false] rfl rfl (take_ofW HT_.out HW_.out (by kernel_rfl)) (fun _ _ _ h => h) (Or.inl ⟨by rfl, ?_⟩) hHeld ?_ ?_
    rotate_left
    · rintro w' ⟨s0, s1⟩
      go_simp
      with_reducible rfl
    rotate_left
    · simp only [Act.put, List.setIfInBounds_toArray, List.set_cons_zero, List.set_cons_succ, i64_w, i32_w]
      rfl
    refine one_ (i := 6) (N := some 20) #[true, true, true, true, true, true, true, true, false, true, true, true, true, false, false, false, false, false, false] rfl rfl (one_of HT_.out (by kernel_rfl)) (by decide) (fun K hK => ?_)
    refine goes_ Try.func34 (by kernel_rfl) rfl #[.slice A nb c] (by rfl) rfl rfl (by (try simp only [List.map_toArray, List.map_cons, List.map_nil]); first | done | rfl | (go_simp; done) | simp [Act.eval]) ?_
    have hcl := bytes_Clone.calls A c b b w.drew HR.out (by have := HNB.out; omega) (by unfold bytes_Clone.f; rw [if_pos (by omega)])
    rw [← HNB.out] at hcl
    refine hcl.mono ?_
    rintro e w1 ⟨v20, rfl, hr20, hb1⟩
    clear hcl
    obtain ⟨A20, c20, e20⟩ := Kd.R_slice hr20
    subst e20
    have H20 := Aside0.mk hr20
    have HB1 := Aside0.mk hb1
    have HC1 := Aside0.mk (HC.out.below hb1)
    have HR1 := Aside0.mk (Kd.C_below HR.out hb1)
    clear hr20 hb1
    refine ⟨_, rfl, ?_⟩
    refine hK.out _ _ ⟨by rw [HB1.out.cell (p := ⟨g, 2, none⟩) HC.out.lt]; exact HS.out.1, by rw [HB1.out.cell (p := ⟨g, 1, none⟩) HC.out.lt]; exact HS.out.2⟩ (fun hHeld => ?_)
    clear hK K
    refine norm_ (a' := ?_) ?_ ?_
    rotate_left
    · show Act.put _ (some 20) _ = _
      simp only [Act.put, List.setIfInBounds_toArray, List.set_cons_zero, List.set_cons_succ, i64_w, i32_w]
      rfl
    refine one_ (i := 8) (N := some 22) #[true, true, true, true, true, true, true, true, true, true, true, true, true, false, false, false, false, false, false] rfl rfl (one_of HT_.out (by kernel_rfl)) (by decide) (fun K hK => ?_)
    refine goes_ Try.func34 (by kernel_rfl) rfl #[.slice A nb c] (by rfl) rfl rfl (by (try simp only [List.map_toArray, List.map_cons, List.map_nil]); first | done | rfl | (go_simp; done) | simp [Act.eval]) ?_
    have hcl := bytes_Clone.calls A c b b w1 HR1.out (by have := HNB.out; omega) (by unfold bytes_Clone.f; rw [if_pos (by omega)])
    rw [← HNB.out] at hcl
    refine hcl.mono ?_
    rintro e w2 ⟨v22, rfl, hr22, hb2⟩
    clear hcl
    obtain ⟨A22, c22, e22⟩ := Kd.R_slice hr22
    subst e22
    have H22 := Aside0.mk hr22
    have HB2 := Aside0.mk (below_step HB1.out hb2)
    have HC2 := Aside0.mk (HC1.out.below hb2)
    have H20b := Aside0.mk (Kd.R_below H20.out hb2)
    have HSZ := Aside0.mk hb2.size
    clear hr22 hb2
    refine ⟨_, rfl, ?_⟩
    refine hK.out _ _ ⟨by rw [HB2.out.cell (p := ⟨g, 2, none⟩) HC.out.lt]; exact HS.out.1, by rw [HB2.out.cell (p := ⟨g, 1, none⟩) HC.out.lt]; exact HS.out.2⟩ (fun hHeld => ?_)
    clear hK K
    refine norm_ (a' := ?_) ?_ ?_
    rotate_left
    · show Act.put _ (some 22) _ = _
      simp only [Act.put, List.setIfInBounds_toArray, List.set_cons_zero, List.set_cons_succ, i64_w, i32_w]
      rfl
    refine pure_ (i := 13) (N := some 27) (v := ?_) (a' := ?_) #[true, true, true, true, true, true, true, true, true, true, true, true, true, true, false, false, false, false, false] rfl rfl (any_of HT_.out (by kernel_rfl)) (fun _ _ _ h => h) (Or.inl ⟨by rfl, ?_⟩) ?_ ?_
    rotate_left
    · intro w'
      go_simp
      with_reducible rfl
    rotate_left
    · simp only [Act.put, List.setIfInBounds_toArray, List.set_cons_zero, List.set_cons_succ, i64_w, i32_w]
      rfl
    refine one_ (i := 14) (N := some 28) #[true, true, true, true, true, true, true, true, true, true, true, true, true, true, true, false, false, false, false] rfl rfl (one_of HT_.out (by kernel_rfl)) (by decide) (fun K hK => ?_)
    skip
    refine value_ (w1 := ?_) (v := ?_) (by rfl) rfl ?_ ?_
    rotate_left 2
    · go_simp
      constructor
      · rfl
      · rfl
    refine hK.out _ _ ⟨(blk_cell (blk_alloc HC2.out.blk _) 2).trans (by rw [HNL.out]; rfl), blk_cell (blk_alloc HC2.out.blk _) 1⟩ (fun hHeld => ?_)
    clear hK K
    refine norm_ (a' := ?_) ?_ ?_
    rotate_left
    · show Act.put _ (some 28) _ = _
      simp only [Act.put, List.setIfInBounds_toArray, List.set_cons_zero, List.set_cons_succ, i64_w, i32_w]
      rfl
    refine one_ (i := 15) (N := some 29) #[true, true, true, true, true, true, true, true, true, true, true, true, true, true, true, true, false, false, false] rfl rfl (one_of HT_.out (by kernel_rfl)) (by decide) (fun K hK => ?_)
    refine Kd.R_append_step kFl (w0 := w2) n₀ (by rfl) (.tmp 18) (.tmp 28) 65 50 (.agg #[.slice none 0 0, .slice none 0 0, .int .i64 0]) 56 rfl Try.underlying65 fl_info rfl (by decide) (by omega) (.slice Af L.length cf) L (b, b, now) [.slice A20 b.length c20, .slice A22 b.length c22, .int .i64 now] (fun _ => True) (fun k => w.drew.heap.size ≤ k) (by first | rfl | (go_simp; done) | (rw [← HNL.out]; first | rfl | (go_simp; done))) (by first | rfl | (go_simp; done) | (go_simp; rfl)) ?_ (fun k hk => ⟨trivial, fun e => by have := (HC.out.own k e.symm).2; omega⟩) (fun _ _ => trivial) HC2.out.row (Below.refl _ _) (by have := HC2.out.low; have := HC2.out.lt; omega) (by have := HLT.out; omega) ?_
    · refine ⟨[.slice A20 b.length c20], [.slice A22 b.length c22, .int .i64 now], rfl, ⟨_, rfl, ?_⟩, [.slice A22 b.length c22], [.int .i64 now], rfl, ⟨_, rfl, ?_⟩, rfl⟩
      · exact Kd.R_lower (Kd.R_mono (Kd.R_bound H20b.out) (fun k ok => ok.2.1)) (by have := HC.out.low; have := HC.out.lt; omega)
      · exact Kd.R_lower (Kd.R_mono (Kd.R_bound H22.out) (fun k ok => Nat.le_trans HB1.out.size ok.2.1)) (by have := HC1.out.low; have := HC1.out.lt; omega)
    intro v29 w3 ho hb3 hg3 hat3
    obtain ⟨A29, c29, e29⟩ := Kd.R_slice ho
    obtain ⟨n29, hn29⟩ : ∃ n29, n29 = (L ++ [(b, b, now)]).length := ⟨_, rfl⟩
    rw [← hn29] at e29
    subst e29
    have HA := Aside0.mk (HC2.out.rowed ho hg3 (by rcases hat3 with q | q; exact .inl q; exact .inr (.inl q)))
    have HBG := Aside0.mk ((hg3.block g HC2.out.lt HC2.out.ne).trans HC2.out.blk)
    clear ho hb3 hg3 hat3 hn29
    refine hK.out _ _ ⟨(blk_cell HBG.out 2).trans (by rw [HNL.out]; rfl), blk_cell HBG.out 1⟩ (fun hHeld => ?_)
    clear hK K
    refine norm_ (a' := ?_) ?_ ?_
    rotate_left
    · show Act.put _ (some 29) _ = _
      simp only [Act.put, List.setIfInBounds_toArray, List.set_cons_zero, List.set_cons_succ, i64_w, i32_w]
      rfl
    refine pure_ (i := 16) (N := some 30) (v := ?_) (a' := ?_) #[true, true, true, true, true, true, true, true, true, true, true, true, true, true, true, true, true, false, false] rfl rfl (any_of HT_.out (by kernel_rfl)) (fun _ _ _ h => h) (Or.inl ⟨by rfl, ?_⟩) ?_ ?_
    rotate_left
    · intro w'
      go_simp
      with_reducible rfl
    rotate_left
    · simp only [Act.put, List.setIfInBounds_toArray, List.set_cons_zero, List.set_cons_succ, i64_w, i32_w]
      rfl
    refine pure_ (i := 17) (N := some 31) (v := ?_) (a' := ?_) #[true, true, true, true, true, true, true, true, true, true, true, true, true, true, true, true, true, true, false] rfl rfl (any_of HT_.out (by kernel_rfl)) (fun _ _ _ h => h) (Or.inl ⟨by rfl, ?_⟩) ?_ ?_
    rotate_left
    · intro w'
      go_simp
      with_reducible rfl
    rotate_left
    · simp only [Act.put, List.setIfInBounds_toArray, List.set_cons_zero, List.set_cons_succ, i64_w, i32_w]
      rfl
    refine last_ (i := 18) (N := none) #[true, true, true, true, true, true, true, true, true, true, true, true, true, true, true, true, true, true, true] rfl rfl (one_of HT_.out (by kernel_rfl)) (by decide) (fun K hK => ?_)
    have hcg : w3.cell? ⟨g, 2, none⟩ = some (.slice Af L.length cf) := blk_cell HBG.out 2
    have hfz := blk_frozen HBG.out 2
    refine skip_ (w1 := ?_) (by rfl) rfl ?_ ?_
    rotate_left 1
    · go_simp
      rfl
    refine hK.out _ _ ?_
    clear hK K
    refine done_ (done_of HT_.out (by kernel_rfl)) ?_
    clear hcg hfz
    obtain ⟨h1, h2, h3⟩ := HA.out
    generalize (w3.setCell ⟨g, 2, none⟩ (.slice A29 n29 c29)) = w4 at h1 h2 h3 ⊢
    have HE := Aside0.mk (And.intro h1 (And.intro h2 h3))
    clear h1 h2 h3
    go_wp2
    refine bodyPost_end (results_none rfl _ _ _) rfl ?_
    exact ⟨by simp, _, HE.out.1, by rw [HNL.out]; exact (Fr.of_below (Below.trans HF.out (below_step (Below.refl _ _) HB2.out))).seq HE.out.2.1, by rw [HNL.out]; exact (Newer.refl w _).trans HB2.out.size HE.out.2.2⟩
  · have e0 : putC now b L = L := by unfold putC; rw [if_neg hlt]
    rw [e0]
    have hlb : decide ((L.length : Int) < 4096) = false := decide_eq_false (by omega)
    have HC := Aside0.mk h
    clear h hr
    go_enter Try.func12, Try.ntmps12
    go_wp2
    refine bodyPost_end (results_none rfl _ _ _) rfl ?_
    exact ⟨by simp, _, HC.out, Fr.refl _ _ _, Newer.refl _ _⟩
end Go.Proofs.Ytfplmoeahbjfmaa.P

-- YtfplmoeahbjfmaaP27
namespace Go.Proofs.Ytfplmoeahbjfmaa.P
open Go.RowKit Go.Proofs.YtfplmoeahbjfmaaW.PrintWords Go.Proofs.YtfplmoeahbjfmaaW.PrintLast Go.Proofs.YtfplmoeahbjfmaaW.PrintMore
attribute [local go_sem] max2_int min2_int max_two min_two max_three min_three max_four min_four   -- for this text's walks alone
set_option linter.unusedVariables false
set_option linter.unusedSimpArgs false

/-! ### channel_Flight_copied: function 38 -/
def channel_Flight_copied.f (l0_0 : List Int) (l0_1 : List Int) (a0_2 : Int) : Option (List Int × List Int × Int) := (bytes_Clone.f l0_0).bind fun t188 => ((bytes_Clone.f l0_1).bind fun t191 => (some (t188, t191, a0_2)))
def channel_Flight_copied.T1 : Bool × List (List Nat × List Nat) := (true, [([], []), ([0], [0]), ([1], [1]), ([], []), ([3], [3]), ([4, 2], [4]), ([], []), ([6], [6]), ([2, 5, 7], [2, 5, 7]), ([8, 5, 0, 1, 2, 3, 4, 5, 6, 7, 8], [8])])
def channel_Flight_copied.B1 : List Nat := [0, 1, 3, 0, 8, 31, 0, 64, 255, 511]
theorem channel_Flight_copied.tab1 : rtab .any (opsOf Try.f38 1) = channel_Flight_copied.T1 := by kernel_rfl
theorem channel_Flight_copied.bits1 : waitsOk channel_Flight_copied.T1.2 channel_Flight_copied.B1 = true := by kernel_rfl
set_option maxHeartbeats 8000000 in
set_option maxRecDepth 100000 in
theorem channel_Flight_copied.calls (A0_0 : Option Addr) (c0_0 : Nat) (l0_0 : List Int) (A0_1 : Option Addr) (c0_1 : Nat) (l0_1 : List Int) (a0_2 : Int) (r1 : List Int) (r2 : List Int) (r3 : Int) (w : World) (hr0_0 : Kd.C (Kd.int .u8) w A0_0 l0_0.length l0_0) (hc0_0 : l0_0.length ≤ c0_0) (hr0_1 : Kd.C (Kd.int .u8) w A0_1 l0_1.length l0_1) (hc0_1 : l0_1.length ≤ c0_1) (h : channel_Flight_copied.f l0_0 l0_1 a0_2 = some (r1, r2, r3)) :
    Calls Try.prog 38 #[.agg #[.slice A0_0 l0_0.length c0_0, .slice A0_1 l0_1.length c0_1, .int .i64 a0_2]] w fun e w' => ∃ v0_ v1_ : Value, e = .returned (.agg #[v0_, v1_, .int .i64 r3]) ∧ Kd.R (Kd.int .u8) 5 w' w.heap.size (fun k_ => some k_ ≠ (v1_ : Value).ownBlock) v0_ r1 ∧ Kd.R (Kd.int .u8) 5 w' w.heap.size (fun k_ => some k_ ≠ (v0_ : Value).ownBlock) v1_ r2 ∧ Below w.heap.size w w' := by
  have hu50 := Try.underlying50
  have HR0_0 := Aside0.mk hr0_0
  have HC0_0 := Aside0.mk hc0_0
  clear hr0_0 hc0_0
  have HR0_1 := Aside0.mk hr0_1
  have HC0_1 := Aside0.mk hc0_1
  clear hr0_1 hc0_1
  have HB := Aside0.mk (Below.refl w.heap.size w)
  have H : ((bytes_Clone.f l0_0).bind fun t188 => ((bytes_Clone.f l0_1).bind fun t191 => (some (t188, t191, a0_2)))) = some (r1, r2, r3) := h
  clear h
  replace H := Option.bind_eq_some_iff.mp H
  obtain ⟨t188, A20, H⟩ := H
  replace H : ((bytes_Clone.f l0_1).bind fun t191 => (some (t188, t191, a0_2))) = some (r1, r2, r3) := H
  have A2 := Aside0.mk A20
  clear A20
  replace H := Option.bind_eq_some_iff.mp H
  obtain ⟨t191, A30, H⟩ := H
  replace H : (some (t188, t191, a0_2)) = some (r1, r2, r3) := H
  have A3 := Aside0.mk A30
  clear A30
  simp only [Option.some.injEq, Prod.mk.injEq] at H
  obtain ⟨rfl, rfl, rfl⟩ := H
  go_enter Try.func38, Try.ntmps38
  try go_wp2_with (first | ((with_reducible refine gate_dst (N := 1) rfl ?_); refine box_event ?hg (N := 1) ?hd (cs := #[.slice A0_0 l0_0.length c0_0, .slice A0_1 l0_1.length c0_1, .int .i64 a0_2]) (t := 50) ?hr ?_; (case hd => rfl); (case hg => rfl); (case hr => first | (go_simp; done) | (go_simp; rfl)); intro gb186 hg w4 hbox hb; have n0_ := Aside0.mk (below_step (by repeat (first | (with_reducible first | exact HB.out | apply below_alloc | apply pw_below_drewN | apply below_drew1) | exact HB.out)) hb); have n1_ := Aside0.mk (hbox); have n2_ := Aside0.mk ((by rw [hg]; exact (below_size (by repeat (first | (with_reducible first | exact HB.out | apply below_alloc | apply pw_below_drewN | apply below_drew1) | exact HB.out))) : w.heap.size ≤ gb186)); have n3_ := Aside0.mk ((by rw [hg]; exact (below_size (by repeat (first | (with_reducible first | exact HB.out | apply below_alloc | apply pw_below_drewN | apply below_drew1) | exact HB.out))) : w.heap.size ≤ gb186)); clear HB; have HB := n0_; have BK186 := n1_; have GW186 := n2_; have GE186 := n3_; clear n0_ n1_ n2_ n3_; clear hb hbox hg) | ((with_reducible refine gate_dst (N := 2) rfl ?_); refine box_event ?hg (N := 2) ?hd (cs := #[.slice none 0 0, .slice none 0 0, .int .i64 0]) (t := 50) ?hr ?_; (case hd => rfl); (case hg => rfl); (case hr => first | (go_simp; done) | (go_simp; rfl)); intro gb187 hg w5 hbox hb; have n0_ := Aside0.mk (blk_below (g := gb186) (o := .cells #[.slice A0_0 l0_0.length c0_0, .slice A0_1 l0_1.length c0_1, .int .i64 a0_2] 50 (0, 0)) (by (with_reducible repeat (first | refine blk_drewN ?_ _ | refine blk_drew ?_ | refine blk_alloc ?_ _)); exact BK186.out) hb); have n1_ := Aside0.mk (below_step (by repeat (first | (with_reducible first | exact HB.out | apply below_alloc | apply pw_below_drewN | apply below_drew1 | refine below_set ?_ GE186.out) | exact HB.out)) hb); have n2_ := Aside0.mk (hbox); have n3_ := Aside0.mk ((by rw [hg]; exact (below_size (by repeat (first | (with_reducible first | exact HB.out | apply below_alloc | apply pw_below_drewN | apply below_drew1 | refine below_set ?_ GE186.out) | exact HB.out))) : w.heap.size ≤ gb187)); have n4_ := Aside0.mk ((by rw [hg]; exact (below_size (by repeat (first | (with_reducible first | exact HB.out | apply below_alloc | apply pw_below_drewN | apply below_drew1 | refine below_set ?_ GE186.out) | exact HB.out))) : w.heap.size ≤ gb187)); have n5_ := Aside0.mk ((by rw [hg]; exact Nat.ne_of_lt (blk_lt (g := gb186) (o := .cells #[.slice A0_0 l0_0.length c0_0, .slice A0_1 l0_1.length c0_1, .int .i64 a0_2] 50 (0, 0)) (by (with_reducible repeat (first | refine blk_drewN ?_ _ | refine blk_drew ?_ | refine blk_alloc ?_ _)); exact BK186.out)) : gb186 ≠ gb187)); have n6_ := Aside0.mk ((by rw [hg]; exact Nat.ne_of_gt (blk_lt (g := gb186) (o := .cells #[.slice A0_0 l0_0.length c0_0, .slice A0_1 l0_1.length c0_1, .int .i64 a0_2] 50 (0, 0)) (by (with_reducible repeat (first | refine blk_drewN ?_ _ | refine blk_drew ?_ | refine blk_alloc ?_ _)); exact BK186.out)) : gb187 ≠ gb186)); clear BK186; clear HB; have BK186 := n0_; have HB := n1_; have BK187 := n2_; have GW187 := n3_; have GE187 := n4_; have NB186_187 := n5_; have NB187_186 := n6_; clear n0_ n1_ n2_ n3_ n4_ n5_ n6_; clear hb hbox hg))
  have n0_ := Aside0.mk (blk_drew BK186.out)
  have n1_ := Aside0.mk (blk_drew BK187.out)
  have n2_ := Aside0.mk (below_drew1 HB.out)
  clear BK186
  clear BK187
  clear HB
  have BK186 := n0_
  have BK187 := n1_
  have HB := n2_
  clear n0_ n1_ n2_
  refine start_ (n := 10) (S := fun w' => w'.cell? ⟨gb186, 0, none⟩ = some (.slice A0_0 l0_0.length c0_0) ∧ w'.cell? ⟨gb186, 1, none⟩ = some (.slice A0_1 l0_1.length c0_1) ∧ w'.cell? ⟨gb186, 2, none⟩ = some (.int .i64 a0_2)) (ds := []) #[false, false, false, false, false, false, false, false, false, false] (by kernel_rfl) rfl rfl ⟨(blk_cell BK186.out 0).trans rfl, (blk_cell BK186.out 1).trans rfl, (blk_cell BK186.out 2).trans rfl⟩ (fun hHeld => ?_); refine with_tabW channel_Flight_copied.tab1 channel_Flight_copied.bits1 (fun HT_ HW_ => ?_)
  generalize w5.drew = w6 at BK186 BK187 HB hHeld ⊢
  refine pure_ (i := 0) (N := some 3) (v := ?_) (a' := ?_) #[true, false, false, false, false, false, false, false, false, false] rfl rfl (any_of HT_.out (by kernel_rfl)) (fun _ _ _ h => h) (Or.inl ⟨by rfl, ?_⟩) ?_ ?_
  rotate_left
  · intro w'
    go_simp
    with_reducible rfl
  rotate_left
  · simp only [Act.put, List.setIfInBounds_toArray, List.set_cons_zero, List.set_cons_succ, i64_w, i32_w]
    rfl
  refine pure_ (i := 3) (N := some 6) (v := ?_) (a' := ?_) #[true, false, false, true, false, false, false, false, false, false] rfl rfl (any_of HT_.out (by kernel_rfl)) (fun _ _ _ h => h) (Or.inl ⟨by rfl, ?_⟩) ?_ ?_
  rotate_left
  · intro w'
    go_simp
    with_reducible rfl
  rotate_left
  · simp only [Act.put, List.setIfInBounds_toArray, List.set_cons_zero, List.set_cons_succ, i64_w, i32_w]
    rfl
  refine pure_ (i := 6) (N := some 9) (v := ?_) (a' := ?_) #[true, false, false, true, false, false, true, false, false, false] rfl rfl (any_of HT_.out (by kernel_rfl)) (fun _ _ _ h => h) (Or.inl ⟨by rfl, ?_⟩) ?_ ?_
  rotate_left
  · intro w'
    go_simp
    with_reducible rfl
  rotate_left
  · simp only [Act.put, List.setIfInBounds_toArray, List.set_cons_zero, List.set_cons_succ, i64_w, i32_w]
    rfl
  refine take_ (i := 1) (N := some 4) (v := ?_) (a' := ?_) #[true, true, false, true, false, false, true, false, false, false] rfl rfl (take_ofW HT_.out HW_.out (by kernel_rfl)) (fun _ _ _ h => h) (Or.inl ⟨by rfl, ?_⟩) hHeld ?_ ?_
  rotate_left
  · rintro w' ⟨s0, s1, s2⟩
    go_simp
    with_reducible rfl
  rotate_left
  · simp only [Act.put, List.setIfInBounds_toArray, List.set_cons_zero, List.set_cons_succ, i64_w, i32_w]
    rfl
  refine take_ (i := 4) (N := some 7) (v := ?_) (a' := ?_) #[true, true, false, true, true, false, true, false, false, false] rfl rfl (take_ofW HT_.out HW_.out (by kernel_rfl)) (fun _ _ _ h => h) (Or.inl ⟨by rfl, ?_⟩) hHeld ?_ ?_
  rotate_left
  · rintro w' ⟨s0, s1, s2⟩
    go_simp
    with_reducible rfl
  rotate_left
  · simp only [Act.put, List.setIfInBounds_toArray, List.set_cons_zero, List.set_cons_succ, i64_w, i32_w]
    rfl
  refine take_ (i := 7) (N := some 10) (v := ?_) (a' := ?_) #[true, true, false, true, true, false, true, true, false, false] rfl rfl (take_ofW HT_.out HW_.out (by kernel_rfl)) (fun _ _ _ h => h) (Or.inl ⟨by rfl, ?_⟩) hHeld ?_ ?_
  rotate_left
  · rintro w' ⟨s0, s1, s2⟩
    go_simp
    with_reducible rfl
  rotate_left
  · simp only [Act.put, List.setIfInBounds_toArray, List.set_cons_zero, List.set_cons_succ, i64_w, i32_w]
    rfl
  refine one_ (i := 2) (N := some 5) #[true, true, true, true, true, false, true, true, false, false] rfl rfl (one_of HT_.out (by kernel_rfl)) (by decide) (fun K hK => ?_)
  refine goes_ Try.func34 (by kernel_rfl) rfl #[.slice A0_0 l0_0.length c0_0] (by rfl) rfl rfl (by (try simp only [List.map_toArray, List.map_cons, List.map_nil]); first | done | rfl | (simp only [List.length_drop, List.length_take]; rfl)) ?_
  with_reducible refine (bytes_Clone.calls _ _ l0_0 t188 _ ?side1 ?side2 A2.out).mono ?_
  (case side1 => repeat (first | exact (Kd.C_below HR0_0.out HB.out) | (with_reducible refine Kd.C_alloc ?_ _) | (with_reducible refine Kd.C_drewN ?_ _) | (with_reducible refine Kd.C_drew ?_)))
  (case side2 => exact HC0_0.out)
  rintro e w7 ⟨v189, rfl, ho0, hb⟩
  refine ⟨_, rfl, ?_⟩
  have n0_ := Aside0.mk (Kd.R_lower ho0 (below_size (by repeat (first | (with_reducible first | exact HB.out | apply below_alloc | apply pw_below_drewN | apply below_drew1 | refine below_set ?_ GE186.out | refine below_set ?_ GE187.out) | exact HB.out))))
  have n1_ := Aside0.mk (blk_below (g := gb186) (o := .cells #[.slice A0_0 l0_0.length c0_0, .slice A0_1 l0_1.length c0_1, .int .i64 a0_2] 50 (0, 0)) (by (with_reducible repeat (first | refine blk_drewN ?_ _ | refine blk_drew ?_ | refine blk_alloc ?_ _)); exact BK186.out) hb)
  have n2_ := Aside0.mk (blk_below (g := gb187) (o := .cells #[.slice none 0 0, .slice none 0 0, .int .i64 0] 50 (0, 0)) (by (with_reducible repeat (first | refine blk_drewN ?_ _ | refine blk_drew ?_ | refine blk_alloc ?_ _)); exact BK187.out) hb)
  have n3_ := Aside0.mk (below_step (by repeat (first | (with_reducible first | exact HB.out | apply below_alloc | apply pw_below_drewN | apply below_drew1 | refine below_set ?_ GE186.out | refine below_set ?_ GE187.out) | exact HB.out)) hb)
  clear BK186
  clear BK187
  clear HB
  have HO190 := n0_
  have BK186 := n1_
  have BK187 := n2_
  have HB := n3_
  clear n0_ n1_ n2_ n3_
  (try clear hb)
  (try clear hb2)
  (try clear hk)
  (try clear hi)
  (try clear ho0)
  refine hK.out _ _ ⟨(blk_cell BK186.out 0).trans rfl, (blk_cell BK186.out 1).trans rfl, (blk_cell BK186.out 2).trans rfl⟩ (fun hHeld => ?_)
  clear hK K
  refine norm_ (a' := ?_) ?_ ?_
  rotate_left
  · show Act.put _ (some 5) _ = _
    simp only [Act.put, List.setIfInBounds_toArray, List.set_cons_zero, List.set_cons_succ, i64_w, i32_w]
    rfl
  refine one_ (i := 5) (N := some 8) #[true, true, true, true, true, true, true, true, false, false] rfl rfl (one_of HT_.out (by kernel_rfl)) (by decide) (fun K hK => ?_)
  refine goes_ Try.func34 (by kernel_rfl) rfl #[.slice A0_1 l0_1.length c0_1] (by rfl) rfl rfl (by (try simp only [List.map_toArray, List.map_cons, List.map_nil]); first | done | rfl | (simp only [List.length_drop, List.length_take]; rfl)) ?_
  with_reducible refine (bytes_Clone.calls _ _ l0_1 t191 _ ?side1 ?side2 A3.out).mono ?_
  (case side1 => repeat (first | exact (Kd.C_below HR0_1.out HB.out) | (with_reducible refine Kd.C_alloc ?_ _) | (with_reducible refine Kd.C_drewN ?_ _) | (with_reducible refine Kd.C_drew ?_)))
  (case side2 => exact HC0_1.out)
  rintro e w8 ⟨v192, rfl, ho0, hb⟩
  refine ⟨_, rfl, ?_⟩
  have n0_ := Aside0.mk (Kd.R_elder' (by (with_reducible repeat (first | apply Kd.R_alloc | apply Kd.R_drewN | apply Kd.R_drew)); exact HO190.out) (Kd.R_base ho0) hb)
  have n1_ := Aside0.mk (Kd.R_lower (Kd.R_new' ho0 (Kd.R_lt (by (with_reducible repeat (first | apply Kd.R_alloc | apply Kd.R_drewN | apply Kd.R_drew)); exact HO190.out))) (below_size (by repeat (first | (with_reducible first | exact HB.out | apply below_alloc | apply pw_below_drewN | apply below_drew1 | refine below_set ?_ GE186.out | refine below_set ?_ GE187.out) | exact HB.out))))
  have n2_ := Aside0.mk (blk_below (g := gb186) (o := .cells #[.slice A0_0 l0_0.length c0_0, .slice A0_1 l0_1.length c0_1, .int .i64 a0_2] 50 (0, 0)) (by (with_reducible repeat (first | refine blk_drewN ?_ _ | refine blk_drew ?_ | refine blk_alloc ?_ _)); exact BK186.out) hb)
  have n3_ := Aside0.mk (blk_below (g := gb187) (o := .cells #[.slice none 0 0, .slice none 0 0, .int .i64 0] 50 (0, 0)) (by (with_reducible repeat (first | refine blk_drewN ?_ _ | refine blk_drew ?_ | refine blk_alloc ?_ _)); exact BK187.out) hb)
  have n4_ := Aside0.mk (below_step (by repeat (first | (with_reducible first | exact HB.out | apply below_alloc | apply pw_below_drewN | apply below_drew1 | refine below_set ?_ GE186.out | refine below_set ?_ GE187.out) | exact HB.out)) hb)
  clear HO190
  clear BK186
  clear BK187
  clear HB
  have HO190 := n0_
  have HO193 := n1_
  have BK186 := n2_
  have BK187 := n3_
  have HB := n4_
  clear n0_ n1_ n2_ n3_ n4_
  (try clear hb)
  (try clear hb2)
  (try clear hk)
  (try clear hi)
  (try clear ho0)
  obtain ⟨Ao9, co9, eo9⟩ := Kd.R_slice HO193.out
  (first | subst eo9 | (injection eo9 with f1_ f2_ f3_; have f4_ := f1_.symm; have f5_ := f3_.symm; clear f1_ f2_ f3_; subst f4_; subst f5_))
  obtain ⟨Ao10, co10, eo10⟩ := Kd.R_slice HO190.out
  (first | subst eo10 | (injection eo10 with f1_ f2_ f3_; have f4_ := f1_.symm; have f5_ := f3_.symm; clear f1_ f2_ f3_; subst f4_; subst f5_))
  refine hK.out _ _ ⟨(blk_cell BK186.out 0).trans rfl, (blk_cell BK186.out 1).trans rfl, (blk_cell BK186.out 2).trans rfl⟩ (fun hHeld => ?_)
  clear hK K
  refine norm_ (a' := ?_) ?_ ?_
  rotate_left
  · show Act.put _ (some 8) _ = _
    simp only [Act.put, List.setIfInBounds_toArray, List.set_cons_zero, List.set_cons_succ, i64_w, i32_w]
    rfl
  refine pure_ (i := 8) (N := some 11) (v := ?_) (a' := ?_) #[true, true, true, true, true, true, true, true, true, false] rfl rfl (any_of HT_.out (by kernel_rfl)) (fun _ _ _ h => h) (Or.inl ⟨by rfl, ?_⟩) ?_ ?_
  rotate_left
  · intro w'
    go_simp
    with_reducible rfl
  rotate_left
  · simp only [Act.put, List.setIfInBounds_toArray, List.set_cons_zero, List.set_cons_succ, i64_w, i32_w]
    rfl
  refine one_ (i := 9) (N := none) #[true, true, true, true, true, true, true, true, true, true] rfl rfl (one_of HT_.out (by kernel_rfl)) (by decide) (fun K hK => ?_)
  have hs11 : w8.cell? ⟨gb187, 0, none⟩ = some (.slice none 0 0) := (blk_cell BK187.out 0).trans rfl
  have hfs11 := blk_frozen BK187.out 0
  have hns11_0 := NB186_187.out
  have hms11_0 := NB187_186.out
  have hs12 : w8.cell? ⟨gb187, 1, none⟩ = some (.slice none 0 0) := (blk_cell BK187.out 1).trans rfl
  have hfs12 := blk_frozen BK187.out 1
  have hns12_0 := NB186_187.out
  have hms12_0 := NB187_186.out
  have hs13 : w8.cell? ⟨gb187, 2, none⟩ = some (.int .i64 0) := (blk_cell BK187.out 2).trans rfl
  have hfs13 := blk_frozen BK187.out 2
  have hns13_0 := NB186_187.out
  have hms13_0 := NB187_186.out
  refine skip_ (w1 := ?_) (by rfl) rfl ?_ ?_
  rotate_left
  · go_simp
    rfl
  refine hK.out _ _ ⟨((cell_far (p := ⟨gb187, _, none⟩) NB186_187.out _).trans (((cell_far (p := ⟨gb187, _, none⟩) NB186_187.out _).trans (((cell_far (p := ⟨gb187, _, none⟩) NB186_187.out _).trans (hHeld.1)))))), ((cell_far (p := ⟨gb187, _, none⟩) NB186_187.out _).trans (((cell_far (p := ⟨gb187, _, none⟩) NB186_187.out _).trans (((cell_far (p := ⟨gb187, _, none⟩) NB186_187.out _).trans (hHeld.2.1)))))), ((cell_far (p := ⟨gb187, _, none⟩) NB186_187.out _).trans (((cell_far (p := ⟨gb187, _, none⟩) NB186_187.out _).trans (((cell_far (p := ⟨gb187, _, none⟩) NB186_187.out _).trans (hHeld.2.2))))))⟩ (fun hHeld => ?_)
  clear hK K
  refine done_ (done_of HT_.out (by kernel_rfl)) ?_
  try go_wp2
  refine bodyPost_ret (results_cell_row rfl _ _ gb187 50 #[.slice Ao10 t188.length co10, .slice Ao9 t191.length co9, .int .i64 a0_2] (0, 0) _ rfl (by (with_reducible repeat (first | refine blk_drewN ?_ _ | refine blk_drew ?_ | refine blk_alloc ?_ _)); refine blk_put (cs := #[.slice Ao10 t188.length co10, .slice Ao9 t191.length co9, .int .i64 0]) ?_ 2 _ rfl; (with_reducible repeat (first | refine blk_drewN ?_ _ | refine blk_drew ?_ | refine blk_alloc ?_ _)); refine blk_put (cs := #[.slice Ao10 t188.length co10, .slice none 0 0, .int .i64 0]) ?_ 1 _ rfl; (with_reducible repeat (first | refine blk_drewN ?_ _ | refine blk_drew ?_ | refine blk_alloc ?_ _)); refine blk_put (cs := #[.slice none 0 0, .slice none 0 0, .int .i64 0]) ?_ 0 _ rfl; (with_reducible repeat (first | refine blk_drewN ?_ _ | refine blk_drew ?_ | refine blk_alloc ?_ _)); exact BK187.out) Try.underlying50 rfl (by kernel_rfl)) rfl ?_
  exact ⟨_, _, by first | rfl | (simp [errW_none, errW_some] <;> rfl) | (simp [*, errW_none, errW_some] <;> rfl), by (with_reducible repeat (first | apply Kd.R_alloc | apply Kd.R_drewN | apply Kd.R_drew)); exact Kd.R_mono (Kd.R_far (p := ⟨gb187, 2, none⟩) (Kd.R_far (p := ⟨gb187, 1, none⟩) (Kd.R_far (p := ⟨gb187, 0, none⟩) (Kd.R_types HO190.out BK187.out (by decide)) (fun _ hk => hk.2) (.slice Ao10 t188.length co10)) (fun _ hk => hk.2) (.slice Ao9 t191.length co9)) (fun _ hk => hk.2) (.int .i64 a0_2)) (fun _ hk => hk.1.2), by (with_reducible repeat (first | apply Kd.R_alloc | apply Kd.R_drewN | apply Kd.R_drew)); exact Kd.R_mono (Kd.R_far (p := ⟨gb187, 2, none⟩) (Kd.R_far (p := ⟨gb187, 1, none⟩) (Kd.R_far (p := ⟨gb187, 0, none⟩) (Kd.R_types HO193.out BK187.out (by decide)) (fun _ hk => hk.2) (.slice Ao10 t188.length co10)) (fun _ hk => hk.2) (.slice Ao9 t191.length co9)) (fun _ hk => hk.2) (.int .i64 a0_2)) (fun _ hk => hk.1.2), by repeat (first | (with_reducible first | exact HB.out | apply below_alloc | apply pw_below_drewN | apply below_drew1 | refine below_set ?_ GE186.out | refine below_set ?_ GE187.out) | exact HB.out)⟩

end Go.Proofs.Ytfplmoeahbjfmaa.P

-- YtfplmoeahbjfmaaPCTwice
namespace Go.Proofs.Ytfplmoeahbjfmaa.P
open Go Go.Proofs Go.RowKit Go.Shelf Go.Proofs.YtfplmoeahbjfmaaW.PrintWords Go.Proofs.YtfplmoeahbjfmaaW.PrintLast Go.Proofs.YtfplmoeahbjfmaaW.PrintMore
set_option linter.unusedVariables false
set_option linter.unusedSimpArgs false

variable {n₀ g : Nat} {age now : Int} {v : Value} {L : List Fl}
/-- The texts of datagrams are short. -/
def Short (L : List Fl) : Prop := ∀ f ∈ L, f.1.length ≤ 100000 ∧ f.2.1.length ≤ 100000
/-- An element of the row: its cells, its texts. -/
theorem fl_get {w : World} {ok : Nat → Prop} {gr n c : Nat} (h : Kd.R kFl 50 w n₀ ok (.slice (some ⟨gr, 0, none⟩) n c) L) (i : Nat) (hi : i < n) :
    ∃ f A1 c1 A2 c2, L[i]? = some f ∧ w.cell? ⟨gr, i * 3, none⟩ = some (.slice A1 f.1.length c1) ∧ w.cell? ⟨gr, i * 3 + 1, none⟩ = some (.slice A2 f.2.1.length c2) ∧ w.cell? ⟨gr, i * 3 + 2, none⟩ = some (.int .i64 f.2.2) ∧
      Kd.R (Kd.int .u8) 5 w n₀ (fun k => ok k ∧ k ≠ gr) (.slice A1 f.1.length c1) f.1 ∧ Kd.R (Kd.int .u8) 5 w n₀ (fun k => ok k ∧ k ≠ gr) (.slice A2 f.2.1.length c2) f.2.1 := by
  have hn := (Kd.R_reads' h).1
  obtain ⟨c, hl, hM, hc, _⟩ := Kd.R_elem h ([], [], 0) (i : Int) (by omega) (by omega)
  rw [Int.toNat_natCast] at hM hc
  have he : L[i]? = some (L.getD i ([], [], 0)) := by rw [List.getD_eq_getElem?_getD, List.getElem?_eq_getElem (by omega)]; rfl
  obtain ⟨c0, c1, rfl, ⟨v1, rfl, hr1⟩, c2, c3, rfl, ⟨v2, rfl, hr2⟩, h3⟩ := hM
  have h3' : c3 = [.int .i64 (L.getD i ([], [], 0)).2.2] := h3
  subst h3'
  obtain ⟨A1, d1, rfl⟩ := Kd.R_slice hr1
  obtain ⟨A2, d2, rfl⟩ := Kd.R_slice hr2
  refine ⟨_, A1, d1, A2, d2, he, ?_, ?_, ?_, Kd.R_mono hr1 (fun _ ok => ok), Kd.R_mono hr2 (fun _ ok => ok)⟩
  · exact hc 0 _ rfl
  · exact hc 1 _ rfl
  · exact hc 2 _ rfl
def twE (n : Nat) (k : Int) : Int := if hasE n k = 0 then (if n < 4096 then 0 else 8) else 9
def twL (k : Int) (L : List Fl) : List Fl := if twE L.length k = 0 then L ++ [L.getD k.toNat ([], [], 0)] else L
theorem copied_calls {w : World} {f : Fl} {A1 A2 : Option Addr} {c1 c2 : Nat} (h1 : Kd.C (Kd.int .u8) w A1 f.1.length f.1) (hc1 : f.1.length ≤ c1) (h2 : Kd.C (Kd.int .u8) w A2 f.2.1.length f.2.1) (hc2 : f.2.1.length ≤ c2) (hl1 : f.1.length ≤ 100000) (hl2 : f.2.1.length ≤ 100000) :
    Calls Try.prog 38 #[.agg #[.slice A1 f.1.length c1, .slice A2 f.2.1.length c2, .int .i64 f.2.2]] w fun e w' => ∃ v1 v2, e = .returned (.agg #[v1, v2, .int .i64 f.2.2]) ∧ Kd.R (Kd.int .u8) 5 w' w.heap.size (fun _ => True) v1 f.1 ∧ Kd.R (Kd.int .u8) 5 w' w.heap.size (fun _ => True) v2 f.2.1 ∧ Below w.heap.size w w' := by
  refine (channel_Flight_copied.calls A1 c1 f.1 A2 c2 f.2.1 f.2.2 f.1 f.2.1 f.2.2 w h1 hc1 h2 hc2 ?_).mono ?_
  · unfold channel_Flight_copied.f bytes_Clone.f
    rw [if_pos (by omega), Option.bind_some, if_pos (by omega), Option.bind_some]
  · rintro e w' ⟨v1, v2, rfl, hr1, hr2, hb⟩
    exact ⟨v1, v2, rfl, Kd.R_mono hr1 (fun _ _ => trivial), Kd.R_mono hr2 (fun _ _ => trivial), hb⟩
def twice6.T : Bool × List (List Nat × List Nat) := (true, [([], []), ([], []), ([1], [1]), ([2], [2]), ([3], [3]), ([], []), ([5], [5]), ([6], [6]), ([7], [7]), ([], []), ([8, 9], [8, 9]), ([10], [10]), ([11], [11]), ([12], [12]), ([4, 13, 12], [4, 13]), ([0, 0, 1, 2, 3, 4, 5, 6, 7, 8, 9, 10, 11, 12, 13, 14], [0]), ([15, 0, 1, 2, 3, 4, 5, 6, 7, 8, 9, 10, 11, 12, 13, 14], [15]), ([16, 14, 14, 0, 1, 2, 3, 4, 5, 6, 7, 8, 9, 10, 11, 12, 13, 14], [14, 16])])
def twice6.B : List Nat := [0, 0, 2, 6, 14, 0, 32, 96, 224, 0, 992, 2016, 4064, 8160, 16382, 32767, 65535, 131071]
theorem twice6.tab : rtab .any (opsOf Try.f15 6) = twice6.T := by kernel_rfl
theorem twice6.bits : waitsOk twice6.T.2 twice6.B = true := by kernel_rfl
set_option maxRecDepth 100000 in
set_option maxHeartbeats 8000000 in
theorem twice_calls {w : World} (h : CS w n₀ g age now v L) (k : Int) (hs : Short L) :
    Calls Try.prog 15 #[.pointer (some ⟨g, 0, none⟩), .int .i64 k] w fun e w' => e = .returned (.int .i64 (twE L.length k)) ∧ ∃ v', CS w' n₀ g age now v' (twL k L) ∧ Fr g v w w' ∧ Newer w v v' := by
  by_cases hh : hasE L.length k = 0
  · have hk : 0 ≤ k ∧ k < L.length := by unfold hasE at hh; split at hh; assumption; omega
    by_cases hlt : L.length < 4096
    · obtain ⟨i, rfl⟩ := Int.eq_ofNat_of_zero_le hk.1
      have e1 : twE L.length (i : Int) = 0 := by unfold twE; rw [if_pos hh, if_pos hlt]
      have e2 : twL (i : Int) L = L ++ [L.getD i ([], [], 0)] := by unfold twL; rw [if_pos e1, Int.toNat_natCast]
      rw [e1, e2]
      have hil : i < L.length := by omega
      obtain ⟨Af, cf, e⟩ := h.slice
      subst e
      obtain ⟨gr, cap, eg, _, _, _⟩ := Kd.R_form h.row (by omega)
      injection eg with eA _ eC
      subst eA
      subst eC
      obtain ⟨f, A1, c1, A2, c2, hLi, hf0, hf1, hf2, hr1, hr2⟩ := fl_get h.row i hil
      have hfe : L.getD i ([], [], 0) = f := by rw [List.getD_eq_getElem?_getD, hLi]; rfl
      rw [hfe]
      have hsf := hs f (List.mem_of_getElem? hLi)
      have hc2 : w.cell? ⟨g, 2, none⟩ = some (.slice (some ⟨gr, 0, none⟩) L.length cf) := blk_cell h.blk 2
      have hlb : decide (4096 ≤ (L.length : Int)) = false := decide_eq_false (by omega)
      have hE : (hasE L.length (i : Int) != 0) = false := by rw [hh]; rfl
      have HHAS := Aside0.mk (chas_calls h (i : Int))
      have hbd : Below w.heap.size w w.drew := below_drew1 (Below.refl _ _)
      have HC := Aside0.mk (h.below hbd)
      have H1 := Aside0.mk (Kd.R_below hr1 hbd)
      have H2 := Aside0.mk (Kd.R_below hr2 hbd)
      have HLT := Aside0.mk hlt
      obtain ⟨nL, hnL⟩ : ∃ nL, nL = L.length := ⟨_, rfl⟩
      rw [← hnL] at hc2 hlb hE hil HHAS
      have HNL := Aside0.mk hnL
      obtain ⟨n1, hn1⟩ : ∃ n1, n1 = f.1.length := ⟨_, rfl⟩
      obtain ⟨n2, hn2⟩ : ∃ n2, n2 = f.2.1.length := ⟨_, rfl⟩
      obtain ⟨sn, hsn⟩ : ∃ sn, sn = f.2.2 := ⟨_, rfl⟩
      rw [← hn1] at hf0 hsf
      rw [← hn2] at hf1 hsf
      rw [← hsn] at hf2
      have HN1 := Aside0.mk hn1
      have HN2 := Aside0.mk hn2
      have HSN := Aside0.mk hsn
      have HSF := Aside0.mk hsf
      have HS := Aside0.mk (show w.drew.cell? ⟨g, 2, none⟩ = some (.slice (some ⟨gr, 0, none⟩) nL cf) ∧ w.drew.cell? ⟨gr, i * 3, none⟩ = some (.slice A1 n1 c1) ∧ w.drew.cell? ⟨gr, i * 3 + 1, none⟩ = some (.slice A2 n2 c2) ∧ w.drew.cell? ⟨gr, i * 3 + 2, none⟩ = some (.int .i64 sn) from ⟨hc2, hf0, hf1, hf2⟩)
      clear h hr1 hr2 hbd hlt hnL hn1 hn2 hsn hf0 hf1 hf2 hLi hfe hs hk e1 e2 hsf
      go_enter Try.func15, Try.ntmps15
      go_wp2_with (go_at_call 37; refine HHAS.out.mono ?_; rintro e w1 ⟨rfl, rfl⟩)
      clear hc2
      refine start_ (n := 18) (S := (fun w' => w'.cell? ⟨g, 2, none⟩ = some (.slice (some ⟨gr, 0, none⟩) nL cf) ∧ w'.cell? ⟨gr, i * 3, none⟩ = some (.slice A1 n1 c1) ∧ w'.cell? ⟨gr, i * 3 + 1, none⟩ = some (.slice A2 n2 c2) ∧ w'.cell? ⟨gr, i * 3 + 2, none⟩ = some (.int .i64 sn))) (ds := [14, 17]) #[false, false, false, false, false, false, false, false, false, false, false, false, false, false, false, false, false, false] (by kernel_rfl) rfl rfl HS.out (fun hHeld => ?_)
      refine with_tabW twice6.tab twice6.bits (fun HT_ HW_ => ?_)
      refine pure_ (i := 0) (N := some 18) (v := ?_) (a' := ?_) #[true, false, false, false, false, false, false, false, false, false, false, false, false, false, false, false, false, false] rfl rfl (any_of HT_.out (by kernel_rfl)) (fun _ _ _ h => h) (Or.inl ⟨by rfl, ?_⟩) ?_ ?_
      rotate_left
      · intro w'
        go_simp
        with_reducible rfl
      rotate_left
      · simp only [Act.put, List.setIfInBounds_toArray, List.set_cons_zero, List.set_cons_succ, i64_w, i32_w]
        rfl
      refine pure_ (i := 1) (N := some 19) (v := ?_) (a' := ?_) #[true, true, false, false, false, false, false, false, false, false, false, false, false, false, false, false, false, false] rfl rfl (any_of HT_.out (by kernel_rfl)) (fun _ _ _ h => h) (Or.inl ⟨by rfl, ?_⟩) ?_ ?_
      rotate_left
      · intro w'
        go_simp
        with_reducible rfl
      rotate_left
      · simp only [Act.put, List.setIfInBounds_toArray, List.set_cons_zero, List.set_cons_succ, i64_w, i32_w]
        rfl
      refine pure_ (i := 2) (N := some 20) (v := ?_) (a' := ?_) #[true, true, true, false, false, false, false, false, false, false, false, false, false, false, false, false, false, false] rfl rfl (any_of HT_.out (by kernel_rfl)) (fun _ _ _ h => h) (Or.inl ⟨by rfl, ?_⟩) ?_ ?_
      rotate_left
      · intro w'
        go_simp
        with_reducible rfl
      rotate_left
      · simp only [Act.put, List.setIfInBounds_toArray, List.set_cons_zero, List.set_cons_succ, i64_w, i32_w]
        rfl
      refine pure_ (i := 3) (N := some 21) (v := ?_) (a' := ?_) #[true, true, true, true, false, false, false, false, false, false, false, false, false, false, false, false, false, false] rfl rfl (any_of HT_.out (by kernel_rfl)) (fun _ _ _ h => h) (Or.inl ⟨by rfl, ?_⟩) ?_ ?_
      rotate_left
      · intro w'
        go_simp
        with_reducible rfl
      rotate_left
      · simp only [Act.put, List.setIfInBounds_toArray, List.set_cons_zero, List.set_cons_succ, i64_w, i32_w]
        rfl
      refine take_ (i := 4) (N := some 22) (v := ?_) (a' := ?_) #[true, true, true, true, true, false, false, false, false, false, false, false, false, false, false, false, false, false] rfl rfl (take_ofW HT_.out HW_.out (by kernel_rfl)) (fun _ _ _ h => h) (Or.inl ⟨by rfl, ?_⟩) hHeld ?_ ?_
      rotate_left
      · rintro w' ⟨s0, s1, s2, s3⟩
        go_simp
        with_reducible rfl
      rotate_left
      · simp only [Act.put, List.setIfInBounds_toArray, List.set_cons_zero, List.set_cons_succ, i64_w, i32_w]
        rfl
      refine pure_ (i := 5) (N := some 23) (v := ?_) (a' := ?_) #[true, true, true, true, true, true, false, false, false, false, false, false, false, false, false, false, false, false] rfl rfl (any_of HT_.out (by kernel_rfl)) (fun _ _ _ h => h) (Or.inl ⟨by rfl, ?_⟩) ?_ ?_
      rotate_left
      · intro w'
        go_simp
        with_reducible rfl
      rotate_left
      · simp only [Act.put, List.setIfInBounds_toArray, List.set_cons_zero, List.set_cons_succ, i64_w, i32_w]
        rfl
      refine pure_ (i := 6) (N := some 24) (v := ?_) (a' := ?_) #[true, true, true, true, true, true, true, false, false, false, false, false, false, false, false, false, false, false] rfl rfl (any_of HT_.out (by kernel_rfl)) (fun _ _ _ h => h) (Or.inl ⟨by rfl, ?_⟩) ?_ ?_
      rotate_left
      · intro w'
        go_simp
        with_reducible rfl
      rotate_left
      · simp only [Act.put, List.setIfInBounds_toArray, List.set_cons_zero, List.set_cons_succ, i64_w, i32_w]
        rfl
      refine pure_ (i := 7) (N := some 25) (v := ?_) (a' := ?_) #[true, true, true, true, true, true, true, true, false, false, false, false, false, false, false, false, false, false] rfl rfl (any_of HT_.out (by kernel_rfl)) (fun _ _ _ h => h) (Or.inl ⟨by rfl, ?_⟩) ?_ ?_
      rotate_left
      · intro w'
        go_simp
        with_reducible rfl
      rotate_left
      · simp only [Act.put, List.setIfInBounds_toArray, List.set_cons_zero, List.set_cons_succ, i64_w, i32_w]
        rfl
      refine take_ (i := 8) (N := some 26) (v := ?_) (a' := ?_) #[true, true, true, true, true, true, true, true, true, false, false, false, false, false, false, false, false, false] rfl rfl (take_ofW HT_.out HW_.out (by kernel_rfl)) (fun _ _ _ h => h) (Or.inl ⟨by rfl, ?_⟩) hHeld ?_ ?_
      rotate_left
      · rintro w' ⟨s0, s1, s2, s3⟩
        go_simp
        with_reducible rfl
      rotate_left
      · simp only [Act.put, List.setIfInBounds_toArray, List.set_cons_zero, List.set_cons_succ, i64_w, i32_w]
        rfl
      refine pure_ (i := 9) (N := some 27) (v := ?_) (a' := ?_) #[true, true, true, true, true, true, true, true, true, true, false, false, false, false, false, false, false, false] rfl rfl (any_of HT_.out (by kernel_rfl)) (fun _ _ _ h => h) (Or.inl ⟨by rfl, ?_⟩) ?_ ?_
      rotate_left
      · intro w'
        go_simp
        with_reducible rfl
      rotate_left
      · simp only [Act.put, List.setIfInBounds_toArray, List.set_cons_zero, List.set_cons_succ, i64_w, i32_w]
        rfl
      refine pure_ (i := 10) (N := some 28) (v := ?_) (a' := ?_) #[true, true, true, true, true, true, true, true, true, true, true, false, false, false, false, false, false, false] rfl rfl (any_of HT_.out (by kernel_rfl)) (fun _ _ _ h => h) (Or.inl ⟨by rfl, ?_⟩) ?_ ?_
      rotate_left
      · intro w'
        go_simp
        with_reducible rfl
      rotate_left
      · simp only [Act.put, List.setIfInBounds_toArray, List.set_cons_zero, List.set_cons_succ, i64_w, i32_w]
        rfl
      refine take_ (i := 11) (N := some 29) (v := ?_) (a' := ?_) #[true, true, true, true, true, true, true, true, true, true, true, true, false, false, false, false, false, false] rfl rfl (take_ofW HT_.out HW_.out (by kernel_rfl)) (fun _ _ _ h => h) (Or.inl ⟨by rfl, ?_⟩) hHeld ?_ ?_
      rotate_left
      · rintro w' ⟨s0, s1, s2, s3⟩
        go_simp
        with_reducible rfl
      rotate_left
      · simp only [Act.put, List.setIfInBounds_toArray, List.set_cons_zero, List.set_cons_succ, i64_w, i32_w]
        rfl
      refine one_ (i := 12) (N := some 30) #[true, true, true, true, true, true, true, true, true, true, true, true, true, false, false, false, false, false] rfl rfl (one_of HT_.out (by kernel_rfl)) (by decide) (fun K hK => ?_)
      refine goes_ Try.func38 (by kernel_rfl) rfl #[.agg #[.slice A1 n1 c1, .slice A2 n2 c2, .int .i64 sn]] (by rfl) rfl rfl (by (try simp only [List.map_toArray, List.map_cons, List.map_nil]); first | done | rfl | (go_simp; done) | simp [Act.eval]) ?_
      have hcl := copied_calls (f := f) (Kd.R_reads' H1.out).2.2 (Kd.R_reads' H1.out).2.1 (Kd.R_reads' H2.out).2.2 (Kd.R_reads' H2.out).2.1 (by rw [← HN1.out]; exact HSF.out.1) (by rw [← HN2.out]; exact HSF.out.2)
      rw [← HN1.out, ← HN2.out, ← HSN.out] at hcl
      refine hcl.mono ?_
      rintro e w1 ⟨v1, v2, rfl, hr1, hr2, hb1⟩
      clear hcl
      obtain ⟨B1, d1, q1⟩ := Kd.R_slice hr1
      obtain ⟨B2, d2, q2⟩ := Kd.R_slice hr2
      rw [← HN1.out] at q1
      rw [← HN2.out] at q2
      subst q1
      subst q2
      have H5 := Aside0.mk hr1
      have H6 := Aside0.mk hr2
      have HB1 := Aside0.mk hb1
      have HC1 := Aside0.mk (HC.out.below hb1)
      have hcg := (hb1.cell (p := ⟨g, 2, none⟩) HC.out.lt).trans HS.out.1
      have hgr : gr < w.drew.heap.size := by have := HC.out.own gr (by simp [Value.ownBlock]); omega
      have hcr := fun o => hb1.cell (p := ⟨gr, o, none⟩) hgr
      have HS1 := Aside0.mk (show w1.cell? ⟨g, 2, none⟩ = some (.slice (some ⟨gr, 0, none⟩) nL cf) ∧ w1.cell? ⟨gr, i * 3, none⟩ = some (.slice A1 n1 c1) ∧ w1.cell? ⟨gr, i * 3 + 1, none⟩ = some (.slice A2 n2 c2) ∧ w1.cell? ⟨gr, i * 3 + 2, none⟩ = some (.int .i64 sn) from ⟨hcg, (hcr _).trans HS.out.2.1, (hcr _).trans HS.out.2.2.1, (hcr _).trans HS.out.2.2.2⟩)
      clear hr1 hr2 hb1 hcg hgr hcr
      refine ⟨_, rfl, ?_⟩
      refine hK.out _ _ HS1.out (fun hHeld => ?_)
      clear hK K
      refine norm_ (a' := ?_) ?_ ?_
      rotate_left
      · show Act.put _ (some 30) _ = _
        simp only [Act.put, List.setIfInBounds_toArray, List.set_cons_zero, List.set_cons_succ, i64_w, i32_w]
        rfl
      refine one_ (i := 13) (N := some 31) #[true, true, true, true, true, true, true, true, true, true, true, true, true, true, false, false, false, false] rfl rfl (one_of HT_.out (by kernel_rfl)) (by decide) (fun K hK => ?_)
      have hb := below_alloc (Below.refl w1.heap.size w1) (.cells #[.slice B1 n1 d1, .slice B2 n2 d2, .int .i64 sn] 50)
      have hgr : gr < w1.heap.size := (HC1.out.own gr (by simp [Value.ownBlock])).2
      have HS2 : Aside0 ((w1.alloc (.cells #[.slice B1 n1 d1, .slice B2 n2 d2, .int .i64 sn] 50)).cell? ⟨g, 2, none⟩ = some (.slice (some ⟨gr, 0, none⟩) nL cf) ∧ (w1.alloc (.cells #[.slice B1 n1 d1, .slice B2 n2 d2, .int .i64 sn] 50)).cell? ⟨gr, i * 3, none⟩ = some (.slice A1 n1 c1) ∧ (w1.alloc (.cells #[.slice B1 n1 d1, .slice B2 n2 d2, .int .i64 sn] 50)).cell? ⟨gr, i * 3 + 1, none⟩ = some (.slice A2 n2 c2) ∧ (w1.alloc (.cells #[.slice B1 n1 d1, .slice B2 n2 d2, .int .i64 sn] 50)).cell? ⟨gr, i * 3 + 2, none⟩ = some (.int .i64 sn)) := Aside0.mk ⟨(hb.cell (p := ⟨g, 2, none⟩) HC1.out.lt).trans HS1.out.1, (hb.cell (p := ⟨gr, i * 3, none⟩) hgr).trans HS1.out.2.1, (hb.cell (p := ⟨gr, i * 3 + 1, none⟩) hgr).trans HS1.out.2.2.1, (hb.cell (p := ⟨gr, i * 3 + 2, none⟩) hgr).trans HS1.out.2.2.2⟩
      clear hb hgr
      refine value_ (w1 := ?_) (v := ?_) (by rfl) rfl ?_ ?_
      rotate_left 2
      · go_simp
        constructor
        · rfl
        · rfl
      refine hK.out _ _ HS2.out (fun hHeld => ?_)
      clear hK K
      refine norm_ (a' := ?_) ?_ ?_
      rotate_left
      · show Act.put _ (some 31) _ = _
        simp only [Act.put, List.setIfInBounds_toArray, List.set_cons_zero, List.set_cons_succ, i64_w, i32_w]
        rfl
      refine last_ (i := 14) (N := some 32) #[true, true, true, true, true, true, true, true, true, true, true, true, true, true, true, false, false, false] rfl rfl (one_of HT_.out (by kernel_rfl)) (by decide) (fun K hK => ?_)
      refine Kd.R_append_step kFl (w0 := w1) n₀ (by rfl) (.tmp 22) (.tmp 31) 65 50 (.agg #[.slice none 0 0, .slice none 0 0, .int .i64 0]) 56 rfl Try.underlying65 fl_info rfl (by decide) (by omega) (.slice (some ⟨gr, 0, none⟩) nL cf) L f [.slice B1 n1 d1, .slice B2 n2 d2, .int .i64 sn] (fun _ => True) (fun k => w.drew.heap.size ≤ k) (by first | rfl | (go_simp; done)) (by first | rfl | (go_simp; done) | (go_simp; rfl)) ?_ (fun k hk => ⟨trivial, fun e => by have := (HC.out.own k (by simpa [Value.ownBlock] using e.symm)).2; omega⟩) (fun _ _ => trivial) (by rw [HNL.out]; exact HC1.out.row) (Below.refl _ _) (by have := HC1.out.low; have := HC1.out.lt; omega) (by have := HLT.out; omega) ?_
      · rw [HN1.out, HN2.out, HSN.out]
        refine ⟨[.slice B1 f.1.length d1], [.slice B2 f.2.1.length d2, .int .i64 f.2.2], rfl, ⟨_, rfl, ?_⟩, [.slice B2 f.2.1.length d2], [.int .i64 f.2.2], rfl, ⟨_, rfl, ?_⟩, rfl⟩
        · exact Kd.R_lower (Kd.R_mono (Kd.R_bound (by rw [← HN1.out]; exact H5.out)) (fun k ok => ok.2.1)) (by have := HC.out.low; have := HC.out.lt; omega)
        · exact Kd.R_lower (Kd.R_mono (Kd.R_bound (by rw [← HN2.out]; exact H6.out)) (fun k ok => ok.2.1)) (by have := HC.out.low; have := HC.out.lt; omega)
      intro v29 w3 ho hb3 hg3 hat3
      obtain ⟨A29, c29, e29⟩ := Kd.R_slice ho
      obtain ⟨n29, hn29⟩ : ∃ n29, n29 = (L ++ [f]).length := ⟨_, rfl⟩
      rw [← hn29] at e29
      subst e29
      have HA := Aside0.mk (HC1.out.rowed (L' := L ++ [f]) ho (by rw [← HNL.out]; exact hg3) (by rcases hat3 with q | q; exact .inl (by rw [q]; rfl); exact .inr (.inl q)))
      have HBG := Aside0.mk ((hg3.block g HC1.out.lt (by have := HC1.out.ne; simpa [Value.ownBlock] using this)).trans HC1.out.blk)
      clear ho hb3 hg3 hat3 hn29
      refine hK.out _ _ ?_
      clear hK K
      refine norm_ (a' := ?_) ?_ ?_
      rotate_left
      · show Act.put _ (some 32) _ = _
        simp only [Act.put, List.setIfInBounds_toArray, List.set_cons_zero, List.set_cons_succ, i64_w, i32_w]
        rfl
      refine pure_ (i := 15) (N := some 33) (v := ?_) (a' := ?_) #[true, true, true, true, true, true, true, true, true, true, true, true, true, true, true, true, false, false] rfl rfl (any_of HT_.out (by kernel_rfl)) (fun _ _ _ h => h) (Or.inl ⟨by rfl, ?_⟩) ?_ ?_
      rotate_left
      · intro w'
        go_simp
        with_reducible rfl
      rotate_left
      · simp only [Act.put, List.setIfInBounds_toArray, List.set_cons_zero, List.set_cons_succ, i64_w, i32_w]
        rfl
      refine pure_ (i := 16) (N := some 34) (v := ?_) (a' := ?_) #[true, true, true, true, true, true, true, true, true, true, true, true, true, true, true, true, true, false] rfl rfl (any_of HT_.out (by kernel_rfl)) (fun _ _ _ h => h) (Or.inl ⟨by rfl, ?_⟩) ?_ ?_
      rotate_left
      · intro w'
        go_simp
        with_reducible rfl
      rotate_left
      · simp only [Act.put, List.setIfInBounds_toArray, List.set_cons_zero, List.set_cons_succ, i64_w, i32_w]
        rfl
      refine last_ (i := 17) (N := none) #[true, true, true, true, true, true, true, true, true, true, true, true, true, true, true, true, true, true] rfl rfl (one_of HT_.out (by kernel_rfl)) (by decide) (fun K hK => ?_)
      have hcg : w3.cell? ⟨g, 2, none⟩ = some (.slice (some ⟨gr, 0, none⟩) L.length cf) := blk_cell HBG.out 2
      have hfz := blk_frozen HBG.out 2
      refine skip_ (w1 := ?_) (by rfl) rfl ?_ ?_
      rotate_left 1
      · go_simp
        rfl
      refine hK.out _ _ ?_
      clear hK K
      refine done_ (done_of HT_.out (by kernel_rfl)) ?_
      clear hcg hfz
      obtain ⟨h1, h2, h3⟩ := HA.out
      generalize (w3.setCell ⟨g, 2, none⟩ (.slice A29 n29 c29)) = w4 at h1 h2 h3 ⊢
      have HE := Aside0.mk (And.intro h1 (And.intro h2 h3))
      clear h1 h2 h3
      go_wp2
      go_ret
      exact ⟨by simp, _, HE.out.1, (Fr.of_below (below_step (below_drew1 (Below.refl w.heap.size w)) HB1.out)).seq HE.out.2.1, (Newer.refl w _).trans HB1.out.size HE.out.2.2⟩
    · have e1 : twE L.length k = 8 := by unfold twE; rw [if_pos hh, if_neg hlt]
      have e2 : twL k L = L := by unfold twL; rw [if_neg (by rw [e1]; decide)]
      rw [e1, e2]
      have hlb : decide (4096 ≤ (L.length : Int)) = true := decide_eq_true (by omega)
      have hE : (hasE L.length k != 0) = false := by rw [hh]; rfl
      obtain ⟨Af, cf, e⟩ := h.slice
      subst e
      have hc2 : w.cell? ⟨g, 2, none⟩ = some (.slice Af L.length cf) := blk_cell h.blk 2
      have HHAS := Aside0.mk (chas_calls h k)
      have HC := Aside0.mk h
      clear h e1 e2 hh
      go_enter Try.func15, Try.ntmps15
      go_wp2_with (go_at_call 37; refine HHAS.out.mono ?_; rintro e w1 ⟨rfl, rfl⟩)
      go_ret
      exact ⟨by simp, _, HC.out, Fr.refl _ _ _, Newer.refl _ _⟩
  · have e0 : hasE L.length k = 9 := by unfold hasE at hh ⊢; split; simp_all; rfl
    have e1 : twE L.length k = 9 := by unfold twE; rw [if_neg hh]
    have e2 : twL k L = L := by unfold twL; rw [if_neg (by rw [e1]; decide)]
    rw [e1, e2]
    have HHAS := Aside0.mk (chas_calls h k)
    rw [e0] at HHAS
    have HC := Aside0.mk h
    clear h e1 e2 hh e0
    go_enter Try.func15, Try.ntmps15
    go_wp2_with (go_at_call 37; refine HHAS.out.mono ?_; rintro e w1 ⟨rfl, rfl⟩)
    go_ret
    exact ⟨by simp, _, HC.out, Fr.refl _ _ _, Newer.refl _ _⟩
end Go.Proofs.Ytfplmoeahbjfmaa.P

-- YtfplmoeahbjfmaaPCDel
namespace Go.Proofs.Ytfplmoeahbjfmaa.P
open Go Go.Proofs Go.RowKit Go.Shelf Go.Proofs.YtfplmoeahbjfmaaW.PrintWords Go.Proofs.YtfplmoeahbjfmaaW.PrintLast Go.Proofs.YtfplmoeahbjfmaaW.PrintMore
set_option linter.unusedVariables false
set_option linter.unusedSimpArgs false

variable {n₀ g : Nat} {age now : Int} {v : Value} {L : List Fl}
/-- Cells behind a row's end are written. -/
theorem R_tail {α : Type} {d : Kd α} {e base n cap gr : Nat} {ok : Nat → Prop} {w : World} {xs : List α} (h : Kd.R d e w base ok (.slice (some ⟨gr, 0, none⟩) n cap) xs) {o : Nat} {vs : List Value} (ho : n * d.sz ≤ o) (hl : o + vs.length ≤ cap * d.sz) :
    Kd.R d e (w.setCells gr o vs) base ok (.slice (some ⟨gr, 0, none⟩) n cap) xs ∧ w.grownBy (w.setCells gr o vs) (some gr) := by
  have hn := (Kd.R_reads' h).1
  obtain ⟨h0, inner, ⟨hlen, ho2⟩, hr⟩ := h
  rcases ho2 with ⟨hv, _⟩ | ⟨g', cap', cur, hv, hb, hh, hnc, hcm, hcs, ht⟩
  · cases hv
  injection hv with ha _ hc
  injection ha with ha
  injection ha with hg
  subst hg; subst hc
  obtain ⟨cur', h3, h4, h5⟩ := setCells_row vs o w cur hh (by omega)
  obtain ⟨s1, s2, s3, s4⟩ := setCells_same gr vs o w
  have hfar : ∀ k, k ≠ gr → (w.setCells gr o vs).heap[k]? = w.heap[k]? := fun k hk => setCells_far vs _ k hk
  have hgr : w.grownBy (w.setCells gr o vs) (some gr) := ⟨s1, s2, s3, by omega, fun k _ hk => hfar k (fun e => hk (by rw [e]))⟩
  refine ⟨⟨h0, inner, ⟨hlen, .inr ⟨gr, cap, cur', by rw [hn], hb, h3, by omega, hcm, by omega, ?_⟩⟩, hr.imp_ (fun x c hm => d.M_move (fun k hk => hfar k (fun e => hk.2 (by rw [e]; simp [Value.ownBlock]))) hm)⟩, hgr⟩
  rw [h5]
  have hcl : cur.toList.length = cap * d.sz := by rw [Array.length_toList]; exact hcs
  rw [List.append_assoc, List.take_append_of_le_length (by rw [List.length_take, hcl]; rw [← hn]; omega), List.take_take, Nat.min_eq_left (by rw [← hn]; omega)]
  exact ht
/-- clear(s), s a slice of m datagrams inside a row's block. -/
theorem clear_fl (w : World) (gr o m c : Nat) (cur : Array Value) (hb : w.heap[gr]? = some (.cells cur 50 (0, 0))) (hl : o + 3 * m ≤ cur.size) (hm : 0 < m) :
    ∃ vs : List Value, vs.length = 3 * m ∧ (Builtin.clear_ #[65] 0 #[.slice (some ⟨gr, o, none⟩) m c]).run Try.prog w = .ok (.tuple #[]) (w.setCells gr o vs) := by
  have hz : (zeroValue 50).run Try.prog w = .ok (.agg #[.slice none 0 0, .slice none 0 0, .int .i64 0]) w := by kernel_rfl
  have hlen : (Builtin.zeroCells (Value.agg #[.slice none 0 0, .slice none 0 0, .int .i64 0]).cells m).toList.length = 3 * m := by simp [Builtin.zeroCells, Value.cells]; omega
  have hone : ∀ u ∈ (Builtin.zeroCells (Value.agg #[.slice none 0 0, .slice none 0 0, .int .i64 0]).cells m).toList, u.oneCell' = true := by
    intro u hu
    simp only [Builtin.zeroCells, Array.toList_map, List.mem_map] at hu
    obtain ⟨j, _, rfl⟩ := hu
    have : j % (Value.agg #[.slice none 0 0, .slice none 0 0, .int .i64 0]).cells.size < 3 := Nat.mod_lt _ (by decide)
    generalize j % (Value.agg #[.slice none 0 0, .slice none 0 0, .int .i64 0]).cells.size = q at this
    match q, this with
    | 0, _ => rfl
    | 1, _ => rfl
    | 2, _ => rfl
  refine ⟨_, hlen, ?_⟩
  have hst := run_storeCells_cells (P := Try.prog) gr o (Builtin.zeroCells (Value.agg #[.slice none 0 0, .slice none 0 0, .int .i64 0]).cells m).toList 0 w
    (fun j hj => by rw [cell_of_row w gr _ cur 50 (0, 0) hb]; simp; omega) (fun j _ => blk_frozen hb _) hone
  simp only [Nat.add_zero] at hst
  obtain ⟨m', rfl⟩ : ∃ m', m = m' + 1 := ⟨m - 1, by omega⟩
  simp [Builtin.clear_, run_underlying Try.underlying65, hz, hst]
theorem R_block {α : Type} {d : Kd α} {e base n cap gr : Nat} {ok : Nat → Prop} {w : World} {xs : List α} (h : Kd.R d e w base ok (.slice (some ⟨gr, 0, none⟩) n cap) xs) :
    ∃ cur, w.heap[gr]? = some (.cells cur e (0, 0)) ∧ cur.size = cap * d.sz := by
  obtain ⟨h0, inner, ⟨hlen, ho2⟩, hr⟩ := h
  rcases ho2 with ⟨hv, _⟩ | ⟨g', cap', cur, hv, hb, hh, hnc, hcm, hcs, ht⟩
  · cases hv
  injection hv with ha _ hc
  injection ha with ha
  injection ha with hg
  subst hg; subst hc
  exact ⟨cur, hh, hcs⟩
def del5.T : Bool × List (List Nat × List Nat) := (true, [([], []), ([], []), ([0, 1], [0, 1]), ([], []), ([], []), ([3, 4], [3, 4]), ([2, 5], [2, 5]), ([6, 6, 0, 1, 2, 3, 4, 5, 6], [0, 3, 6])])
def del5.B : List Nat := [0, 0, 3, 0, 0, 24, 63, 127]
theorem del5.tab : rtab .any (opsOf Try.f44 5) = del5.T := by kernel_rfl
theorem del5.bits : waitsOk del5.T.2 del5.B = true := by kernel_rfl
set_option maxRecDepth 100000 in
set_option maxHeartbeats 8000000 in
theorem del_calls {w : World} {gr n cap : Nat} {ok : Nat → Prop} (h : Kd.R kFl 50 w n₀ ok (.slice (some ⟨gr, 0, none⟩) n cap) L) (k : Nat) (hk : k < n) (hn5 : n ≤ 5000) :
    Calls Try.prog 44 #[.slice (some ⟨gr, 0, none⟩) n cap, .int .i64 (k : Int), .int .i64 ((k : Int) + 1)] w fun e w' =>
      e = .returned (.slice (some ⟨gr, 0, none⟩) (n - 1) cap) ∧ Kd.R kFl 50 w' n₀ ok (.slice (some ⟨gr, 0, none⟩) (n - 1) cap) (L.eraseIdx k) ∧ w.grownBy w' (some gr) := by
  have hne : ((k : Int) == (k : Int) + 1) = false := by rw [beq_eq_false_iff_ne]; omega
  have hcap : n ≤ cap := (Kd.R_reads' h).2.1
  obtain ⟨i0, hi, hz0, hsz, hz2⟩ := info_parts fl_info
  have hct := cut_to (P := Try.prog) 65 50 .i64 Try.underlying65 hi (some ⟨gr, 0, none⟩) n cap (k : Int) (by omega) (by omega) hcap
  have hcf := cut_from (P := Try.prog) 65 50 .i64 Try.underlying65 hi 3 hsz (some ⟨gr, 0, none⟩) n cap ((k : Int) + 1) (by omega) (by omega)
  have ek : ((k : Int) + 1).toNat = k + 1 := by omega
  rw [Int.toNat_natCast] at hct
  rw [ek] at hcf
  obtain ⟨As, hAs⟩ : ∃ As, As = (if cap = k + 1 then some (⟨gr, 0, none⟩ : Addr) else (some (⟨gr, 0, none⟩ : Addr)).map (·.add ((k + 1) * 3))) := ⟨_, rfl⟩
  rw [← hAs] at hcf
  have HA := Aside0.mk hAs
  have H := Aside0.mk h
  clear hAs h hz0 hz2 ek
  go_enter Try.func44, Try.ntmps44
  go_wp2_with fail
  refine start_ (n := 8) (S := fun _ => True) (ds := []) #[false, false, false, false, false, false, false, false] (by kernel_rfl) rfl rfl trivial (fun hHeld => ?_)
  refine with_tabW del5.tab del5.bits (fun HT_ HW_ => ?_)
  refine pure_ (i := 0) (N := some 20) (v := ?_) (a' := ?_) #[true, false, false, false, false, false, false, false] rfl rfl (any_of HT_.out (by kernel_rfl)) (fun _ _ _ h => h) (Or.inl ⟨by rfl, ?_⟩) ?_ ?_
  rotate_left
  · intro w'
    go_simp
    with_reducible rfl
  rotate_left
  · simp only [Act.put, List.setIfInBounds_toArray, List.set_cons_zero, List.set_cons_succ, i64_w, i32_w]
    rfl
  refine pure_ (i := 1) (N := some 21) (v := ?_) (a' := ?_) #[true, true, false, false, false, false, false, false] rfl rfl (any_of HT_.out (by kernel_rfl)) (fun _ _ _ h => h) (Or.inl ⟨by rfl, ?_⟩) ?_ ?_
  rotate_left
  · intro w'
    go_simp
    with_reducible rfl
  rotate_left
  · simp only [Act.put, List.setIfInBounds_toArray, List.set_cons_zero, List.set_cons_succ, i64_w, i32_w]
    rfl
  refine pure_ (i := 2) (N := some 22) (v := ?_) (a' := ?_) #[true, true, true, false, false, false, false, false] rfl rfl (any_of HT_.out (by kernel_rfl)) (fun _ _ _ h => h) (Or.inl ⟨by rfl, ?_⟩) ?_ ?_
  rotate_left
  · intro w'
    go_simp
    with_reducible rfl
  rotate_left
  · simp only [Act.put, List.setIfInBounds_toArray, List.set_cons_zero, List.set_cons_succ, i64_w, i32_w]
    rfl
  refine pure_ (i := 3) (N := some 23) (v := ?_) (a' := ?_) #[true, true, true, true, false, false, false, false] rfl rfl (any_of HT_.out (by kernel_rfl)) (fun _ _ _ h => h) (Or.inl ⟨by rfl, ?_⟩) ?_ ?_
  rotate_left
  · intro w'
    go_simp
    with_reducible rfl
  rotate_left
  · simp only [Act.put, List.setIfInBounds_toArray, List.set_cons_zero, List.set_cons_succ, i64_w, i32_w]
    rfl
  refine pure_ (i := 4) (N := some 24) (v := ?_) (a' := ?_) #[true, true, true, true, true, false, false, false] rfl rfl (any_of HT_.out (by kernel_rfl)) (fun _ _ _ h => h) (Or.inl ⟨by rfl, ?_⟩) ?_ ?_
  rotate_left
  · intro w'
    go_simp
    with_reducible rfl
  rotate_left
  · simp only [Act.put, List.setIfInBounds_toArray, List.set_cons_zero, List.set_cons_succ, i64_w, i32_w]
    rfl
  refine pure_ (i := 5) (N := some 25) (v := ?_) (a' := ?_) #[true, true, true, true, true, true, false, false] rfl rfl (any_of HT_.out (by kernel_rfl)) (fun _ _ _ h => h) (Or.inl ⟨by rfl, ?_⟩) ?_ ?_
  rotate_left
  · intro w'
    go_simp
    with_reducible rfl
  rotate_left
  · simp only [Act.put, List.setIfInBounds_toArray, List.set_cons_zero, List.set_cons_succ, i64_w, i32_w]
    rfl
  refine one_ (i := 6) (N := some 26) #[true, true, true, true, true, true, true, false] rfl rfl (one_of HT_.out (by kernel_rfl)) (by decide) (fun K hK => ?_)
  refine Kd.R_delete_step kFl (w0 := w.drew) n₀ (by rfl) (.tmp 22) (.tmp 25) 65 50 rfl Try.underlying65 fl_size (g := gr) (n := n) (c := cap) (k := k) (m := n - (k + 1)) (c2 := cap - (k + 1)) (A := As) (xs := L) (ok := ok) (by first | rfl | (go_simp; done)) (by first | rfl | (go_simp; done)) HA.out rfl (Kd.R_drew H.out) hk (Below.refl _ _) (by have := Kd.R_base H.out gr (by simp [Value.ownBlock]); have := Kd.R_lt H.out gr (by simp [Value.ownBlock]); show n₀ ≤ w.heap.size; omega) ?_
  intro w1 ho hb hg
  have HO := Aside0.mk ho
  have HG := Aside0.mk hg
  clear ho hb hg
  refine hK.out _ _ trivial (fun hHeld => ?_)
  clear hK K
  refine norm_ (a' := ?_) ?_ ?_
  rotate_left
  · show Act.put _ (some 26) _ = _
    simp only [Act.put, List.setIfInBounds_toArray, List.set_cons_zero, List.set_cons_succ, i64_w, i32_w]
    rfl
  refine pure_ (i := 7) (N := some 0) (v := ?_) (a' := ?_) #[true, true, true, true, true, true, true, true] rfl rfl (any_of HT_.out (by kernel_rfl)) (fun _ _ _ h => h) (Or.inl ⟨by rfl, ?_⟩) ?_ ?_
  rotate_left
  · intro w'
    go_simp
    with_reducible rfl
  rotate_left
  · simp only [Act.put, List.setIfInBounds_toArray, List.set_cons_zero, List.set_cons_succ, i64_w, i32_w]
    rfl
  refine done_ (done_of HT_.out (by kernel_rfl)) ?_
  clear hct hcf
  obtain ⟨cur, hcur, hcs⟩ := R_block HO.out
  obtain ⟨vs, hvl, hclr⟩ := clear_fl w1 gr ((n - 1) * 3) (n - (n - 1)) (cap - (n - 1)) cur hcur (by rw [hcs]; show _ ≤ cap * 3; omega) (by omega)
  have HT := Aside0.mk (R_tail HO.out (o := (n - 1) * 3) (vs := vs) (Nat.le_refl _) (by rw [hvl]; show _ ≤ cap * 3; omega))
  clear hcur hcs hvl
  go_wp2
  go_ret
  refine ⟨by simp, HT.out.1, ?_⟩
  have h1 := HG.out
  have h2 := HT.out.2
  exact ⟨h2.os.trans h1.os, h2.tape.trans h1.tape, h2.output.trans h1.output, Nat.le_trans h1.size h2.size, fun k hk hne => (h2.block k (Nat.lt_of_lt_of_le hk h1.size) hne).trans (h1.block k hk hne)⟩
end Go.Proofs.Ytfplmoeahbjfmaa.P

-- YtfplmoeahbjfmaaPCTake
namespace Go.Proofs.Ytfplmoeahbjfmaa.P
open Go Go.Proofs Go.RowKit Go.Shelf Go.Proofs.YtfplmoeahbjfmaaW.PrintWords Go.Proofs.YtfplmoeahbjfmaaW.PrintLast Go.Proofs.YtfplmoeahbjfmaaW.PrintMore
set_option linter.unusedVariables false
set_option linter.unusedSimpArgs false

variable {n₀ g : Nat} {age now : Int} {v : Value} {L : List Fl}
def tkF (k : Int) (L : List Fl) : Fl := if hasE L.length k = 0 then L.getD k.toNat ([], [], 0) else ([], [], 0)
def tkL (k : Int) (L : List Fl) : List Fl := if hasE L.length k = 0 then L.eraseIdx k.toNat else L
def CTakePost (w : World) (n₀ g : Nat) (age now : Int) (v : Value) (L : List Fl) (k : Int) (e : Ending) (w' : World) : Prop :=
  ∃ v1 v2 v', e = .returned (.tuple #[.agg #[v1, v2, .int .i64 (tkF k L).2.2], .int .i64 (hasE L.length k)]) ∧ Kd.R (Kd.int .u8) 5 w' w.heap.size (fun _ => True) v1 (tkF k L).1 ∧ Kd.R (Kd.int .u8) 5 w' w.heap.size (fun _ => True) v2 (tkF k L).2.1 ∧
    CS w' n₀ g age now v' (tkL k L) ∧ Fr g v w w' ∧ Newer w v v'
set_option maxRecDepth 100000 in
set_option maxHeartbeats 8000000 in
theorem ctake_calls {w : World} (h : CS w n₀ g age now v L) (k : Int) (hs : Short L) (h5 : L.length ≤ 5000) :
    Calls Try.prog 25 #[.pointer (some ⟨g, 0, none⟩), .int .i64 k] w (CTakePost w n₀ g age now v L k) := by
  have hba := below_alloc (Below.refl w.heap.size w) (.cells #[.slice none 0 0, .slice none 0 0, .int .i64 0] 50)
  have h4 := h.below hba
  have b4 : (w.alloc (.cells #[.slice none 0 0, .slice none 0 0, .int .i64 0] 50)).heap[w.heap.size]? = some (.cells #[.slice none 0 0, .slice none 0 0, .int .i64 0] 50 (0, 0)) := blk_new _ _
  have HHAS := Aside0.mk (chas_calls h4 k)
  by_cases hh : hasE L.length k = 0
  · have hk : 0 ≤ k ∧ k < L.length := by unfold hasE at hh; split at hh; assumption; omega
    obtain ⟨i, rfl⟩ := Int.eq_ofNat_of_zero_le hk.1
    have hil : i < L.length := by omega
    rw [hh] at HHAS
    obtain ⟨Af, cf, e⟩ := h.slice
    subst e
    obtain ⟨gr, cap, eg, _, _, _⟩ := Kd.R_form h.row (by omega)
    injection eg with eA _ eC
    subst eA
    subst eC
    obtain ⟨f, A1, c1, A2, c2, hLi, hf0, hf1, hf2, hr1, hr2⟩ := fl_get h4.row i hil
    have hfe : L.getD i ([], [], 0) = f := by rw [List.getD_eq_getElem?_getD, hLi]; rfl
    have e1 : tkF (i : Int) L = f := by unfold tkF; rw [if_pos hh, Int.toNat_natCast, hfe]
    have e2 : tkL (i : Int) L = L.eraseIdx i := by unfold tkL; rw [if_pos hh, Int.toNat_natCast]
    have hsf := hs f (List.mem_of_getElem? hLi)
    have hc2 : (w.alloc (.cells #[.slice none 0 0, .slice none 0 0, .int .i64 0] 50)).cell? ⟨g, 2, none⟩ = some (.slice (some ⟨gr, 0, none⟩) L.length cf) := blk_cell h4.blk 2
    have hg4 : g < w.heap.size := h.lt
    have hgr4 : gr < w.heap.size := (h.own gr (by simp [Value.ownBlock])).2
    have hgne : g ≠ gr := by have := h.ne; simp [Value.ownBlock] at this; exact this
    have HH := Aside0.mk (And.intro hh (And.intro e1 e2))
    have H0 := Aside0.mk h
    have H4 := Aside0.mk h4
    have HR1 := Aside0.mk hr1
    have HR2 := Aside0.mk hr2
    have HSF := Aside0.mk hsf
    have B4 := Aside0.mk b4
    have HBA := Aside0.mk hba
    have H5 := Aside0.mk h5
    obtain ⟨nL, hnL⟩ : ∃ nL, nL = L.length := ⟨_, rfl⟩
    rw [← hnL] at hc2 hil
    have hn5 : nL ≤ 5000 := by rw [hnL]; exact h5
    have HNL := Aside0.mk hnL
    obtain ⟨n1, hn1⟩ : ∃ n1, n1 = f.1.length := ⟨_, rfl⟩
    obtain ⟨n2, hn2⟩ : ∃ n2, n2 = f.2.1.length := ⟨_, rfl⟩
    obtain ⟨sn, hsn⟩ : ∃ sn, sn = f.2.2 := ⟨_, rfl⟩
    rw [← hn1] at hf0
    rw [← hn2] at hf1
    rw [← hsn] at hf2
    have HN1 := Aside0.mk hn1
    have HN2 := Aside0.mk hn2
    have HSN := Aside0.mk hsn
    clear h h4 hr1 hr2 hnL hn1 hn2 hsn hLi hfe hs hk e1 e2 hsf hh b4 hba h5
    go_enter Try.func25, Try.ntmps25
    go_wp2_with (go_at_call 37; refine HHAS.out.mono ?_; rintro e w1 ⟨rfl, rfl⟩)
    obtain ⟨w2, hw2⟩ : ∃ w2, w2 = ((w.alloc (.cells #[.slice none 0 0, .slice none 0 0, .int .i64 0] 50)).alloc (.cells #[.slice A1 n1 c1, .slice A2 n2 c2, .int .i64 sn] 50)) := ⟨_, rfl⟩
    have hb12 := below_alloc (Below.refl (w.alloc (.cells #[.slice none 0 0, .slice none 0 0, .int .i64 0] 50)).heap.size (w.alloc (.cells #[.slice none 0 0, .slice none 0 0, .int .i64 0] 50))) (.cells #[.slice A1 n1 c1, .slice A2 n2 c2, .int .i64 sn] 50)
    rw [← hw2] at hb12 ⊢
    have hC2 := H4.out.below hb12
    have hb02 := below_step HBA.out hb12
    have h42 := (hb12.block w.heap.size (by rw [World.size_alloc]; omega)).trans B4.out
    have h72 : w2.heap[w.heap.size + 1]? = some (.cells #[.slice A1 n1 c1, .slice A2 n2 c2, .int .i64 sn] 50 (0, 0)) := by
      rw [hw2]
      have := blk_new (w.alloc (.cells #[.slice none 0 0, .slice none 0 0, .int .i64 0] 50)) (.cells #[.slice A1 n1 c1, .slice A2 n2 c2, .int .i64 sn] 50)
      rw [World.size_alloc] at this
      exact this
    have hR12 := Kd.R_below HR1.out hb12
    have hR22 := Kd.R_below HR2.out hb12
    have hz2 : w2.heap.size = w.heap.size + 2 := by rw [hw2, World.size_alloc, World.size_alloc]
    have hrow2 : Kd.R kFl 50 w2 n₀ (fun k => k < w.heap.size) (.slice (some ⟨gr, 0, none⟩) nL cf) L := by rw [HNL.out]; exact Kd.R_below (Kd.R_mono (Kd.R_bound H0.out.row) (fun k ok => ok.2.2.1)) hb02
    have hdel := del_calls hrow2 i hil hn5
    obtain ⟨b4, hb4⟩ : ∃ b4, b4 = w.heap.size := ⟨_, rfl⟩
    obtain ⟨b7, hb7⟩ : ∃ b7, b7 = w.heap.size + 1 := ⟨_, rfl⟩
    rw [← hb7] at h72
    rw [← hb4] at h42
    rw [← hb4] at hb7
    have hne7 : b7 ≠ gr := by omega
    have hne7g : b7 ≠ g := by omega
    have hne4 : b4 ≠ gr := by omega
    have hne4g : b4 ≠ g := by omega
    rw [← hb4, ← hb7]
    have HB02 := Aside0.mk hb02
    have HZ2 := Aside0.mk (And.intro hz2 hb4)
    have HC2 := Aside0.mk hC2
    have HR12 := Aside0.mk hR12
    have HR22 := Aside0.mk hR22
    clear hw2 hb12 hC2 hb02 hR12 hR22 hz2 hrow2 hb7 hb4 HR1 HR2 B4 HBA hc2 hf0 hf1 hf2 H4
    refine hdel.mono ?_
    rintro e w3 ⟨rfl, hro, hgr⟩
    obtain ⟨hc5, hf5, hn5'⟩ := HC2.out.rowed (v' := .slice (some ⟨gr, 0, none⟩) (nL - 1) cf) (w2 := w3) (Kd.R_mono hro (fun _ _ => trivial)) (by simpa [Value.ownBlock] using hgr) (.inl rfl)
    have hbg3 := (hgr.block g (by have := HZ2.out.1; omega) (fun e => hgne (by injection e))).trans HC2.out.blk
    have hc3 : w3.cell? ⟨g, 2, none⟩ = some (.slice (some ⟨gr, 0, none⟩) L.length cf) := blk_cell hbg3 2
    have hfz3 : w3.frozen? ⟨g, 2, none⟩ = false := blk_frozen hbg3 2
    have hro4 := Kd.R_set hro hbg3 (by decide) 2 (.slice (some ⟨gr, 0, none⟩) (nL - 1) cf)
    have h73 := (Below.heap_setCell w3 ⟨g, 2, none⟩ (.slice (some ⟨gr, 0, none⟩) (nL - 1) cf) b7 hne7g).trans ((hgr.block b7 (blk_lt h72) (fun e => hne7 (by injection e))).trans h72)
    have h43 := (Below.heap_setCell w3 ⟨g, 2, none⟩ (.slice (some ⟨gr, 0, none⟩) (nL - 1) cf) b4 hne4g).trans ((hgr.block b4 (blk_lt h42) (fun e => hne4 (by injection e))).trans h42)
    have HR13 := Aside0.mk (Kd.R_step (w1 := w3.setCell ⟨g, 2, none⟩ (.slice (some ⟨gr, 0, none⟩) (nL - 1) cf)) (Kd.R_types HR12.out HC2.out.blk (by decide)) (fun k ok hk => hf5.block k hk ok.2 (fun e => ok.1.2 (by simpa [Value.ownBlock] using e))))
    have HR23 := Aside0.mk (Kd.R_step (w1 := w3.setCell ⟨g, 2, none⟩ (.slice (some ⟨gr, 0, none⟩) (nL - 1) cf)) (Kd.R_types HR22.out HC2.out.blk (by decide)) (fun k ok hk => hf5.block k hk ok.2 (fun e => ok.1.2 (by simpa [Value.ownBlock] using e))))
    obtain ⟨w4, hw4⟩ : ∃ w4, w4 = w3.setCell ⟨g, 2, none⟩ (.slice (some ⟨gr, 0, none⟩) (nL - 1) cf) := ⟨_, rfl⟩
    rw [← hw4] at h73 h43 HR13 HR23 hc5 hf5 hro4
    have HRO := Aside0.mk hro4
    have HC5 := Aside0.mk hc5
    have HF5 := Aside0.mk hf5
    have HN5 := Aside0.mk hn5'
    have H73 := Aside0.mk h73
    have H43 := Aside0.mk h43
    have hd0 : w4.cell? ⟨b7, 0, none⟩ = some (.slice A1 n1 c1) := blk_cell h73 0
    have hd1 : w4.cell? ⟨b7, 1, none⟩ = some (.slice A2 n2 c2) := blk_cell h73 1
    have hd2 : w4.cell? ⟨b7, 2, none⟩ = some (.int .i64 sn) := blk_cell h73 2
    rw [hw4] at hd0 hd1 hd2
    have HW4 := Aside0.mk hw4
    clear hro hro4 hgr hc5 hf5 hn5' hbg3 h73 h43 h72 h42 hw4
    go_wp2_with fail
    rw [← HW4.out]
    have hcl := copied_calls (w := w4) (f := f) (Kd.R_reads' HR13.out).2.2 (Kd.R_reads' HR13.out).2.1 (Kd.R_reads' HR23.out).2.2 (Kd.R_reads' HR23.out).2.1 HSF.out.1 HSF.out.2
    rw [← HN1.out, ← HN2.out, ← HSN.out] at hcl
    refine hcl.mono ?_
    rintro e w5 ⟨v1, v2, rfl, hr1, hr2, hb5⟩
    clear hcl
    obtain ⟨B1, d1, q1⟩ := Kd.R_slice hr1
    obtain ⟨B2, d2, q2⟩ := Kd.R_slice hr2
    rw [← HN1.out] at q1
    rw [← HN2.out] at q2
    subst q1
    subst q2
    have h45 := (hb5.block b4 (blk_lt H43.out)).trans H43.out
    have he0 : w5.cell? ⟨b4, 0, none⟩ = some (.slice none 0 0) := blk_cell h45 0
    have he1 : w5.cell? ⟨b4, 1, none⟩ = some (.slice none 0 0) := blk_cell h45 1
    have he2 : w5.cell? ⟨b4, 2, none⟩ = some (.int .i64 0) := blk_cell h45 2
    have hfz5 := fun q => blk_frozen h45 q
    have H45 := Aside0.mk h45
    have HB5 := Aside0.mk hb5
    have HV1 := Aside0.mk hr1
    have HV2 := Aside0.mk hr2
    clear hr1 hr2 hb5 h45 hd0 hd1 hd2
    go_wp2_with fail
    have bF : (((w5.setCell ⟨b4, 0, none⟩ (.slice B1 n1 d1)).setCell ⟨b4, 1, none⟩ (.slice B2 n2 d2)).setCell ⟨b4, 2, none⟩ (.int .i64 sn)).heap[b4]? = some (.cells #[.slice B1 n1 d1, .slice B2 n2 d2, .int .i64 sn] 50 (0, 0)) :=
      blk_put (cs := #[.slice B1 n1 d1, .slice B2 n2 d2, .int .i64 0]) (blk_put (cs := #[.slice B1 n1 d1, .slice none 0 0, .int .i64 0]) (blk_put H45.out 0 _ rfl) 1 _ rfl) 2 _ rfl
    have hFF : ∀ k, k ≠ b4 → (((w5.setCell ⟨b4, 0, none⟩ (.slice B1 n1 d1)).setCell ⟨b4, 1, none⟩ (.slice B2 n2 d2)).setCell ⟨b4, 2, none⟩ (.int .i64 sn)).heap[k]? = w5.heap[k]? := fun k hk =>
      (Below.heap_setCell _ ⟨b4, 2, none⟩ _ k hk).trans ((Below.heap_setCell _ ⟨b4, 1, none⟩ _ k hk).trans (Below.heap_setCell _ ⟨b4, 0, none⟩ _ k hk))
    have hSZ : (((w5.setCell ⟨b4, 0, none⟩ (.slice B1 n1 d1)).setCell ⟨b4, 1, none⟩ (.slice B2 n2 d2)).setCell ⟨b4, 2, none⟩ (.int .i64 sn)).heap.size = w5.heap.size := by simp
    have hOS : Below w.heap.size w5 (((w5.setCell ⟨b4, 0, none⟩ (.slice B1 n1 d1)).setCell ⟨b4, 1, none⟩ (.slice B2 n2 d2)).setCell ⟨b4, 2, none⟩ (.int .i64 sn)) := ⟨rfl, rfl, rfl, by simp, fun k hk => hFF k (by have := HZ2.out.2; omega)⟩
    generalize (((w5.setCell ⟨b4, 0, none⟩ (.slice B1 n1 d1)).setCell ⟨b4, 1, none⟩ (.slice B2 n2 d2)).setCell ⟨b4, 2, none⟩ (.int .i64 sn)) = wF at bF hFF hSZ hOS ⊢
    refine bodyPost_ret (v := .tuple #[.agg #[.slice B1 n1 d1, .slice B2 n2 d2, .int .i64 sn], .int .i64 0]) ?_ rfl ?_
    · have e0 : wF.cell? ⟨b4, 0, none⟩ = some (.slice B1 n1 d1) := blk_cell bF 0
      have e1 : wF.cell? ⟨b4, 1, none⟩ = some (.slice B2 n2 d2) := blk_cell bF 1
      have e2 : wF.cell? ⟨b4, 2, none⟩ = some (.int .i64 sn) := blk_cell bF 2
      clear bF hFF hSZ hOS
      simp [results, Try.results25, go_sem, e0, e1, e2]
    · have hb44 : b4 < w4.heap.size := blk_lt H43.out
      have hw4 : w.heap.size ≤ w4.heap.size := by have := HZ2.out.2; omega
      refine ⟨.slice B1 n1 d1, .slice B2 n2 d2, .slice (some ⟨gr, 0, none⟩) (nL - 1) cf, ?_, ?_, ?_, ?_, ?_, ?_⟩
      · rw [HH.out.2.1, HH.out.1, HSN.out]
      · rw [HH.out.2.1]
        exact Kd.R_mono (Kd.R_lower (Kd.R_step (Kd.R_bound HV1.out) (fun k ok _ => hFF k (by have := ok.2.1; omega))) hw4) (fun _ _ => trivial)
      · rw [HH.out.2.1]
        exact Kd.R_mono (Kd.R_lower (Kd.R_step (Kd.R_bound HV2.out) (fun k ok _ => hFF k (by have := ok.2.1; omega))) hw4) (fun _ _ => trivial)
      · rw [HH.out.2.2]
        refine ⟨(hFF g hne4g.symm).trans (HC5.out.below HB5.out).blk, ?_, HC5.out.low⟩
        exact Kd.R_mono (Kd.R_step (Kd.R_below HRO.out HB5.out) (fun k ok _ => hFF k (by have := HZ2.out.2; omega))) (fun _ _ => trivial)
      · have h1 : Fr g (.slice (some ⟨gr, 0, none⟩) L.length cf) w w5 := ((Fr.of_below HB02.out).seq HF5.out).seq (Fr.of_below HB5.out)
        exact ⟨hOS.os.trans h1.os, hOS.tape.trans h1.tape, hOS.output.trans h1.output, Nat.le_trans h1.size (Nat.le_of_eq hSZ.symm), fun k hk hkg hkv => (hOS.block k hk).trans (h1.block k hk hkg hkv)⟩
      · exact .inl rfl
  · have e0 : hasE L.length k = 9 := by unfold hasE at hh ⊢; split; simp_all; rfl
    have e1 : tkF k L = ([], [], 0) := by unfold tkF; rw [if_neg hh]
    have e2 : tkL k L = L := by unfold tkL; rw [if_neg hh]
    rw [e0] at HHAS
    have H4 := Aside0.mk h4
    have HBA := Aside0.mk hba
    have HH := Aside0.mk (And.intro e0 (And.intro e1 e2))
    have hd0 : (w.alloc (.cells #[.slice none 0 0, .slice none 0 0, .int .i64 0] 50)).cell? ⟨w.heap.size, 0, none⟩ = some (.slice none 0 0) := blk_cell b4 0
    have hd1 : (w.alloc (.cells #[.slice none 0 0, .slice none 0 0, .int .i64 0] 50)).cell? ⟨w.heap.size, 1, none⟩ = some (.slice none 0 0) := blk_cell b4 1
    have hd2 : (w.alloc (.cells #[.slice none 0 0, .slice none 0 0, .int .i64 0] 50)).cell? ⟨w.heap.size, 2, none⟩ = some (.int .i64 0) := blk_cell b4 2
    have hfz := fun q => blk_frozen b4 q
    have B4 := Aside0.mk b4
    clear h h4 hh e0 e1 e2 hba b4
    go_enter Try.func25, Try.ntmps25
    go_wp2_with (go_at_call 37; refine HHAS.out.mono ?_; rintro e w1 ⟨rfl, rfl⟩)
    refine bodyPost_ret (v := .tuple #[.agg #[.slice none 0 0, .slice none 0 0, .int .i64 0], .int .i64 9]) ?_ rfl ?_
    · simp [results, Try.results25, go_sem, hd0, hd1, hd2]
    · refine ⟨.slice none 0 0, .slice none 0 0, v, ?_, ?_, ?_, ?_, Fr.of_below HBA.out, Newer.refl _ _⟩
      · rw [HH.out.2.1, HH.out.1]
      · rw [HH.out.2.1]; exact Kd.R_nil _ _ _ _ _
      · rw [HH.out.2.1]; exact Kd.R_nil _ _ _ _ _
      · rw [HH.out.2.2]; exact H4.out
set_option maxRecDepth 100000 in
set_option maxHeartbeats 8000000 in
theorem lose_calls {w : World} (h : CS w n₀ g age now v L) (k : Int) (hs : Short L) (h5 : L.length ≤ 5000) :
    Calls Try.prog 26 #[.pointer (some ⟨g, 0, none⟩), .int .i64 k] w fun e w' => e = .returned (.int .i64 (hasE L.length k)) ∧ ∃ v', CS w' n₀ g age now v' (tkL k L) ∧ Fr g v w w' ∧ Newer w v v' := by
  have HT := Aside0.mk (ctake_calls h k hs h5)
  clear h hs h5
  go_enter Try.func26, Try.ntmps26
  go_wp2_with (go_at_call 25; refine HT.out.mono ?_; rintro e w1 ⟨v1, v2, v', rfl, hr1, hr2, hc, hf, hn⟩; obtain ⟨B1, d1, q1⟩ := Kd.R_slice hr1; obtain ⟨B2, d2, q2⟩ := Kd.R_slice hr2; subst q1; subst q2; have HC := Aside0.mk hc; have HF := Aside0.mk hf; have HN := Aside0.mk hn; clear hr1 hr2 hc hf hn)
  go_ret
  exact ⟨by simp, v', HC.out.below (below_alloc (Below.refl _ _) _), HF.out.seq (Fr.of_below (below_alloc (Below.refl _ _) _)), HN.out⟩
end Go.Proofs.Ytfplmoeahbjfmaa.P

-- YtfplmoeahbjfmaaPCIdx
namespace Go.Proofs.Ytfplmoeahbjfmaa.P
open Go Go.Proofs Go.RowKit Go.Shelf Go.Proofs.YtfplmoeahbjfmaaW.PrintWords Go.Proofs.YtfplmoeahbjfmaaW.PrintLast Go.Proofs.YtfplmoeahbjfmaaW.PrintMore
set_option linter.unusedVariables false
set_option linter.unusedSimpArgs false

variable {n₀ g : Nat} {age now : Int} {v : Value} {L : List Fl}
/-- Is it too old? -/
def oldB (age now s : Int) : Bool := decide (age ≤ now - s)
/-- Steps within bounds. -/
def Since (now : Int) (L : List Fl) : Prop := ∀ f ∈ L, 0 ≤ f.2.2 ∧ f.2.2 ≤ 100000
/-- What the closure reads: the box that holds the channel's pointer, the channel's block. -/
structure Cap (w : World) (B g : Nat) (age now : Int) (v : Value) : Prop where
  box : w.heap[B]? = some (.cells #[.pointer (some ⟨g, 0, none⟩)] 24 (0, 0))
  blk : w.heap[g]? = some (.cells #[.int .i64 age, .int .i64 now, v] 67 (0, 0))
theorem Cap.below {w w' : World} {B : Nat} (h : Cap w B g age now v) (hb : Below w.heap.size w w') : Cap w' B g age now v := ⟨(hb.block B (blk_lt h.box)).trans h.box, (hb.block g (blk_lt h.blk)).trans h.blk⟩
set_option maxRecDepth 100000 in
set_option maxHeartbeats 8000000 in
theorem old_calls {w : World} {B : Nat} (h : Cap w B g age now v) (A1 A2 : Option Addr) (n1 c1 n2 c2 : Nat) (s : Int) (hn : 0 ≤ now ∧ now ≤ 100000) (hs : 0 ≤ s ∧ s ≤ 100000) :
    Calls Try.prog 36 #[.agg #[.slice A1 n1 c1, .slice A2 n2 c2, .int .i64 s], .pointer (some ⟨B, 0, none⟩)] w fun e w' => e = .returned (.bool (oldB age now s)) ∧ Below w.heap.size w w' := by
  have hb := below_alloc (Below.refl w.heap.size w) (.cells #[.slice A1 n1 c1, .slice A2 n2 c2, .int .i64 s] 50)
  have h1 := h.below hb
  have hc0 : (w.alloc (.cells #[.slice A1 n1 c1, .slice A2 n2 c2, .int .i64 s] 50)).cell? ⟨B, 0, none⟩ = some (.pointer (some ⟨g, 0, none⟩)) := blk_cell h1.box 0
  have hc1 : (w.alloc (.cells #[.slice A1 n1 c1, .slice A2 n2 c2, .int .i64 s] 50)).cell? ⟨g, 1, none⟩ = some (.int .i64 now) := blk_cell h1.blk 1
  have hc2 : (w.alloc (.cells #[.slice A1 n1 c1, .slice A2 n2 c2, .int .i64 s] 50)).cell? ⟨g, 0, none⟩ = some (.int .i64 age) := blk_cell h1.blk 0
  have HB := Aside0.mk hb
  obtain ⟨hn0, hn1⟩ := hn
  obtain ⟨hs0, hs1⟩ := hs
  have hwr : wrap64 (now - s) = now - s := by unfold wrap64; omega
  have hwi : IntKind.i64.wrap (now - s) = now - s := (i64_w _).trans hwr
  obtain ⟨z, hz⟩ : ∃ z, decide (age ≤ now - s) = z := ⟨_, rfl⟩
  have hz2 : oldB age now s = z := hz
  rw [hz2]
  clear h h1 hb hz2
  go_enter Try.func36, Try.ntmps36
  go_wp2_with fail
  go_quiet (fail)
  go_wp2
  go_ret
  exact ⟨by simp, below_step HB.out (pw_below_drewN (Below.refl _ _) _)⟩
/-- The first that is too old, or -1. -/
def idxOld (age now : Int) : List Fl → Int → Int
  | [], _ => -1
  | f :: L, i => if oldB age now f.2.2 then i else idxOld age now L (i + 1)
set_option maxRecDepth 100000 in
set_option maxHeartbeats 8000000 in
theorem idx_calls {w : World} {B gr n cap : Nat} {ok : Nat → Prop} (h : Cap w B g age now v) (hr : Kd.R kFl 50 w n₀ ok (.slice (some ⟨gr, 0, none⟩) n cap) L) (hn5 : n ≤ 5000) (hn : 0 ≤ now ∧ now ≤ 100000) (hs : Since now L) :
    Calls Try.prog 52 #[.slice (some ⟨gr, 0, none⟩) n cap, .func (.func 36) #[] #[.pointer (some ⟨B, 0, none⟩)]] w fun e w' => e = .returned (.int .i64 (idxOld age now L 0)) ∧ Below w.heap.size w w' := by
  have HH := Aside0.mk h
  have HR := Aside0.mk hr
  have HS := Aside0.mk hs
  have HN := Aside0.mk hn
  have hnl : n = L.length := (Kd.R_reads' hr).1
  have HNL := Aside0.mk hnl
  have HB := Aside0.mk (Below.refl w.heap.size w)
  clear h hr hs hn hnl
  go_enter Try.func52, Try.ntmps52
  go_wp2_with fail
  go_loopw [8] (fun v8 wr => ∃ i : Nat, v8 = .int .i64 (i : Int) ∧ i ≤ n ∧ Aside0 (Below w.heap.size w wr) ∧ Aside0 (idxOld age now L 0 = idxOld age now (L.drop i) (i : Int))) (fun v8 _ => n - (intOf v8).toNat)
  case atStart => exact ⟨0, by simp, by omega, HB, ⟨rfl⟩⟩
  case round =>
    clear HB
    obtain ⟨i, rfl, hi, HB, HI⟩ := hrel
    by_cases hlt : i < n
    · have hlb : decide ((i : Int) < (n : Int)) = true := decide_eq_true (by omega)
      obtain ⟨f, A1, c1, A2, c2, hLi, hf0, hf1, hf2, hr1, hr2⟩ := fl_get (Kd.R_below HR.out HB.out) i hlt
      obtain ⟨s, hs⟩ : ∃ s, s = f.2.2 := ⟨_, rfl⟩
      rw [← hs] at hf2
      obtain ⟨n1, hn1⟩ : ∃ n1, n1 = f.1.length := ⟨_, rfl⟩
      obtain ⟨n2, hn2⟩ : ∃ n2, n2 = f.2.1.length := ⟨_, rfl⟩
      rw [← hn1] at hf0
      rw [← hn2] at hf1
      have hsb : 0 ≤ s ∧ s ≤ 100000 := by rw [hs]; exact HS.out f (List.mem_of_getElem? hLi)
      have hil : i < L.length := by rw [← HNL.out]; exact hlt
      have hfe : L[i] = f := by rw [List.getElem?_eq_getElem hil] at hLi; injection hLi
      have HSTEP := Aside0.mk (show idxOld age now (L.drop i) (i : Int) = if oldB age now s then (i : Int) else idxOld age now (L.drop (i + 1)) ((i : Int) + 1) by rw [List.drop_eq_getElem_cons hil, hfe, hs]; rfl)
      have HO := Aside0.mk (old_calls (HH.out.below HB.out) A1 A2 n1 c1 n2 c2 s HN.out hsb)
      obtain ⟨z, hz⟩ : ∃ z, z = oldB age now s := ⟨_, rfl⟩
      rw [← hz] at HSTEP HO
      clear hr1 hr2 hn1 hn2 hs hsb hfe hLi hz hil
      cases z with
      | true =>
        go_wp2_with (go_at_call 36; refine HO.out.mono ?_; rintro e w1 ⟨rfl, hb⟩; have HB1 := Aside0.mk (below_step HB.out hb); clear hb)
        go_ret
        exact ⟨by rw [HI.out, HSTEP.out]; simp, HB1.out⟩
      | false =>
        go_wp2_with (go_at_call 36; refine HO.out.mono ?_; rintro e w1 ⟨rfl, hb⟩; have HB1 := Aside0.mk (below_step HB.out hb); clear hb)
        go_roundw
        case rel => exact ⟨i + 1, by simp, by omega, HB1, ⟨by rw [HI.out, HSTEP.out]; simp⟩⟩
        case measure => simp [intOf]; omega
    · have hlb : decide ((i : Int) < (n : Int)) = false := decide_eq_false (by omega)
      go_wp2
      go_ret
      exact ⟨by rw [HI.out, List.drop_of_length_le (by rw [← HNL.out]; omega)]; rfl, HB.out⟩
end Go.Proofs.Ytfplmoeahbjfmaa.P

-- YtfplmoeahbjfmaaPCDelF
namespace Go.Proofs.Ytfplmoeahbjfmaa.P
open Go Go.Proofs Go.RowKit Go.Shelf Go.Proofs.YtfplmoeahbjfmaaW.PrintWords Go.Proofs.YtfplmoeahbjfmaaW.PrintLast Go.Proofs.YtfplmoeahbjfmaaW.PrintMore
set_option linter.unusedVariables false
set_option linter.unusedSimpArgs false

variable {n₀ g : Nat} {age now : Int} {v : Value} {L : List Fl}
theorem Cap.grown {w w' : World} {B gr : Nat} (h : Cap w B g age now v) (hg : w.grownBy w' (some gr)) (h1 : B ≠ gr) (h2 : g ≠ gr) : Cap w' B g age now v :=
  ⟨(hg.block B (blk_lt h.box) (fun e => h1 (by injection e))).trans h.box, (hg.block g (blk_lt h.blk) (fun e => h2 (by injection e))).trans h.blk⟩
def keepL (age now : Int) (L : List Fl) : List Fl := L.filter fun f => !oldB age now f.2.2
theorem idx_cases (age now : Int) : ∀ (L : List Fl) (i : Int), (idxOld age now L i = -1 ∧ keepL age now L = L) ∨ ∃ j, j < L.length ∧ idxOld age now L i = i + (j : Int) ∧ keepL age now (L.take j) = L.take j ∧ ∀ f, L[j]? = some f → oldB age now f.2.2 = true := by
  intro L
  induction L with
  | nil => intro i; exact .inl ⟨rfl, rfl⟩
  | cons f L ih =>
    intro i
    unfold idxOld
    cases hf : oldB age now f.2.2 with
    | true => exact .inr ⟨0, by simp, by simp, by simp [keepL], fun f' h => by simp at h; rw [← h]; exact hf⟩
    | false =>
      rcases ih (i + 1) with ⟨h1, h2⟩ | ⟨j, h1, h2, h3, h4⟩
      · refine .inl ⟨by simp [h1], ?_⟩
        unfold keepL at h2 ⊢
        rw [List.filter_cons, hf, h2]; simp
      · refine .inr ⟨j + 1, by simp; omega, by simp [h2]; omega, ?_, fun f' h => h4 f' (by simpa using h)⟩
        unfold keepL at h3 ⊢
        rw [List.take_succ_cons, List.filter_cons, hf, h3]; simp
theorem grownBy_trans {a b c : World} {r : Option Nat} (h : a.grownBy b r) (k : b.grownBy c r) : a.grownBy c r :=
  ⟨k.os.trans h.os, k.tape.trans h.tape, k.output.trans h.output, Nat.le_trans h.size k.size, fun i hi hr => (k.block i (Nat.lt_of_lt_of_le hi h.size) hr).trans (h.block i hi hr)⟩
theorem grownBy_below {a b : World} {r : Option Nat} (h : Below a.heap.size a b) : a.grownBy b r := ⟨h.os, h.tape, h.output, h.size, fun i hi _ => h.block i hi⟩
theorem store_M {w w1 : World} {ok : Nat → Prop} {f : Fl} {A1 A2 : Option Addr} {c1 c2 n1 n2 : Nat} {s : Int} {cI : List Value} (hc : cI.length = 3) (h1 : Kd.R (Kd.int .u8) 5 w n₀ ok (.slice A1 f.1.length c1) f.1) (h2 : Kd.R (Kd.int .u8) 5 w n₀ ok (.slice A2 f.2.1.length c2) f.2.1)
    (e1 : n1 = f.1.length) (e2 : n2 = f.2.1.length) (e3 : s = f.2.2) (hb : Below w.heap.size w w1) : kFl.M w1 n₀ ok f (cI.take 0 ++ [.slice A1 n1 c1, .slice A2 n2 c2, .int .i64 s] ++ cI.drop (0 + 3)) := by
  subst e1; subst e2; subst e3
  rw [List.take_zero, List.nil_append, List.drop_of_length_le (by omega), List.append_nil]
  exact ⟨[.slice A1 f.1.length c1], [.slice A2 f.2.1.length c2, .int .i64 f.2.2], rfl, ⟨_, rfl, Kd.R_below h1 hb⟩, [.slice A2 f.2.1.length c2], [.int .i64 f.2.2], rfl, ⟨_, rfl, Kd.R_below h2 hb⟩, rfl⟩
/-- How far the row is sifted. -/
structure Sift (age now : Int) (L M : List Fl) (n i j : Nat) : Prop where
  lt : i < j
  le : j ≤ n
  len : M.length = n
  pre : M.take i = keepL age now (L.take j)
  suf : M.drop j = L.drop j
theorem Sift.get {M : List Fl} {n i j : Nat} (h : Sift age now L M n i j) (hn : n = L.length) (hj : j < n) : M[j]? = L[j]? := by
  have := congrArg (fun l => l[0]?) h.suf
  simpa [List.getElem?_drop] using this
theorem Sift.skip {M : List Fl} {n i j : Nat} (h : Sift age now L M n i j) (hn : n = L.length) (hj : j < n) {f : Fl} (hf : L[j]? = some f) (ho : oldB age now f.2.2 = true) : Sift age now L M n i (j + 1) := by
  have hl := h.lt
  refine ⟨by omega, by omega, h.len, ?_, ?_⟩
  · rw [h.pre]
    unfold keepL
    have hjl : j < L.length := by omega
    rw [List.take_succ_eq_append_getElem hjl, List.filter_append]
    rw [List.getElem?_eq_getElem hjl] at hf
    injection hf with hf
    simp [hf, ho]
  · have := congrArg (List.drop 1) h.suf
    simpa [List.drop_drop] using this
theorem Sift.put {M : List Fl} {n i j : Nat} (h : Sift age now L M n i j) (hn : n = L.length) (hj : j < n) {f : Fl} (hf : L[j]? = some f) (ho : oldB age now f.2.2 = false) : Sift age now L (M.set i f) n (i + 1) (j + 1) := by
  have hl := h.lt
  have hlen := h.len
  refine ⟨by omega, by omega, by rw [List.length_set]; exact h.len, ?_, ?_⟩
  · have hjl : j < L.length := by omega
    unfold keepL
    rw [List.take_succ_eq_append_getElem hjl, List.filter_append]
    rw [List.getElem?_eq_getElem hjl] at hf
    injection hf with hf
    have hp := h.pre
    unfold keepL at hp
    rw [← hp, List.take_succ_eq_append_getElem (by rw [List.length_set]; omega), List.getElem_set_self]
    simp [hf, ho, List.take_set_of_le]
  · rw [List.drop_set_of_lt (by omega)]
    have := congrArg (List.drop 1) h.suf
    simpa [List.drop_drop] using this
set_option maxRecDepth 100000 in
set_option maxHeartbeats 8000000 in
theorem delf_calls {w : World} {B gr n cap : Nat} {ok : Nat → Prop} (h : Cap w B g age now v) (hr : Kd.R kFl 50 w n₀ ok (.slice (some ⟨gr, 0, none⟩) n cap) L) (hn5 : n ≤ 5000) (hn : 0 ≤ now ∧ now ≤ 100000) (hs : Since now L) :
    Calls Try.prog 35 #[.slice (some ⟨gr, 0, none⟩) n cap, .func (.func 36) #[] #[.pointer (some ⟨B, 0, none⟩)]] w fun e w' =>
      ∃ m, e = .returned (.slice (some ⟨gr, 0, none⟩) m cap) ∧ Kd.R kFl 50 w' n₀ ok (.slice (some ⟨gr, 0, none⟩) m cap) (keepL age now L) ∧ w.grownBy w' (some gr) := by
  have hnl : n = L.length := (Kd.R_reads' hr).1
  have HI := Aside0.mk (idx_calls h hr hn5 hn hs)
  obtain ⟨hbt, hgt⟩ : B ≠ gr ∧ g ≠ gr := by
    obtain ⟨cells, hc⟩ := Kd.R_typed hr gr (by simp [Value.ownBlock])
    refine ⟨fun e => ?_, fun e => ?_⟩
    · have hb := h.box; rw [e, hc] at hb; injection hb with hb; injection hb with _ hb; exact absurd hb (by decide)
    · have hb := h.blk; rw [e, hc] at hb; injection hb with hb; injection hb with _ hb; exact absurd hb (by decide)
  have HH := Aside0.mk h
  have HR := Aside0.mk hr
  have HS := Aside0.mk hs
  have HN := Aside0.mk hn
  have HNL := Aside0.mk hnl
  have HNE := Aside0.mk (And.intro hbt hgt)
  have hcap : n ≤ cap := (Kd.R_reads' hr).2.1
  rcases idx_cases age now L 0 with ⟨h1, h2⟩ | ⟨j0, h1, h2, h3, h4⟩
  · rw [h1] at HI
    have H2 := Aside0.mk h2
    clear h hr hs hn hnl h1 h2 hbt hgt
    go_enter Try.func35, Try.ntmps35
    go_wp2_with (go_at_call 52; refine HI.out.mono ?_; rintro e w1 ⟨rfl, hb⟩; have HB1 := Aside0.mk hb; clear hb)
    go_ret
    exact ⟨n, by simp, by rw [H2.out]; exact Kd.R_below HR.out HB1.out, grownBy_below HB1.out⟩
  · rw [h2, Int.zero_add] at HI
    have hj0 : j0 < n := by omega
    obtain ⟨f0, hf0⟩ : ∃ f0, L[j0]? = some f0 := ⟨_, List.getElem?_eq_getElem h1⟩
    have HS0 := Aside0.mk (show Sift age now L L n j0 (j0 + 1) from by
      refine ⟨by omega, by omega, hnl.symm, ?_, rfl⟩
      unfold keepL at h3 ⊢
      rw [List.take_succ_eq_append_getElem h1, List.filter_append, h3]
      have := h4 f0 hf0
      rw [List.getElem?_eq_getElem h1] at hf0
      injection hf0 with hf0
      simp [hf0, this])
    have hj1 : ((j0 : Int) == -1) = false := by rw [beq_eq_false_iff_ne]; omega
    clear h hr hs hn hnl h1 h2 h3 h4 hbt hgt hf0
    go_enter Try.func35, Try.ntmps35
    go_wp2_with (go_at_call 52; refine HI.out.mono ?_; rintro e w1 ⟨rfl, hb⟩; have HG1 := Aside0.mk (grownBy_below (r := some gr) hb); have HR1 := Aside0.mk (Kd.R_below HR.out hb); clear hb)
    go_loopw [5, 6] (fun v5 v6 wr => ∃ (i j : Nat) (M : List Fl), v5 = .int .i64 (i : Int) ∧ v6 = .int .i64 (j : Int) ∧ i < j ∧ j ≤ n ∧ Aside0 (Sift age now L M n i j) ∧ Aside0 (Kd.R kFl 50 wr n₀ ok (.slice (some ⟨gr, 0, none⟩) n cap) M) ∧ Aside0 (w.grownBy wr (some gr))) (fun _ v6 _ => n - (intOf v6).toNat)
    case atStart => exact ⟨j0, j0 + 1, L, by simp, by simp, by omega, by omega, HS0, HR1, HG1⟩
    case round =>
      clear HG1 HR1 HS0 HI hj1 hj0
      obtain ⟨i, j, M, rfl, rfl, hij, hjn, HSI, HRM, HG⟩ := hrel
      by_cases hlt : j < n
      · have hlb : decide ((j : Int) < (n : Int)) = true := decide_eq_true (by omega)
        obtain ⟨f, A1, c1, A2, c2, hMj, hf0, hf1, hf2, hr1, hr2⟩ := fl_get HRM.out j hlt
        have hLj := hMj
        rw [HSI.out.get HNL.out hlt] at hLj
        have hsb := HS.out f (List.mem_of_getElem? hLj)
        obtain ⟨s, hs⟩ : ∃ s, s = f.2.2 := ⟨_, rfl⟩
        rw [← hs] at hf2 hsb
        obtain ⟨n1, hn1⟩ : ∃ n1, n1 = f.1.length := ⟨_, rfl⟩
        obtain ⟨n2, hn2⟩ : ∃ n2, n2 = f.2.1.length := ⟨_, rfl⟩
        rw [← hn1] at hf0
        rw [← hn2] at hf1
        obtain ⟨z, hz⟩ : ∃ z, z = oldB age now s := ⟨_, rfl⟩
        have hba := below_alloc (Below.refl wr.heap.size wr) (.cells #[.slice A1 n1 c1, .slice A2 n2 c2, .int .i64 s] 50)
        have HO := Aside0.mk (old_calls ((HH.out.grown HG.out HNE.out.1 HNE.out.2).below hba) A1 A2 n1 c1 n2 c2 s HN.out hsb)
        rw [← hz] at HO
        have HBA := Aside0.mk hba
        have HZ := Aside0.mk hz
        have HLJ := Aside0.mk hLj
        have HRR := Aside0.mk (And.intro hr1 hr2)
        have HNS := Aside0.mk (And.intro hn1 (And.intro hn2 hs))
        clear hr1 hr2 hn1 hn2 hs hsb hLj hMj hz hba
        cases z with
        | true =>
          go_wp2_with (go_at_call 36; refine HO.out.mono ?_; rintro e w1 ⟨rfl, hb⟩; have HB1 := Aside0.mk (below_step HBA.out hb); clear hb)
          go_roundw
          case rel => exact ⟨i, j + 1, M, by simp, by simp, by omega, by omega, ⟨HSI.out.skip HNL.out hlt HLJ.out (by rw [← HNS.out.2.2]; exact HZ.out.symm)⟩, ⟨Kd.R_below HRM.out HB1.out⟩, ⟨grownBy_trans HG.out (grownBy_below HB1.out)⟩⟩
          case measure => simp [intOf]; omega
        | false =>
          obtain ⟨cI, hcI, _, hccI, _⟩ := Kd.R_elem HRM.out ([], [], 0) (i : Int) (by omega) (by omega)
          have HCI := Aside0.mk (And.intro hcI hccI)
          clear hcI hccI
          go_wp2_with (first | (go_at_call 36; refine HO.out.mono ?_; rintro e w1 ⟨rfl, hb⟩; have HB1 := Aside0.mk (below_step HBA.out hb); have hb7 := (hb.block wr.heap.size (by rw [World.size_alloc]; omega)).trans (blk_new _ _); have hd0 : w1.cell? ⟨wr.heap.size, 0, none⟩ = some (.slice A1 n1 c1) := blk_cell hb7 0; have hd1 : w1.cell? ⟨wr.heap.size, 1, none⟩ = some (.slice A2 n2 c2) := blk_cell hb7 1; have hd2 : w1.cell? ⟨wr.heap.size, 2, none⟩ = some (.int .i64 s) := blk_cell hb7 2; clear hb hb7) | ((with_reducible refine gate_ (.store 50 (.tmp 33) (.tmp 32)) rfl ?_); refine Kd.R_store kFl (w0 := w1) n₀ rfl rfl 50 (.tmp 33) (.tmp 32) rfl 50 (g := gr) (n := n) (cap := cap) (o' := i * 3) (i : Int) 0 M f (.agg #[.slice A1 n1 c1, .slice A2 n2 c2, .int .i64 s]) [.slice A1 n1 c1, .slice A2 n2 c2, .int .i64 s] cI ok (fun k => ok k ∧ k ≠ gr) ?s1 ?s2 ?s3 rfl fl_size ?s4 (Kd.R_below HRM.out HB1.out) ?s5 ?s6 HCI.out.1 ?s7 ?s8 ?s9 (fun _ hk => hk) (Below.refl _ _) ?_; (case s1 => first | rfl | (go_simp; done)); (case s2 => rw [Int.toNat_natCast]; rfl); (case s3 => first | rfl | (go_simp; done)); (case s4 => intro q hq; simp at hq; rcases hq with rfl | rfl | rfl <;> rfl); (case s5 => omega); (case s6 => omega); (case s7 => intro q u hu; rw [(HB1.out.cell (p := ⟨gr, _, none⟩) (Kd.R_lt HRM.out gr (by simp [Value.ownBlock])))]; exact HCI.out.2 q u hu); (case s8 => exact Nat.le_refl _); (case s9 => exact store_M HCI.out.1 HRR.out.1 HRR.out.2 HNS.out.1 HNS.out.2.1 HNS.out.2.2 HB1.out); intro w2 ho hb hg; have HRM2 := Aside0.mk ho; have HG2 := Aside0.mk (grownBy_trans (grownBy_trans HG.out (grownBy_below HB1.out)) hg); clear ho hb hg))
          go_roundw
          case rel => exact ⟨i + 1, j + 1, M.set i f, by simp, by simp, by omega, by omega, ⟨HSI.out.put HNL.out hlt HLJ.out (by rw [← HNS.out.2.2]; exact HZ.out.symm)⟩, ⟨by have := HRM2.out; rw [Int.toNat_natCast] at this; exact this⟩, HG2⟩
          case measure => simp [intOf]; omega
      · have hlb : decide ((j : Int) < (n : Int)) = false := decide_eq_false (by omega)
        obtain rfl : j = n := by omega
        obtain ⟨cur, hcur, hcs⟩ := R_block HRM.out
        obtain ⟨vs, hvl, hclr⟩ := clear_fl wr gr (i * 3) (j - i) (cap - i) cur hcur (by rw [hcs]; show _ ≤ cap * 3; omega) (by omega)
        have HT := Aside0.mk (R_tail (Kd.R_take HRM.out (m := i) (by rw [HSI.out.len]; omega)) (o := i * 3) (vs := vs) (Nat.le_refl _) (by rw [hvl]; show _ ≤ cap * 3; omega))
        clear hcur hcs hvl
        go_wp2
        go_ret
        refine ⟨i, by simp, ?_, grownBy_trans HG.out HT.out.2⟩
        have h1 := HT.out.1
        rw [HSI.out.pre, List.take_of_length_le (by rw [HNL.out]; exact Nat.le_refl _)] at h1
        exact h1
end Go.Proofs.Ytfplmoeahbjfmaa.P

-- YtfplmoeahbjfmaaPCStep
namespace Go.Proofs.Ytfplmoeahbjfmaa.P
open Go Go.Proofs Go.RowKit Go.Shelf Go.Proofs.YtfplmoeahbjfmaaW.PrintWords Go.Proofs.YtfplmoeahbjfmaaW.PrintLast Go.Proofs.YtfplmoeahbjfmaaW.PrintMore
set_option linter.unusedVariables false
set_option linter.unusedSimpArgs false

variable {n₀ g : Nat} {age now : Int} {v : Value} {L : List Fl}
def step5.T : Bool × List (List Nat × List Nat) := (true, [([], []), ([], []), ([1], [1]), ([2], [2]), ([3], [3]), ([], []), ([4, 5], [4, 5]), ([0, 0, 1, 2, 3, 4, 5, 6], [0]), ([7, 0, 1, 2, 3, 4, 5, 6], [7]), ([8, 6, 6, 0, 1, 2, 3, 4, 5, 6], [6, 8])])
def step5.B : List Nat := [0, 0, 2, 6, 14, 0, 62, 127, 255, 511]
theorem step5.tab : rtab .any (opsOf Try.f13 5) = step5.T := by kernel_rfl
theorem step5.bits : waitsOk step5.T.2 step5.B = true := by kernel_rfl
/-- DeleteFunc of no row. -/
theorem delf_nil {w : World} {B : Nat} : Calls Try.prog 35 #[.slice none 0 0, .func (.func 36) #[] #[.pointer (some ⟨B, 0, none⟩)]] w fun e w' => e = .returned (.slice none 0 0) ∧ Below w.heap.size w w' := by
  have hidx : Calls Try.prog 52 #[.slice none 0 0, .func (.func 36) #[] #[.pointer (some ⟨B, 0, none⟩)]] w fun e w' => e = .returned (.int .i64 (-1)) ∧ w = w' := by
    go_enter Try.func52, Try.ntmps52
    go_wp2_with fail
    refine wp_loop_rounds 1 ?_
    rw [rounds_succ]
    go_wp2
    go_ret
    exact ⟨by simp, rfl⟩
  go_enter Try.func35, Try.ntmps35
  go_wp2_with (go_at_call 52; refine hidx.mono ?_; rintro e w1 ⟨rfl, rfl⟩)
  go_ret
  exact ⟨by simp, Below.refl _ _⟩
theorem delf_any {w : World} {B : Nat} {v2 : Value} (h : Cap w B g age now v2) (hr : Kd.R kFl 50 w n₀ (fun _ => True) v L) (hl : L.length ≤ 5000) (hn : 0 ≤ now ∧ now ≤ 100000) (hs : Since now L) :
    Calls Try.prog 35 #[v, .func (.func 36) #[] #[.pointer (some ⟨B, 0, none⟩)]] w fun e w' =>
      ∃ v', e = .returned v' ∧ Kd.R kFl 50 w' n₀ (fun _ => True) v' (keepL age now L) ∧ w.grownBy w' v.ownBlock ∧ v'.ownBlock = v.ownBlock := by
  obtain ⟨inner, ho⟩ := Kd.R_own hr
  rcases ho.2 with ⟨rfl, h0⟩ | ⟨gr, cap, cur, rfl, _⟩
  · have e : L = [] := List.eq_nil_of_length_eq_zero h0
    subst e
    refine delf_nil.mono ?_
    rintro e w' ⟨rfl, hb⟩
    exact ⟨_, rfl, Kd.R_nil _ _ _ _ _, grownBy_below hb, rfl⟩
  · refine (delf_calls h hr hl hn hs).mono ?_
    rintro e w' ⟨m, rfl, hr', hg⟩
    exact ⟨_, rfl, hr', by simpa [Value.ownBlock] using hg, rfl⟩
set_option maxRecDepth 100000 in
set_option maxHeartbeats 8000000 in
theorem step_calls {w : World} (h : CS w n₀ g age now v L) (hl : L.length ≤ 5000) (hn : 0 ≤ now ∧ now ≤ 10000) (hs : Since now L) :
    Calls Try.prog 13 #[.pointer (some ⟨g, 0, none⟩)] w fun e w' => e = .returned (.int .i64 ((L.length : Int) - ((keepL age (now + 1) L).length : Int))) ∧ ∃ v', CS w' n₀ g age (now + 1) v' (keepL age (now + 1) L) ∧ Fr g v w w' ∧ Newer w v v' := by
  obtain ⟨Af, cf, e⟩ := h.slice
  have hba := below_alloc (Below.refl w.heap.size w) (.cells #[.pointer (some ⟨g, 0, none⟩)] 24)
  have h1 := h.below hba
  have hB0 : (w.alloc (.cells #[.pointer (some ⟨g, 0, none⟩)] 24)).heap[w.heap.size]? = some (.cells #[.pointer (some ⟨g, 0, none⟩)] 24 (0, 0)) := blk_new _ _
  have hgB : g ≠ w.heap.size := by have := h.lt; omega
  obtain ⟨B, hB⟩ : ∃ B, B = w.heap.size := ⟨_, rfl⟩
  rw [← hB] at hB0 hgB
  have hc1 : (w.alloc (.cells #[.pointer (some ⟨g, 0, none⟩)] 24)).cell? ⟨g, 1, none⟩ = some (.int .i64 now) := blk_cell h1.blk 1
  have hfz := fun q => blk_frozen h1.blk q
  obtain ⟨hn0, hn1⟩ := hn
  obtain ⟨w2, hw2⟩ : ∃ w2, w2 = (w.alloc (.cells #[.pointer (some ⟨g, 0, none⟩)] 24)).setCell ⟨g, 1, none⟩ (.int .i64 (now + 1)) := ⟨_, rfl⟩
  have h2 := h1.now_ (now + 1)
  rw [← hw2] at h2
  have hB2 : w2.heap[B]? = some (.cells #[.pointer (some ⟨g, 0, none⟩)] 24 (0, 0)) := by rw [hw2]; exact (Below.heap_setCell _ ⟨g, 1, none⟩ _ B hgB.symm).trans hB0
  have hf2 : Fr g v w w2 := by rw [hw2]; exact (Fr.of_below hba).seq (Fr.set 1 _)
  have hbd : Below w2.heap.size w2 w2.drew := below_drew1 (Below.refl _ _)
  have hCap : Cap w2.drew B g age (now + 1) v := Cap.below ⟨hB2, h2.blk⟩ hbd
  have HDF := Aside0.mk (delf_any hCap (h2.below hbd).row hl ⟨by omega, by omega⟩ hs)
  have H2 := Aside0.mk h2
  have HF2 := Aside0.mk hf2
  have HBK := Aside0.mk (And.intro hB0 hB2)
  have HS := Aside0.mk (show w2.drew.cell? ⟨g, 2, none⟩ = some v ∧ w2.drew.cell? ⟨B, 0, none⟩ = some (.pointer (some ⟨g, 0, none⟩)) from ⟨blk_cell h2.blk 2, blk_cell hB2 0⟩)
  have hcb : (w.alloc (.cells #[.pointer (some ⟨g, 0, none⟩)] 24)).cell? ⟨w.heap.size, 0, none⟩ = some (.pointer (some ⟨g, 0, none⟩)) := by rw [← hB]; exact blk_cell hB0 0
  have hc2 : w2.cell? ⟨g, 2, none⟩ = some v := blk_cell h2.blk 2
  have hcb2 : w2.cell? ⟨B, 0, none⟩ = some (.pointer (some ⟨g, 0, none⟩)) := blk_cell hB2 0
  rw [e] at hc2
  have HE := Aside0.mk e
  have HB := Aside0.mk hB
  have HW2 := Aside0.mk hw2
  have HL := Aside0.mk hl
  rw [hw2] at hc2
  rw [hw2, hB] at hcb2
  have hgB2 : g ≠ w.heap.size := by rw [← hB]; exact hgB
  clear h h1 h2 hB0 hB2 hf2 hbd hCap e hB hw2 hgB hl hs hba
  go_enter Try.func13, Try.ntmps13
  go_wp2_with fail
  rw [← HW2.out, ← HB.out]
  clear hc1 hfz hcb hc2 hcb2 hgB2 HW2
  rw [HE.out] at HS HDF
  have hlen : L.length ≤ 5000 := HL.out
  refine start_ (n := 10) (S := (fun w' => w'.cell? ⟨g, 2, none⟩ = some (.slice Af L.length cf) ∧ w'.cell? ⟨B, 0, none⟩ = some (.pointer (some ⟨g, 0, none⟩)))) (ds := [9]) #[false, false, false, false, false, false, false, false, false, false] (by kernel_rfl) rfl rfl HS.out (fun hHeld => ?_)
  refine with_tabW step5.tab step5.bits (fun HT_ HW_ => ?_)
  refine take_ (i := 0) (N := some 18) (v := ?_) (a' := ?_) #[true, false, false, false, false, false, false, false, false, false] rfl rfl (take_ofW HT_.out HW_.out (by kernel_rfl)) (fun _ _ _ h => h) (Or.inl ⟨by rfl, ?_⟩) hHeld ?_ ?_
  rotate_left
  · rintro w' ⟨s0, s1⟩
    go_simp
    with_reducible rfl
  rotate_left
  · simp only [Act.put, List.setIfInBounds_toArray, List.set_cons_zero, List.set_cons_succ, i64_w, i32_w]
    rfl
  refine take_ (i := 1) (N := some 19) (v := ?_) (a' := ?_) #[true, true, false, false, false, false, false, false, false, false] rfl rfl (take_ofW HT_.out HW_.out (by kernel_rfl)) (fun _ _ _ h => h) (Or.inl ⟨by rfl, ?_⟩) hHeld ?_ ?_
  rotate_left
  · rintro w' ⟨s0, s1⟩
    go_simp
    with_reducible rfl
  rotate_left
  · simp only [Act.put, List.setIfInBounds_toArray, List.set_cons_zero, List.set_cons_succ, i64_w, i32_w]
    rfl
  refine pure_ (i := 2) (N := some 20) (v := ?_) (a' := ?_) #[true, true, true, false, false, false, false, false, false, false] rfl rfl (any_of HT_.out (by kernel_rfl)) (fun _ _ _ h => h) (Or.inl ⟨by rfl, ?_⟩) ?_ ?_
  rotate_left
  · intro w'
    go_simp
    with_reducible rfl
  rotate_left
  · simp only [Act.put, List.setIfInBounds_toArray, List.set_cons_zero, List.set_cons_succ, i64_w, i32_w]
    rfl
  refine pure_ (i := 3) (N := some 21) (v := ?_) (a' := ?_) #[true, true, true, true, false, false, false, false, false, false] rfl rfl (any_of HT_.out (by kernel_rfl)) (fun _ _ _ h => h) (Or.inl ⟨by rfl, ?_⟩) ?_ ?_
  rotate_left
  · intro w'
    go_simp
    with_reducible rfl
  rotate_left
  · simp only [Act.put, List.setIfInBounds_toArray, List.set_cons_zero, List.set_cons_succ, i64_w, i32_w]
    rfl
  refine take_ (i := 4) (N := some 22) (v := ?_) (a' := ?_) #[true, true, true, true, true, false, false, false, false, false] rfl rfl (take_ofW HT_.out HW_.out (by kernel_rfl)) (fun _ _ _ h => h) (Or.inl ⟨by rfl, ?_⟩) hHeld ?_ ?_
  rotate_left
  · rintro w' ⟨s0, s1⟩
    go_simp
    with_reducible rfl
  rotate_left
  · simp only [Act.put, List.setIfInBounds_toArray, List.set_cons_zero, List.set_cons_succ, i64_w, i32_w]
    rfl
  refine pure_ (i := 5) (N := some 23) (v := ?_) (a' := ?_) #[true, true, true, true, true, true, false, false, false, false] rfl rfl (any_of HT_.out (by kernel_rfl)) (fun _ _ _ h => h) (Or.inl ⟨by rfl, ?_⟩) ?_ ?_
  rotate_left
  · intro w'
    go_simp
    with_reducible rfl
  rotate_left
  · simp only [Act.put, List.setIfInBounds_toArray, List.set_cons_zero, List.set_cons_succ, i64_w, i32_w]
    rfl
  refine one_ (i := 6) (N := some 24) #[true, true, true, true, true, true, true, false, false, false] rfl rfl (one_of HT_.out (by kernel_rfl)) (by decide) (fun K hK => ?_)
  refine goes_ Try.func35 (by kernel_rfl) rfl #[.slice Af L.length cf, .func (.func 36) #[] #[.pointer (some ⟨B, 0, none⟩)]] (by rfl) rfl rfl (by (try simp only [List.map_toArray, List.map_cons, List.map_nil]); first | done | rfl | (go_simp; done) | simp [Act.eval]) ?_
  refine HDF.out.mono ?_
  rintro e w3 ⟨v3, rfl, hr3, hg3, hat⟩
  obtain ⟨A3, c3, e3⟩ := Kd.R_slice hr3
  obtain ⟨n3, hn3⟩ : ∃ n3, n3 = (keepL age (now + 1) L).length := ⟨_, rfl⟩
  rw [← hn3] at e3
  subst e3
  have hg3' : w2.drew.grownBy w3 v.ownBlock := by rw [HE.out]; exact hg3
  have hC2 := H2.out.below (w' := w2.drew) (below_drew1 (Below.refl _ _))
  have hr3b := hC2.rowed (L' := keepL age (now + 1) L) hr3 hg3' (.inl (by rw [HE.out]; exact hat))
  have hbg3 := (hg3'.block g hC2.lt hC2.ne).trans hC2.blk
  have hB3 := (hg3'.block B (blk_lt HBK.out.2) (fun e => by have hx := Kd.R_ne hC2.row HBK.out.2 (by decide); exact hx (e.trans rfl))).trans HBK.out.2
  have HA := Aside0.mk hr3b
  have HBG := Aside0.mk (And.intro hbg3 hB3)
  have HN3 := Aside0.mk hn3
  clear hr3 hg3 hat hn3 hg3' hC2 hr3b hbg3 hB3
  refine ⟨_, rfl, ?_⟩
  refine hK.out _ _ ⟨(blk_cell HBG.out.1 2).trans (by rw [HE.out]; rfl), blk_cell HBG.out.2 0⟩ (fun hHeld => ?_)
  clear hK K
  refine norm_ (a' := ?_) ?_ ?_
  rotate_left
  · show Act.put _ (some 24) _ = _
    simp only [Act.put, List.setIfInBounds_toArray, List.set_cons_zero, List.set_cons_succ, i64_w, i32_w]
    rfl
  refine pure_ (i := 7) (N := some 25) (v := ?_) (a' := ?_) #[true, true, true, true, true, true, true, true, false, false] rfl rfl (any_of HT_.out (by kernel_rfl)) (fun _ _ _ h => h) (Or.inl ⟨by rfl, ?_⟩) ?_ ?_
  rotate_left
  · intro w'
    go_simp
    with_reducible rfl
  rotate_left
  · simp only [Act.put, List.setIfInBounds_toArray, List.set_cons_zero, List.set_cons_succ, i64_w, i32_w]
    rfl
  refine pure_ (i := 8) (N := some 26) (v := ?_) (a' := ?_) #[true, true, true, true, true, true, true, true, true, false] rfl rfl (any_of HT_.out (by kernel_rfl)) (fun _ _ _ h => h) (Or.inl ⟨by rfl, ?_⟩) ?_ ?_
  rotate_left
  · intro w'
    go_simp
    with_reducible rfl
  rotate_left
  · simp only [Act.put, List.setIfInBounds_toArray, List.set_cons_zero, List.set_cons_succ, i64_w, i32_w]
    rfl
  refine last_ (i := 9) (N := none) #[true, true, true, true, true, true, true, true, true, true] rfl rfl (one_of HT_.out (by kernel_rfl)) (by decide) (fun K hK => ?_)
  have hcg : w3.cell? ⟨g, 2, none⟩ = some v := blk_cell HBG.out.1 2
  have hfz := blk_frozen HBG.out.1 2
  refine skip_ (w1 := ?_) (by rfl) rfl ?_ ?_
  rotate_left 1
  · go_simp
    rfl
  refine hK.out _ _ ?_
  clear hK K
  refine done_ (done_of HT_.out (by kernel_rfl)) ?_
  clear hcg hfz
  obtain ⟨h1, h2, h3⟩ := HA.out
  have hb4 := (Below.heap_setCell w3 ⟨g, 2, none⟩ (.slice A3 n3 c3) B (fun e => by have hx := HBG.out.2; rw [e, HBG.out.1] at hx; simp at hx)).trans HBG.out.2
  generalize (w3.setCell ⟨g, 2, none⟩ (.slice A3 n3 c3)) = w4 at h1 h2 h3 hb4 ⊢
  have hd1 : w4.cell? ⟨B, 0, none⟩ = some (.pointer (some ⟨g, 0, none⟩)) := blk_cell hb4 0
  have hd2 : w4.cell? ⟨g, 2, none⟩ = some (.slice A3 n3 c3) := blk_cell h1.blk 2
  have hn3b : n3 ≤ L.length := by rw [HN3.out]; exact List.length_filter_le _ _
  have HE4 := Aside0.mk (And.intro h1 (And.intro h2 h3))
  clear h1 h2 h3 hb4
  go_wp2
  go_ret
  exact ⟨by rw [← HN3.out]; rfl, _, HE4.out.1, (HF2.out.seq (Fr.of_below (below_drew1 (Below.refl _ _)))).seq HE4.out.2.1, (Newer.refl w _).trans HF2.out.size HE4.out.2.2⟩
end Go.Proofs.Ytfplmoeahbjfmaa.P

-- YtfplmoeahbjfmaaPPMay
namespace Go.Proofs.Ytfplmoeahbjfmaa.P
open Go Go.Proofs Go.RowKit Go.Shelf Go.Proofs.YtfplmoeahbjfmaaW.PrintWords Go.Proofs.YtfplmoeahbjfmaaW.PrintLast Go.Proofs.YtfplmoeahbjfmaaW.PrintMore
set_option linter.unusedVariables false
set_option linter.unusedSimpArgs false

/-- The joiner at block g: under way or not, its text (a row of its own, from n₀ on), the next number, how many were bad. -/
structure JS (w : World) (n₀ g : Nat) (u : Bool) (v : Value) (xs : List Int) (nx bd : Int) : Prop where
  blk : w.heap[g]? = some (.cells #[.bool u, v, .int .i64 nx, .int .i64 bd] 77 (0, 0))
  row : Kd.R (Kd.int .u8) 5 w n₀ (fun _ => True) v xs
  low : n₀ ≤ g
  zero : u = false → v = .slice none 0 0 ∧ xs = []
variable {w w' : World} {n₀ g : Nat} {u : Bool} {v : Value} {xs : List Int} {nx bd : Int}
theorem JS.lt (h : JS w n₀ g u v xs nx bd) : g < w.heap.size := blk_lt h.blk
theorem JS.ne (h : JS w n₀ g u v xs nx bd) : some g ≠ v.ownBlock := Kd.R_ne h.row h.blk (by decide)
theorem JS.own (h : JS w n₀ g u v xs nx bd) : ∀ b, v.ownBlock = some b → n₀ ≤ b ∧ b < w.heap.size := by
  intro b hb
  obtain ⟨inner, ho⟩ := Kd.R_own h.row
  exact ⟨own_base ho b hb, own_lt ho b hb⟩
theorem JS.kept (h : JS w n₀ g u v xs nx bd) (hg : w'.heap[g]? = w.heap[g]?) (hr : ∀ b, v.ownBlock = some b → w'.heap[b]? = w.heap[b]?) : JS w' n₀ g u v xs nx bd := by
  refine ⟨hg.trans h.blk, ?_, h.low, h.zero⟩
  obtain ⟨h0, inner, ho, hp⟩ := h.row
  exact ⟨h0, inner, own_move ho hr, hp.imp_ (fun _ _ hm => hm)⟩
theorem JS.below (h : JS w n₀ g u v xs nx bd) (hb : Below w.heap.size w w') : JS w' n₀ g u v xs nx bd :=
  h.kept (hb.block g h.lt) fun b e => hb.block b (h.own b e).2
theorem JS.set_row (h : JS w n₀ g u v xs nx bd) (i : Nat) (x : Value) : Kd.R (Kd.int .u8) 5 (w.setCell ⟨g, i, none⟩ x) n₀ (fun _ => True) v xs := by
  obtain ⟨h0, inner, ho, hp⟩ := h.row
  exact ⟨h0, inner, own_move ho (fun b hb => Below.heap_setCell w ⟨g, i, none⟩ x b (fun e => h.ne (by rw [hb]; exact congrArg some e.symm))), hp.imp_ (fun _ _ hm => hm)⟩
theorem JS.set0 (h : JS w n₀ g u v xs nx bd) (u' : Bool) (hz : u' = false → v = .slice none 0 0 ∧ xs = []) : JS (w.setCell ⟨g, 0, none⟩ (.bool u')) n₀ g u' v xs nx bd :=
  ⟨blk_put h.blk 0 _ rfl, h.set_row 0 _, h.low, hz⟩
theorem JS.set2 (h : JS w n₀ g u v xs nx bd) (nx' : Int) : JS (w.setCell ⟨g, 2, none⟩ (.int .i64 nx')) n₀ g u v xs nx' bd :=
  ⟨blk_put h.blk 2 _ rfl, h.set_row 2 _, h.low, h.zero⟩
theorem JS.set3 (h : JS w n₀ g u v xs nx bd) (bd' : Int) : JS (w.setCell ⟨g, 3, none⟩ (.int .i64 bd')) n₀ g u v xs nx bd' :=
  ⟨blk_put h.blk 3 _ rfl, h.set_row 3 _, h.low, h.zero⟩
theorem JS.clear (h : JS w n₀ g u v xs nx bd) : JS ((w.setCell ⟨g, 0, none⟩ (.bool false)).setCell ⟨g, 1, none⟩ (.slice none 0 0)) n₀ g false (.slice none 0 0) [] nx bd :=
  ⟨blk_put (cs := #[.bool false, v, .int .i64 nx, .int .i64 bd]) (blk_put h.blk 0 _ rfl) 1 _ rfl, Kd.R_nil _ _ _ _ _, h.low, fun _ => ⟨rfl, rfl⟩⟩
set_option maxRecDepth 100000 in
set_option maxHeartbeats 4000000 in
theorem drop_calls (w : World) (n₀ g : Nat) (u : Bool) (v : Value) (xs : List Int) (nx bd : Int) (h : JS w n₀ g u v xs nx bd) (hb0 : 0 ≤ bd) (hb1 : bd ≤ 1000000) :
    Calls Try.prog 42 #[.pointer (some ⟨g, 0, none⟩)] w fun e w' => e = .returned (.tuple #[]) ∧ JS w' n₀ g false (.slice none 0 0) [] nx (bd + 1) ∧ Fr g v w w' ∧ w'.heap.size = w.heap.size := by
  have hc0 : w.cell? ⟨g, 0, none⟩ = some (.bool u) := blk_cell h.blk 0
  have hc1 : w.cell? ⟨g, 1, none⟩ = some v := blk_cell h.blk 1
  have hc3 : w.cell? ⟨g, 3, none⟩ = some (.int .i64 bd) := blk_cell h.blk 3
  have hf := fun i => blk_frozen h.blk i
  go_enter Try.func42, Try.ntmps42
  go_wp2
  refine bodyPost_end (results_none rfl _ _ _) rfl ?_
  refine ⟨by simp, ?_, ?_, by simp⟩
  · exact (h.set3 (bd + 1)).clear
  · exact ((Fr.set 3 _).seq (Fr.set 0 _)).seq (Fr.set 1 _)
set_option maxRecDepth 100000 in
set_option maxHeartbeats 4000000 in
/-- A first message may come always; another one where the text is under way and it is the next. -/
theorem may_calls (w : World) (n₀ g : Nat) (u : Bool) (v : Value) (xs : List Int) (nx bd : Int) (x y : Bool) (r : Int) (vp : Value) (h : JS w n₀ g u v xs nx bd) (hb0 : 0 ≤ bd) (hb1 : bd ≤ 1000000)
    (hx : x = true → r = 0) (hn : x = false → u = true ∧ nx % 64 = r) (hnx : 0 ≤ nx) (hnx1 : nx ≤ 1000000) (hvp : vp.oneCell' = true) :
    Calls Try.prog 43 #[.pointer (some ⟨g, 0, none⟩), .agg #[.bool x, .bool y, .int .i64 r, vp]] w fun e w' => e = .returned (.bool true) ∧
      (if x then ∃ v', JS w' n₀ g true v' [] 0 (if u then bd + 1 else bd) ∧ v' = .slice none 0 0 else JS w' n₀ g u v xs nx bd) ∧ Fr g v w w' ∧ w.heap.size ≤ w'.heap.size := by
  go_enter Try.func43, Try.ntmps43
  have hb := below_alloc (Below.refl w.heap.size w) (.cells #[.bool x, .bool y, .int .i64 r, vp] 79)
  have h1 := h.below hb
  have hfr := Fr.of_below (g := g) (v := v) hb
  have hsz : w.heap.size ≤ (w.alloc (.cells #[.bool x, .bool y, .int .i64 r, vp] 79)).heap.size := hb.size
  have HH := Aside0.mk h1
  have HF := Aside0.mk hfr
  have HS := Aside0.mk hsz
  have hc0 : (w.alloc (.cells #[.bool x, .bool y, .int .i64 r, vp] 79)).cell? ⟨g, 0, none⟩ = some (.bool u) := blk_cell h1.blk 0
  have hc2 : (w.alloc (.cells #[.bool x, .bool y, .int .i64 r, vp] 79)).cell? ⟨g, 2, none⟩ = some (.int .i64 nx) := blk_cell h1.blk 2
  have hfz := fun i => blk_frozen h1.blk i
  clear h h1 hfr hsz hb
  cases x with
  | true =>
    obtain rfl := hx rfl
    clear hx hn
    cases u with
    | true =>
      clear hc2
      go_wp2_with (go_at_call 42; refine (drop_calls _ n₀ g true v xs nx bd HH.out hb0 hb1).mono ?_; rintro e w1 ⟨rfl, hj, hf, hs⟩; have hfz1 := fun i => blk_frozen hj.blk i; have hq0 : w1.cell? ⟨g, 0, none⟩ = some (.bool false) := blk_cell hj.blk 0; have hq2 : w1.cell? ⟨g, 2, none⟩ = some (.int .i64 nx) := blk_cell hj.blk 2; have HJ := Aside0.mk hj; have HF1 := Aside0.mk hf; have HS1 := Aside0.mk hs; clear hj hf hs hfz hc0)
      go_ret
      refine ⟨by simp, ?_, ?_, ?_⟩
      · exact (HJ.out.set0 true (fun e => by cases e)).set2 0
      · exact (HF.out.seq HF1.out).seq ((Fr.set 0 _).seq (Fr.set 2 _))
      · have := HS.out; have := HS1.out; simp; omega
    | false =>
      go_wp2
      go_ret
      refine ⟨by simp, ?_, ?_, ?_⟩
      · have hz := HH.out.zero rfl
        have h2 := (HH.out.set0 true (fun e => by cases e)).set2 0
        rw [hz.1, hz.2] at h2
        exact h2
      · exact HF.out.seq ((Fr.set 0 _).seq (Fr.set 2 _))
      · have := HS.out; simp
  | false =>
    obtain ⟨rfl, hr⟩ := hn rfl
    have hrm : (r != nx.tmod 64) = false := by rw [Int.tmod_eq_emod_of_nonneg hnx, hr]; simp
    have hr2 : r = nx % 64 := hr.symm
    subst hr2
    clear hx hn hr
    go_wp2_with fail
    go_quiet (fail)
    go_wp2
    go_ret
    refine ⟨by simp, ?_, ?_, ?_⟩
    · exact HH.out.below (pw_below_drewN (Below.refl _ _) nq)
    · exact HF.out.seq (Fr.of_below (pw_below_drewN (Below.refl _ _) nq))
    · exact HS.out
end Go.Proofs.Ytfplmoeahbjfmaa.P
