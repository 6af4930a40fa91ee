/- Texts of this seat, one behind the other (merge.py): the walks of the functions that the law DistanceLeast uses, and plain words on what they come to. No condition. -/
import Derived.Test.YtijpnlmejphfhaaDoorProg
import Derived.Test.YtijpnlmejphfhaaDoorWWords
import Derived.Test.YtijpnlmejphfhaaDoorWMore
import Derived.Lib.SlBytesConst
import Derived.Lib.SliceRun
import Derived.ChangeKeysEq
import Derived.Laws.Tables
import Derived.Laws.CopyOwn
import Derived.Test.YtijpnlmejphfhaaDoorWTab
import Derived.Test.YtijpnlmejphfhaaDoorWKept
import Derived.Test.YtijpnlmejphfhaaDoorWAt
import Derived.RangeFuncBox
import Derived.Deep.DrawnRows
import Derived.Deep.MidRow
import Derived.Below
import Derived.Deep.Draws
import Derived.Deep.AppendLies
import Derived.Maps.AppendAt
import Derived.OwnWalk
import Derived.Laws.BytesArg
import Derived.Laws.MakeOwn
import Derived.Laws.OwnMore
import Derived.Deep.OwnRows
import Derived.Tactics
import Derived.Lib.ConvBytes
import Derived.Laws.Slices
import Derived.WalkKit
import Derived.KernelRfl
import Derived.RowKit3
import Derived.Deep.LoopGhost
import Derived.Deep.QuietTactic
import Derived.BigQuiet
import Derived.WideLaws
import Derived.Deep.DeepCutAuto
import Derived.Deep.CutBlock
import Derived.Deep.RegionHeld3
import Derived.Laws.Rows
import Derived.Lib.AppendStr
import Derived.ArgAppend
import Derived.Laws.IdiomCopy
import Derived.OrdersHeld
import Derived.Laws.BitsLemmas
import Derived.RowKit
import Derived.Test.YtijpnlmejphfhaaDoorWLast
import Derived.Test.YtijpnlmejphfhaaDoorWFour
import Derived.Test.YtijpnlmejphfhaaDoorWQPut
import Derived.Test.YtijpnlmejphfhaaDoorWApart
import Derived.Test.YtijpnlmejphfhaaDoorWArr
import Derived.Test.YtijpnlmejphfhaaDoorWZeros
import Derived.Test.YtijpnlmejphfhaaDoorWFoot
import Derived.Test.YtijpnlmejphfhaaDoorWShare
import Derived.Test.YtijpnlmejphfhaaDoorWN
import Derived.Test.YtijpnlmejphfhaaDoorWFootNe
import Derived.Test.YtijpnlmejphfhaaDoorWEqStruct
import Derived.Test.YtijpnlmejphfhaaDoorWRepsOne
import Derived.Test.YtijpnlmejphfhaaDoorWInv
import Derived.Test.YtijpnlmejphfhaaDoorWInvWords
import Derived.Test.YtijpnlmejphfhaaDoorWGuard
import Derived.Test.YtijpnlmejphfhaaDoorWNEv
-- YtijpnlmejphfhaaDoorPExtra
namespace Go.Proofs.YtijpnlmejphfhaaDoor.P
open Go.RowKit Go.Proofs.YtijpnlmejphfhaaDoorW.PrintWords Go.Proofs.YtijpnlmejphfhaaDoorW.PrintMore

/-- A row that was laid as a literal (marked or not) reads as its numbers. -/
theorem const_reads (w : World) (e : TypeId) (k : IntKind) (xs : List Int) (C : Array Value) (fr : Nat × Nat) (hC : C = (nums k xs).toArray) (hx : xs.length ≤ 9223372036854775807) :
    Kd.C (Kd.int k) (w.alloc (.cells C e fr)) (some ⟨w.heap.size, 0, none⟩) xs.length xs := by
  subst hC
  refine Kd.C_of_reads (d := (0 : Int)) (h1 := fun _ => rfl) ⟨rfl, hx, fun _ => ⟨_, rfl, fun j hj => ?_⟩⟩
  rw [add_plain, World.cell?_alloc_mark w _ e fr j]
  simp [nums, List.getD_eq_getElem?_getD, List.getElem?_eq_getElem hj]
/-- A region that draws its order stands here (a cheap look ahead of a dear step). -/
theorem gate_quiet {P : Program} {n : Nat} {ops : Array Oper} {Q : Exit → Act → World → Prop} {a : Act} {w : World} (h : Code.wp P (.region n ops true) Q a w) : Code.wp P (.region n ops true) Q a w := h
theorem reads_len {α : Type} {R : α → List Value → Prop} {size : Nat} {w : World} {A : Option Addr} {n n' : Nat} {ps : List α} (e : n = n') (h : ReadsRow R size w A n ps) : ReadsRow R size w A n' ps := e ▸ h
theorem nil_of_none {α : Type} {d : Kd α} {w : World} {l : List α} (h : Kd.C d w none l.length l) : l = [] := by
  cases l with
  | nil => rfl
  | cons x xs =>
    obtain ⟨_, _, h3⟩ := h
    obtain ⟨ad, e, _⟩ := h3 (by simp)
    cases e

section
variable {P : Program} {d : Nat} {xs ys : Array Value} {e c n i : Nat} {is : List Nat} {a b : Value} {r s : Bool} {w : World}
/-- '==' of arrays, element by element. -/
theorem eqi_last (ha : (part e xs (i * c)).run P w = .ok a w) (hb : (part e ys (i * c)).run P w = .ok b w) (he : (Op.equalIn d e a b).run P w = .ok r w) : (Op.eqItems d e c xs ys [i]).run P w = .ok r w := by
  simp only [Op.eqItems, Sem.run_bind, ha, hb, he, Result.andThen_ok]
  cases r <;> simp
theorem eqi_cons (ha : (part e xs (i * c)).run P w = .ok a w) (hb : (part e ys (i * c)).run P w = .ok b w) (he : (Op.equalIn d e a b).run P w = .ok r w) (hr : (Op.eqItems d e c xs ys is).run P w = .ok s w) : (Op.eqItems d e c xs ys (i :: is)).run P w = .ok (r && s) w := by
  rw [Op.eqItems]
  simp only [Sem.run_bind, ha, hb, he, Result.andThen_ok]
  cases r
  · simp
  · simpa using hr
theorem eqAr_of {t : TypeId} (hu : P.underlying t = some (.array n e)) (hi : (P.info? e).isSome = true) (hc : P.cellsOf e = c) (his : List.range n = is) (h : (Op.eqItems d e c xs ys is).run P w = .ok r w) : (Op.equalIn (d + 1) t (.agg xs) (.agg ys)).run P w = .ok r w := by
  obtain ⟨j, hj⟩ := Option.isSome_iff_exists.mp hi
  rw [run_equalIn_array w d xs ys hu hj, hc, his]
  exact h
end

/-- 'a[i]' of an array by value. -/
theorem run_index_arr {P : Program} (w : World) (t : TypeId) (cs : Array Value) (k : IntKind) (i : Int) (h : P.underlying t = some (.array (P.arrayLen t) (P.elem t))) :
    (Instr.index t (.agg cs) (.int k i)).run P w = if 0 ≤ i ∧ i < P.arrayLen t then ((sizeOf (P.elem t)).run P w).andThen fun s w => (part (P.elem t) cs (i.toNat * s)).run P w else (boundsPanic k i (P.arrayLen t) .index).run P w := by
  by_cases hi : 0 ≤ i ∧ i < (P.arrayLen t : Int)
  · simp [Instr.index, run_underlying h, asIntOf, hi]
  · simp [Instr.index, run_underlying h, asIntOf, hi]
/-- A value built whose cells are known. -/
theorem wpList_build_to {P : Program} {ops : Array Oper} {rest : List Oper} {o : Oper} {a : Act} {w : World} {Q : Exit → Act → World → Prop} (hg : o.guard = none) (t : TypeId) (parts : Array (Nat × Operand)) (ho : o.op = .build t parts) (cells : Array Value)
    (hc : P.built t (parts.map fun (i, x) => (i, a.eval x)).toList = some cells) (h : wpList P ops Q rest (a.put o.dst (.agg cells)) w) : wpList P ops Q (o :: rest) a w :=
  wpList_build hg t parts ho (by rw [hc]; rfl) (by rw [hc]; exact h)
/-- An array's cells, read as a row. -/
theorem C_of_blk {k : IntKind} {w : World} {g : Nat} {t : TypeId} {cs : Array Value} {xs : List Int} {n : Nat} (h : w.heap[g]? = some (.cells cs t (0, 0))) (hC : cs = (nums k xs).toArray) (hn : n = xs.length ∧ xs.length ≤ 9223372036854775807) :
    Kd.C (Kd.int k) w (some ⟨g, 0, none⟩) n xs := by
  subst hC
  obtain ⟨rfl, hx⟩ := hn
  refine Kd.C_of_reads (d := (0 : Int)) (h1 := fun _ => rfl) ⟨rfl, hx, fun _ => ⟨_, rfl, fun j hj => ?_⟩⟩
  rw [add_plain, blk_cell h]
  simp [nums, List.getD_eq_getElem?_getD, List.getElem?_eq_getElem hj]
/-- What a listed table's cells hold (conv.taps: the first package-level variable). -/
structure TP (w : World) : Prop where
  c0 : w.cell? ⟨0, 0, none⟩ = some (.int .u64 79)
  c1 : w.cell? ⟨0, 1, none⟩ = some (.int .u64 87)
  c2 : w.cell? ⟨0, 2, none⟩ = some (.int .u64 109)
  c3 : w.cell? ⟨0, 3, none⟩ = some (.int .u64 121)
theorem TP.lt {w : World} (h : TP w) : 0 < w.heap.size := World.block_lt_of_cell? w _ h.c0
theorem TP_of {w w' : World} (h : TP w) (hb : Below w.heap.size w w') : TP w' :=
  have e : ∀ i, w'.cell? ⟨0, i, none⟩ = w.cell? ⟨0, i, none⟩ := fun _ => hb.cell h.lt
  ⟨(e 0).trans h.c0, (e 1).trans h.c1, (e 2).trans h.c2, (e 3).trans h.c3⟩

end Go.Proofs.YtijpnlmejphfhaaDoor.P

-- YtijpnlmejphfhaaDoorPPFr
namespace Go.Proofs.YtijpnlmejphfhaaDoor.P
open Go Go.Proofs Go.RowKit Go.Proofs.YtijpnlmejphfhaaDoorW.PrintWords Go.Proofs.YtijpnlmejphfhaaDoorW.PrintLast Go.Proofs.YtijpnlmejphfhaaDoorW.PrintMore
set_option linter.unusedVariables false
set_option linter.unusedSimpArgs false

/-- But for block g and v's own row nothing has turned. -/
structure Fr (g : Nat) (v : Value) (w w' : World) : Prop where
  os : w'.os = w.os
  tape : w'.tape = w.tape
  output : w'.output = w.output
  size : w.heap.size ≤ w'.heap.size
  block : ∀ k, k < w.heap.size → k ≠ g → some k ≠ v.ownBlock → w'.heap[k]? = w.heap[k]?
theorem Fr.refl (g : Nat) (v : Value) (w : World) : Fr g v w w := ⟨rfl, rfl, rfl, Nat.le_refl _, fun _ _ _ _ => rfl⟩
/-- v' is v's row, or a newer one. -/
def Newer (w : World) (v v' : Value) : Prop := v'.ownBlock = v.ownBlock ∨ ∀ b, v'.ownBlock = some b → w.heap.size ≤ b
theorem Newer.refl (w : World) (v : Value) : Newer w v v := .inl rfl
theorem Newer.trans {w w1 : World} {v v1 v2 : Value} (h : Newer w v v1) (hs : w.heap.size ≤ w1.heap.size) (k : Newer w1 v1 v2) : Newer w v v2 := by
  rcases k with k | k
  · rcases h with h | h
    · exact .inl (k.trans h)
    · exact .inr fun b hb => h b (k ▸ hb)
  · exact .inr fun b hb => Nat.le_trans hs (k b hb)
theorem Fr.trans {g : Nat} {v v1 : Value} {w w1 w2 : World} (h : Fr g v w w1) (hn : Newer w v v1) (k : Fr g v1 w1 w2) : Fr g v w w2 :=
  ⟨k.os.trans h.os, k.tape.trans h.tape, k.output.trans h.output, Nat.le_trans h.size k.size, fun i hi hg hv => by
    rw [k.block i (Nat.lt_of_lt_of_le hi h.size) hg ?_, h.block i hi hg hv]
    rcases hn with hn | hn
    · rw [hn]; exact hv
    · intro e; have := hn i e.symm; omega⟩
theorem Fr.below {g : Nat} {v : Value} {w w' : World} (h : Fr g v w w') {B : Nat} (hB : B ≤ w.heap.size) (hg : B ≤ g) (hv : ∀ b, v.ownBlock = some b → B ≤ b) : Below B w w' :=
  ⟨h.os, h.tape, h.output, h.size, fun k hk => h.block k (by omega) (by omega) (fun e => by have := hv k e.symm; omega)⟩
theorem Fr.of_below {g : Nat} {v : Value} {w w' : World} (h : Below w.heap.size w w') : Fr g v w w' := ⟨h.os, h.tape, h.output, h.size, fun k hk _ _ => h.block k hk⟩
theorem Fr.set {g : Nat} {v : Value} {w : World} (i : Nat) (x : Value) : Fr g v w (w.setCell ⟨g, i, none⟩ x) :=
  ⟨rfl, rfl, rfl, by simp, fun k _ hg _ => Below.heap_setCell w ⟨g, i, none⟩ x k (by exact hg)⟩
theorem Fr.seq {g : Nat} {v : Value} {w w1 w2 : World} (h : Fr g v w w1) (k : Fr g v w1 w2) : Fr g v w w2 := h.trans (.inl rfl) k
theorem Newer.none (w : World) (v : Value) : Newer w v (.slice none 0 0) := .inr fun b hb => by simp [Value.ownBlock] at hb
/-- What lies apart from the state lies apart from it behind a call too. -/
theorem apart_newer {w : World} {g k : Nat} {v v' : Value} (hn : Newer w v v') (hk : k < w.heap.size) (ha : k ≠ g ∧ some k ≠ v.ownBlock) : k ≠ g ∧ some k ≠ v'.ownBlock :=
  ⟨ha.1, fun e => by
    rcases hn with hn | hn
    · exact ha.2 (e.trans hn)
    · have := hn k e.symm; omega⟩
theorem Kd.R_fr {α : Type} {d : Kd α} {e n₀ g : Nat} {w w' : World} {v v' u : Value} {xs : List α} (h : Kd.R d e w n₀ (fun k => k ≠ g ∧ some k ≠ v.ownBlock) u xs) (hf : Fr g v w w') (hn : Newer w v v') :
    Kd.R d e w' n₀ (fun k => k ≠ g ∧ some k ≠ v'.ownBlock) u xs := by
  have h1 := Kd.R_bound h
  have h2 := Kd.R_step (w1 := w') h1 (fun k ok hk => hf.block k hk ok.1.1 ok.1.2)
  exact Kd.R_mono h2 (fun k ok => apart_newer hn ok.2.2.1 ok.1)
theorem Kd.V_fr {α : Type} {d : Kd α} {e n₀ g : Nat} {w w' : World} {v v' u : Value} {xs : List α} (h : Kd.V d e w n₀ (fun k => k ≠ g ∧ some k ≠ v.ownBlock) u xs) (hf : Fr g v w w') (hn : Newer w v v') :
    Kd.V d e w' n₀ (fun k => k ≠ g ∧ some k ≠ v'.ownBlock) u xs := by
  have h1 := Kd.V_bound h
  have h2 := Kd.V_step (w1 := w') h1 (fun k ok hk => hf.block k hk ok.1.1 ok.1.2)
  exact Kd.V_mono h2 (fun k ok => apart_newer hn ok.2 ok.1)
end Go.Proofs.YtijpnlmejphfhaaDoor.P

-- YtijpnlmejphfhaaDoorPSAdd
namespace Go.Proofs.YtijpnlmejphfhaaDoor.P
open Go Go.Proofs Go.RowKit Go.Proofs.YtijpnlmejphfhaaDoorW.PrintWords Go.Proofs.YtijpnlmejphfhaaDoorW.PrintLast Go.Proofs.YtijpnlmejphfhaaDoorW.PrintMore
set_option linter.unusedVariables false
set_option linter.unusedSimpArgs false

def ints (l : List Int) : Array Value := (nums .i64 l).toArray
theorem ints_size (l : List Int) : (ints l).size = l.length := by simp [ints, nums]
theorem ints_get (l : List Int) (j : Nat) (h : j < l.length) : (ints l)[j]? = some (.int .i64 (l.getD j 0)) := by
  simp [ints, nums, List.getD_eq_getElem?_getD, List.getElem?_eq_getElem h]
theorem ints_set (l : List Int) (j : Nat) (x : Int) : (ints l).setIfInBounds j (.int .i64 x) = ints (l.set j x) := by
  simp [ints, nums, List.map_set]
theorem ints_cell {w : World} {a : Nat} {l : List Int} (h : w.heap[a]? = some (.cells (ints l) 3 (0, 0))) (j : Nat) (hj : j < l.length) : w.cell? ⟨a, j, none⟩ = some (.int .i64 (l.getD j 0)) :=
  (blk_cell h j).trans (ints_get l j hj)
theorem ints_made (n : Nat) : madeCells #[.int .i64 0] n = ints (List.replicate n 0) := by
  apply Array.ext
  · rw [size_madeCells, ints_size, List.length_replicate]
  · intro i h1 h2
    rw [size_madeCells] at h1
    simp [madeCells, ints, nums]
    rw [Nat.mod_one]; rfl
/-- But for block a nothing has turned. -/
structure Put1 (a : Nat) (w w' : World) : Prop where
  os : w'.os = w.os
  tape : w'.tape = w.tape
  output : w'.output = w.output
  size : w'.heap.size = w.heap.size
  block : ∀ k, k ≠ a → w'.heap[k]? = w.heap[k]?
theorem Put1.refl (a : Nat) (w : World) : Put1 a w w := ⟨rfl, rfl, rfl, rfl, fun _ _ => rfl⟩
theorem Put1.trans {a : Nat} {w w1 w2 : World} (h : Put1 a w w1) (k : Put1 a w1 w2) : Put1 a w w2 :=
  ⟨k.os.trans h.os, k.tape.trans h.tape, k.output.trans h.output, k.size.trans h.size, fun i hi => (k.block i hi).trans (h.block i hi)⟩
theorem Put1.set (a i : Nat) (w : World) (x : Value) : Put1 a w (w.setCell ⟨a, i, none⟩ x) :=
  ⟨rfl, rfl, rfl, by simp, fun k hk => Below.heap_setCell w ⟨a, i, none⟩ x k hk⟩
theorem Put1.below {a B : Nat} {w w' : World} (h : Put1 a w w') (hB : B ≤ a) : Below B w w' := ⟨h.os, h.tape, h.output, Nat.le_of_eq h.size.symm, fun k hk => h.block k (by omega)⟩
theorem i64_info : (Tryd.prog.info? 3).map (fun i => (i.zero, i.size, i.bytes)) = some (some (.int .i64 0), 1, 8) := by kernel_rfl
set_option maxRecDepth 100000 in
theorem empty_calls {w : World} {g N : Nat} (h : w.cell? ⟨g, 4, none⟩ = some (.int .i64 ((N : Int) - 1))) (hN : N ≤ 1000) :
    Calls Tryd.prog 38 #[.pointer (some ⟨g, 0, none⟩)] w fun e w' => e = .returned (.slice (some ⟨w.heap.size, 0, none⟩) N N) ∧ w' = w.alloc (.cells (ints (List.replicate N 0)) 3) := by
  have km := print_make (P := Tryd.prog) 24 3 .i64 8 Tryd.underlying24 i64_info (by omega) N (by omega)
  have hw : wrap64 ((N : Int) - 1 + 1) = (N : Int) := by unfold wrap64; omega
  rw [ints_made] at km
  obtain ⟨m, hm⟩ : ∃ m : Int, m = (N : Int) - 1 := ⟨_, rfl⟩
  rw [← hm] at h hw
  clear hm
  go_enter Tryd.func38, Tryd.ntmps38
  go_wp2
  go_ret
  exact ⟨by simp, rfl⟩
/-- The rows added, b further on, up to place i of the second. -/
def addI (x y : List Int) (b i : Nat) : List Int := (List.range x.length).map fun j => if b ≤ j ∧ j < b + i then wrap64 (x.getD j 0 + y.getD (j - b) 0) else x.getD j 0
theorem addI_length (x y : List Int) (b i : Nat) : (addI x y b i).length = x.length := by simp [addI]
theorem addI_get (x y : List Int) (b i j : Nat) (h : j < x.length) : (addI x y b i).getD j 0 = if b ≤ j ∧ j < b + i then wrap64 (x.getD j 0 + y.getD (j - b) 0) else x.getD j 0 := by
  have hl : j < (addI x y b i).length := by rw [addI_length]; exact h
  rw [List.getD_eq_getElem?_getD, List.getElem?_eq_getElem hl]
  simp [addI]
theorem addI_zero (x y : List Int) (b : Nat) : addI x y b 0 = x := by
  apply List.ext_getElem
  · rw [addI_length]
  · intro j h1 h2
    simp only [addI, List.getElem_map, List.getElem_range]
    rw [if_neg (by omega), List.getD_eq_getElem?_getD, List.getElem?_eq_getElem h2]; rfl
theorem addI_succ (x y : List Int) (b i : Nat) (h : b + i < x.length) : (addI x y b i).set (b + i) (wrap64 (x.getD (b + i) 0 + y.getD i 0)) = addI x y b (i + 1) := by
  apply List.ext_getElem
  · simp [addI_length]
  · intro j h1 h2
    rw [List.getElem_set]
    simp only [addI, List.getElem_map, List.getElem_range]
    by_cases e : b + i = j
    · subst e
      rw [if_pos rfl, if_pos (by omega), Nat.add_sub_cancel_left]
    · rw [if_neg e]
      by_cases q : b ≤ j ∧ j < b + i
      · rw [if_pos q, if_pos (by omega)]
      · rw [if_neg q, if_neg (by omega)]
theorem addI_stop (x y : List Int) (b i : Nat) (h : x.length ≤ b + i) : addI x y b i = addI x y b (i + 1) := by
  apply List.ext_getElem
  · simp [addI_length]
  · intro j h1 h2
    simp only [addI, List.getElem_map, List.getElem_range]
    rw [addI_length] at h1
    by_cases q : b ≤ j
    · rw [if_pos (by omega), if_pos (by omega)]
    · rw [if_neg (by omega), if_neg (by omega)]
set_option maxRecDepth 100000 in
set_option maxHeartbeats 4000000 in
theorem add_calls {w : World} {g a c N : Nat} {x y : List Int} (h : w.cell? ⟨g, 4, none⟩ = some (.int .i64 ((N : Int) - 1))) (hga : g ≠ a) (hx : w.heap[a]? = some (.cells (ints x) 3 (0, 0))) (hy : w.heap[c]? = some (.cells (ints y) 3 (0, 0)))
    (hac : a ≠ c) (hxl : x.length = N) (hyl : y.length = N) (hN : N ≤ 1000) (b : Nat) (hb : b ≤ 100000) :
    Calls Tryd.prog 40 #[.pointer (some ⟨g, 0, none⟩), .slice (some ⟨a, 0, none⟩) N N, .slice (some ⟨c, 0, none⟩) N N, .int .i64 (b : Int)] w fun e w' =>
      e = .returned (.tuple #[]) ∧ w'.heap[a]? = some (.cells (ints (addI x y b N)) 3 (0, 0)) ∧ Put1 a w w' := by
  have HH := Aside0.mk h
  have HX := Aside0.mk hx
  have HY := Aside0.mk hy
  have HL := Aside0.mk (And.intro hxl hyl)
  obtain ⟨m, hm⟩ : ∃ m : Int, m = (N : Int) - 1 := ⟨_, rfl⟩
  have HM := Aside0.mk hm
  clear h hx hy hxl hyl hm
  go_enter Tryd.func40, Tryd.ntmps40
  go_wp2_with fail
  go_loopw [12] (fun v12 wr => ∃ (i : Nat), v12 = .int .i64 (i : Int) ∧ i ≤ N ∧ Aside0 (wr.heap[a]? = some (.cells (ints (addI x y b i)) 3 (0, 0))) ∧ Aside0 (Put1 a w wr)) (fun v12 _ => N - (intOf v12).toNat)
  case atStart => exact ⟨0, by simp, by omega, ⟨by rw [addI_zero]; exact HX.out⟩, ⟨Put1.refl _ _⟩⟩
  case round =>
    obtain ⟨i, rfl, hi, HA, HP⟩ := hrel
    by_cases hlt : i < N
    · have hlb : decide ((i : Int) < (N : Int)) = true := decide_eq_true (by omega)
      have hc4 : wr.cell? ⟨g, 4, none⟩ = some (.int .i64 m) := by rw [World.cell?_of_block (w := w) (HP.out.block g hga), HM.out]; exact HH.out
      have hcy : wr.cell? ⟨c, i, none⟩ = some (.int .i64 (y.getD i 0)) := ints_cell ((HP.out.block c hac.symm).trans HY.out) i (by have := HL.out.2; omega)
      obtain ⟨yi, hyi⟩ : ∃ yi, yi = y.getD i 0 := ⟨_, rfl⟩
      rw [← hyi] at hcy
      have HYI := Aside0.mk hyi
      clear hyi
      by_cases hle : b + i < N
      · have hcx : wr.cell? ⟨a, b + i, none⟩ = some (.int .i64 (x.getD (b + i) 0)) := by
          have hl : b + i < (addI x y b i).length := by rw [addI_length]; have := HL.out.1; omega
          have e := ints_cell HA.out (b + i) hl
          rw [addI_get x y b i _ (by have := HL.out.1; omega), if_neg (by omega)] at e
          exact e
        have hfz := blk_frozen HA.out (b + i)
        have hle1 : decide ((i : Int) + (b : Int) ≤ m) = true := decide_eq_true (by have := HM.out; omega)
        have hbn : (i : Int) + (b : Int) < (N : Int) := by omega
        obtain ⟨xb, hxb⟩ : ∃ xb, xb = x.getD (b + i) 0 := ⟨_, rfl⟩
        rw [← hxb] at hcx
        have HXB := Aside0.mk hxb
        obtain ⟨z, hz⟩ : ∃ z, wrap64 (xb + yi) = z := ⟨_, rfl⟩
        have HP2 := Aside0.mk (HP.out.trans (Put1.set a (b + i) wr (.int .i64 z)))
        have HA2 := Aside0.mk (show (wr.setCell ⟨a, b + i, none⟩ (.int .i64 z)).heap[a]? = some (.cells (ints (addI x y b (i + 1))) 3 (0, 0)) by
          rw [← addI_succ x y b i (by have := HL.out.1; omega), ← ints_set, ← HXB.out, ← HYI.out, hz]
          exact blk_put HA.out (b + i) _ rfl)
        rw [Nat.add_comm b i] at hcx hfz HP2 HA2
        clear hxb HA HP
        go_wp2_with fail
        go_roundw
        case rel => exact ⟨i + 1, by simp, by omega, HA2, HP2⟩
        case measure => simp [intOf]; omega
      · have hw1 : wrap64 ((i : Int) + (b : Int)) = (i : Int) + (b : Int) := by unfold wrap64; omega
        have hle1 : decide ((i : Int) + (b : Int) ≤ m) = false := decide_eq_false (by have := HM.out; omega)
        have HA2 := Aside0.mk (show wr.heap[a]? = some (.cells (ints (addI x y b (i + 1))) 3 (0, 0)) by rw [← addI_stop x y b i (by have := HL.out.1; omega)]; exact HA.out)
        go_wp2_with fail
        go_roundw
        case rel => exact ⟨i + 1, by simp, by omega, HA2, HP⟩
        case measure => simp [intOf]; omega
    · obtain rfl : i = N := by omega
      have hlb : decide ((i : Int) < (i : Int)) = false := decide_eq_false (by omega)
      go_wp2_with fail
      refine bodyPost_end (results_none rfl _ _ _) rfl ?_
      exact ⟨by simp, HA.out, HP.out⟩
end Go.Proofs.YtijpnlmejphfhaaDoor.P

-- YtijpnlmejphfhaaDoorP0
namespace Go.Proofs.YtijpnlmejphfhaaDoor.P
open Go.RowKit Go.Proofs.YtijpnlmejphfhaaDoorW.PrintWords Go.Proofs.YtijpnlmejphfhaaDoorW.PrintLast Go.Proofs.YtijpnlmejphfhaaDoorW.PrintMore
attribute [local go_sem] max2_int min2_int max_two min_two max_three min_three max_four min_four   -- for this text's walks alone
set_option linter.unusedVariables false
set_option linter.unusedSimpArgs false



def errW : Option Int → Value
  | none => .nilIface
  | some c => .iface 0 (.int .i64 c)
theorem errW_none : errW none = .nilIface := rfl
theorem errW_some (c : Int) : errW (some c) = .iface 0 (.int .i64 c) := rfl

theorem info3 : (Tryd.prog.info? 3).map (fun i => (i.zero, i.size, i.bytes)) = some (some (.int .i64 0), 1, 8) := by kernel_rfl
theorem info5 : (Tryd.prog.info? 5).map (fun i => (i.zero, i.size, i.bytes)) = some (some (.int .u8 0), 1, 1) := by kernel_rfl
-- the values' own types
/-! #### struct type 56 -/
structure S56 where
  f0 : Int
  f1 : Int
  f2 : Int
  f3 : Int
def z56 : S56 := ⟨(0 : Int), (0 : Int), (0 : Int), (0 : Int)⟩
def k56 : Kd S56 := Kd.iso (Kd.pair (Kd.int .u8) (Kd.pair (Kd.int .u8) (Kd.pair (Kd.int .u8) (Kd.int .u8)))) (fun x : S56 => (x.f0, x.f1, x.f2, x.f3))
theorem k56_open {w : World} {x : S56} {cs : List Value} (h : k56.K w x cs) : cs = [.int .u8 x.f0, .int .u8 x.f1, .int .u8 x.f2, .int .u8 x.f3] := by
  obtain ⟨_, _, rfl, rfl, ⟨_, _, rfl, rfl, ⟨_, _, rfl, rfl, rfl⟩⟩⟩ := h
  exact rfl
theorem k56_openM {w : World} {base : Nat} {ok : Nat → Prop} {x : S56} {cs : List Value} (h : k56.M w base ok x cs) : cs = [.int .u8 x.f0, .int .u8 x.f1, .int .u8 x.f2, .int .u8 x.f3] := by
  obtain ⟨_, _, rfl, rfl, ⟨_, _, rfl, rfl, ⟨_, _, rfl, rfl, rfl⟩⟩⟩ := h
  exact rfl
theorem k56_mk (w : World) (x : S56)  : k56.K w x [.int .u8 x.f0, .int .u8 x.f1, .int .u8 x.f2, .int .u8 x.f3] := ⟨[.int .u8 x.f0], [.int .u8 x.f1, .int .u8 x.f2, .int .u8 x.f3], rfl, rfl, ⟨[.int .u8 x.f1], [.int .u8 x.f2, .int .u8 x.f3], rfl, rfl, ⟨[.int .u8 x.f2], [.int .u8 x.f3], rfl, rfl, rfl⟩⟩⟩
theorem k56_mkM (w : World) (base : Nat) (ok : Nat → Prop) (x : S56)  : k56.M w base ok x [.int .u8 x.f0, .int .u8 x.f1, .int .u8 x.f2, .int .u8 x.f3] := ⟨[.int .u8 x.f0], [.int .u8 x.f1, .int .u8 x.f2, .int .u8 x.f3], rfl, rfl, ⟨[.int .u8 x.f1], [.int .u8 x.f2, .int .u8 x.f3], rfl, rfl, ⟨[.int .u8 x.f2], [.int .u8 x.f3], rfl, rfl, rfl⟩⟩⟩
def rd_T56 (xs : List S56) (i : Int) : S56 := xs.getD i.toNat z56
theorem at_T56 {w : World} {A : Option Addr} {n : Nat} {xs : List S56} (h : Kd.C k56 w A n xs) (i : Int) (h0 : 0 ≤ i) (h1 : i < n) : ∃ ad , A = some ad ∧ w.cell? (ad.add (i.toNat * 4)) = some (.int .u8 (rd_T56 xs i).f0) ∧ w.cell? ⟨(ad.add (i.toNat * 4)).block, (ad.add (i.toNat * 4)).off + 1, none⟩ = some (.int .u8 (rd_T56 xs i).f1) ∧ w.cell? ⟨(ad.add (i.toNat * 4)).block, (ad.add (i.toNat * 4)).off + 2, none⟩ = some (.int .u8 (rd_T56 xs i).f2) ∧ w.cell? ⟨(ad.add (i.toNat * 4)).block, (ad.add (i.toNat * 4)).off + 3, none⟩ = some (.int .u8 (rd_T56 xs i).f3) := by
  obtain ⟨ad, c, e, _, hK, hc0⟩ := Kd.C_get h z56 i h0 h1
  have hc : ∀ j u, c[j]? = some u → w.cell? (ad.add (i.toNat * 4 + j)) = some u := hc0
  obtain rfl := k56_open hK
  exact ⟨ad, e, hc 0 _ rfl, by rw [← add_field _ _ 1 (by omega)]; exact hc 1 _ rfl, by rw [← add_field _ _ 2 (by omega)]; exact hc 2 _ rfl, by rw [← add_field _ _ 3 (by omega)]; exact hc 3 _ rfl⟩

def rd_L3 (xs : List (List Int)) (i : Int) : (List Int) := xs.getD i.toNat ([] : List Int)
theorem at_L3 {w : World} {A : Option Addr} {n : Nat} {xs : List (List Int)} (h : Kd.C (Kd.slice 5 (Kd.int .u8)) w A n xs) (i : Int) (h0 : 0 ≤ i) (h1 : i < n) : ∃ ad A0 c0, A = some ad ∧ w.cell? (ad.add i.toNat) = some (.slice A0 (rd_L3 xs i).length c0) ∧ (rd_L3 xs i).length ≤ c0 ∧ (Kd.int .u8).C w A0 (rd_L3 xs i).length (rd_L3 xs i) := by
  obtain ⟨ad, c, e, _, hK, hc0⟩ := Kd.C_get h ([] : List Int) i h0 h1
  have hc : ∀ j u, c[j]? = some u → w.cell? (ad.add (i.toNat * 1 + j)) = some u := hc0
  obtain ⟨A0, c0, rfl, l0, g0⟩ := hK
  exact ⟨ad, A0, c0, e, by have hq := hc 0 _ rfl; rwa [Nat.mul_one, Nat.add_zero] at hq, l0, g0⟩

end Go.Proofs.YtijpnlmejphfhaaDoor.P

-- YtijpnlmejphfhaaDoorP5
namespace Go.Proofs.YtijpnlmejphfhaaDoor.P
open Go.RowKit Go.Proofs.YtijpnlmejphfhaaDoorW.PrintWords Go.Proofs.YtijpnlmejphfhaaDoorW.PrintLast Go.Proofs.YtijpnlmejphfhaaDoorW.PrintMore
attribute [local go_sem] max2_int min2_int max_two min_two max_three min_three max_four min_four   -- for this text's walks alone
set_option linter.unusedVariables false
set_option linter.unusedSimpArgs false

/-! ### conv_right: function 57 -/
def conv_right.f (a0 : Int) (a1 : Int) : Option (Bool) := if a0 ≥ 0 then (if a0 < 64 then (some (decide (a1 ≤ 1))) else (some false)) else (some false)
set_option maxHeartbeats 8000000 in
set_option maxRecDepth 100000 in
theorem conv_right.calls (a0 : Int) (a1 : Int) (r : Bool) (w : World) (h : conv_right.f a0 a1 = some r) :
    Calls Tryd.prog 57 #[.int .i64 a0, .int .u8 a1] w fun e w' => e = .returned (.bool r) ∧ Drawn0 w w' := by
  have H : (if a0 ≥ 0 then (if a0 < 64 then (some (decide (a1 ≤ 1))) else (some false)) else (some false)) = some r := h
  clear h
  by_cases c3 : a0 ≥ 0
  · rw [if_pos c3] at H
    have c3b0 : decide (0 ≤ a0) = true := decide_eq_true c3
    clear c3
    by_cases c4 : a0 < 64
    · rw [if_pos c4] at H
      have c4b0 : decide (a0 < 64) = true := decide_eq_true c4
      clear c4
      obtain rfl := Option.some.inj H
      go_enter Tryd.func57, Tryd.ntmps57
      go_wp2
      go_ret
      exact ⟨by first | rfl | (simp; done) | (simp [*]; done), by repeat (first | exact Drawn0.refl _ | apply Drawn0.step)⟩
    · rw [if_neg c4] at H
      have c4b0 : decide (a0 < 64) = false := decide_eq_false c4
      clear c4
      obtain rfl := Option.some.inj H
      go_enter Tryd.func57, Tryd.ntmps57
      go_wp2
      go_ret
      exact ⟨by first | rfl | (simp; done) | (simp [*]; done), by repeat (first | exact Drawn0.refl _ | apply Drawn0.step)⟩
  · rw [if_neg c3] at H
    have c3b0 : decide (0 ≤ a0) = false := decide_eq_false c3
    clear c3
    obtain rfl := Option.some.inj H
    go_enter Tryd.func57, Tryd.ntmps57
    go_wp2
    go_ret
    exact ⟨by first | rfl | (simp; done) | (simp [*]; done), by repeat (first | exact Drawn0.refl _ | apply Drawn0.step)⟩

end Go.Proofs.YtijpnlmejphfhaaDoor.P

-- YtijpnlmejphfhaaDoorP7
namespace Go.Proofs.YtijpnlmejphfhaaDoor.P
open Go.RowKit Go.Proofs.YtijpnlmejphfhaaDoorW.PrintWords Go.Proofs.YtijpnlmejphfhaaDoorW.PrintLast Go.Proofs.YtijpnlmejphfhaaDoorW.PrintMore
attribute [local go_sem] max2_int min2_int max_two min_two max_three min_three max_four min_four   -- for this text's walks alone
set_option linter.unusedVariables false
set_option linter.unusedSimpArgs false

/-! ### bits_OnesCount64: function 62 -/
def bits_OnesCount64.f (a0 : Int) : Option (Int) := some (Go.bits .and .i64 (wrap64 (IntKind.u64.wrap ((IntKind.u64.wrap ((IntKind.u64.wrap ((Go.bits .and .u64 (IntKind.u64.wrap (((IntKind.u64.wrap ((Go.bits .and .u64 ((IntKind.u64.wrap ((Go.bits .and .u64 (a0 / 2) 6148914691236517205) + (Go.bits .and .u64 a0 6148914691236517205))) / 4) 3689348814741910323) + (Go.bits .and .u64 (IntKind.u64.wrap ((Go.bits .and .u64 (a0 / 2) 6148914691236517205) + (Go.bits .and .u64 a0 6148914691236517205))) 3689348814741910323))) / 16) + (IntKind.u64.wrap ((Go.bits .and .u64 ((IntKind.u64.wrap ((Go.bits .and .u64 (a0 / 2) 6148914691236517205) + (Go.bits .and .u64 a0 6148914691236517205))) / 4) 3689348814741910323) + (Go.bits .and .u64 (IntKind.u64.wrap ((Go.bits .and .u64 (a0 / 2) 6148914691236517205) + (Go.bits .and .u64 a0 6148914691236517205))) 3689348814741910323))))) 1085102592571150095) + ((Go.bits .and .u64 (IntKind.u64.wrap (((IntKind.u64.wrap ((Go.bits .and .u64 ((IntKind.u64.wrap ((Go.bits .and .u64 (a0 / 2) 6148914691236517205) + (Go.bits .and .u64 a0 6148914691236517205))) / 4) 3689348814741910323) + (Go.bits .and .u64 (IntKind.u64.wrap ((Go.bits .and .u64 (a0 / 2) 6148914691236517205) + (Go.bits .and .u64 a0 6148914691236517205))) 3689348814741910323))) / 16) + (IntKind.u64.wrap ((Go.bits .and .u64 ((IntKind.u64.wrap ((Go.bits .and .u64 (a0 / 2) 6148914691236517205) + (Go.bits .and .u64 a0 6148914691236517205))) / 4) 3689348814741910323) + (Go.bits .and .u64 (IntKind.u64.wrap ((Go.bits .and .u64 (a0 / 2) 6148914691236517205) + (Go.bits .and .u64 a0 6148914691236517205))) 3689348814741910323))))) 1085102592571150095) / 256))) + ((IntKind.u64.wrap ((Go.bits .and .u64 (IntKind.u64.wrap (((IntKind.u64.wrap ((Go.bits .and .u64 ((IntKind.u64.wrap ((Go.bits .and .u64 (a0 / 2) 6148914691236517205) + (Go.bits .and .u64 a0 6148914691236517205))) / 4) 3689348814741910323) + (Go.bits .and .u64 (IntKind.u64.wrap ((Go.bits .and .u64 (a0 / 2) 6148914691236517205) + (Go.bits .and .u64 a0 6148914691236517205))) 3689348814741910323))) / 16) + (IntKind.u64.wrap ((Go.bits .and .u64 ((IntKind.u64.wrap ((Go.bits .and .u64 (a0 / 2) 6148914691236517205) + (Go.bits .and .u64 a0 6148914691236517205))) / 4) 3689348814741910323) + (Go.bits .and .u64 (IntKind.u64.wrap ((Go.bits .and .u64 (a0 / 2) 6148914691236517205) + (Go.bits .and .u64 a0 6148914691236517205))) 3689348814741910323))))) 1085102592571150095) + ((Go.bits .and .u64 (IntKind.u64.wrap (((IntKind.u64.wrap ((Go.bits .and .u64 ((IntKind.u64.wrap ((Go.bits .and .u64 (a0 / 2) 6148914691236517205) + (Go.bits .and .u64 a0 6148914691236517205))) / 4) 3689348814741910323) + (Go.bits .and .u64 (IntKind.u64.wrap ((Go.bits .and .u64 (a0 / 2) 6148914691236517205) + (Go.bits .and .u64 a0 6148914691236517205))) 3689348814741910323))) / 16) + (IntKind.u64.wrap ((Go.bits .and .u64 ((IntKind.u64.wrap ((Go.bits .and .u64 (a0 / 2) 6148914691236517205) + (Go.bits .and .u64 a0 6148914691236517205))) / 4) 3689348814741910323) + (Go.bits .and .u64 (IntKind.u64.wrap ((Go.bits .and .u64 (a0 / 2) 6148914691236517205) + (Go.bits .and .u64 a0 6148914691236517205))) 3689348814741910323))))) 1085102592571150095) / 256))) / 65536))) + ((IntKind.u64.wrap ((IntKind.u64.wrap ((Go.bits .and .u64 (IntKind.u64.wrap (((IntKind.u64.wrap ((Go.bits .and .u64 ((IntKind.u64.wrap ((Go.bits .and .u64 (a0 / 2) 6148914691236517205) + (Go.bits .and .u64 a0 6148914691236517205))) / 4) 3689348814741910323) + (Go.bits .and .u64 (IntKind.u64.wrap ((Go.bits .and .u64 (a0 / 2) 6148914691236517205) + (Go.bits .and .u64 a0 6148914691236517205))) 3689348814741910323))) / 16) + (IntKind.u64.wrap ((Go.bits .and .u64 ((IntKind.u64.wrap ((Go.bits .and .u64 (a0 / 2) 6148914691236517205) + (Go.bits .and .u64 a0 6148914691236517205))) / 4) 3689348814741910323) + (Go.bits .and .u64 (IntKind.u64.wrap ((Go.bits .and .u64 (a0 / 2) 6148914691236517205) + (Go.bits .and .u64 a0 6148914691236517205))) 3689348814741910323))))) 1085102592571150095) + ((Go.bits .and .u64 (IntKind.u64.wrap (((IntKind.u64.wrap ((Go.bits .and .u64 ((IntKind.u64.wrap ((Go.bits .and .u64 (a0 / 2) 6148914691236517205) + (Go.bits .and .u64 a0 6148914691236517205))) / 4) 3689348814741910323) + (Go.bits .and .u64 (IntKind.u64.wrap ((Go.bits .and .u64 (a0 / 2) 6148914691236517205) + (Go.bits .and .u64 a0 6148914691236517205))) 3689348814741910323))) / 16) + (IntKind.u64.wrap ((Go.bits .and .u64 ((IntKind.u64.wrap ((Go.bits .and .u64 (a0 / 2) 6148914691236517205) + (Go.bits .and .u64 a0 6148914691236517205))) / 4) 3689348814741910323) + (Go.bits .and .u64 (IntKind.u64.wrap ((Go.bits .and .u64 (a0 / 2) 6148914691236517205) + (Go.bits .and .u64 a0 6148914691236517205))) 3689348814741910323))))) 1085102592571150095) / 256))) + ((IntKind.u64.wrap ((Go.bits .and .u64 (IntKind.u64.wrap (((IntKind.u64.wrap ((Go.bits .and .u64 ((IntKind.u64.wrap ((Go.bits .and .u64 (a0 / 2) 6148914691236517205) + (Go.bits .and .u64 a0 6148914691236517205))) / 4) 3689348814741910323) + (Go.bits .and .u64 (IntKind.u64.wrap ((Go.bits .and .u64 (a0 / 2) 6148914691236517205) + (Go.bits .and .u64 a0 6148914691236517205))) 3689348814741910323))) / 16) + (IntKind.u64.wrap ((Go.bits .and .u64 ((IntKind.u64.wrap ((Go.bits .and .u64 (a0 / 2) 6148914691236517205) + (Go.bits .and .u64 a0 6148914691236517205))) / 4) 3689348814741910323) + (Go.bits .and .u64 (IntKind.u64.wrap ((Go.bits .and .u64 (a0 / 2) 6148914691236517205) + (Go.bits .and .u64 a0 6148914691236517205))) 3689348814741910323))))) 1085102592571150095) + ((Go.bits .and .u64 (IntKind.u64.wrap (((IntKind.u64.wrap ((Go.bits .and .u64 ((IntKind.u64.wrap ((Go.bits .and .u64 (a0 / 2) 6148914691236517205) + (Go.bits .and .u64 a0 6148914691236517205))) / 4) 3689348814741910323) + (Go.bits .and .u64 (IntKind.u64.wrap ((Go.bits .and .u64 (a0 / 2) 6148914691236517205) + (Go.bits .and .u64 a0 6148914691236517205))) 3689348814741910323))) / 16) + (IntKind.u64.wrap ((Go.bits .and .u64 ((IntKind.u64.wrap ((Go.bits .and .u64 (a0 / 2) 6148914691236517205) + (Go.bits .and .u64 a0 6148914691236517205))) / 4) 3689348814741910323) + (Go.bits .and .u64 (IntKind.u64.wrap ((Go.bits .and .u64 (a0 / 2) 6148914691236517205) + (Go.bits .and .u64 a0 6148914691236517205))) 3689348814741910323))))) 1085102592571150095) / 256))) / 65536))) / 4294967296)))) 127)
set_option maxHeartbeats 8000000 in
set_option maxRecDepth 100000 in
theorem bits_OnesCount64.calls (a0 : Int) (r : Int) (w : World) (h : bits_OnesCount64.f a0 = some r) :
    Calls Tryd.prog 62 #[.int .u64 a0] w fun e w' => e = .returned (.int .i64 r) ∧ Drawn0 w w' := by
  have H : (some (Go.bits .and .i64 (wrap64 (IntKind.u64.wrap ((IntKind.u64.wrap ((IntKind.u64.wrap ((Go.bits .and .u64 (IntKind.u64.wrap (((IntKind.u64.wrap ((Go.bits .and .u64 ((IntKind.u64.wrap ((Go.bits .and .u64 (a0 / 2) 6148914691236517205) + (Go.bits .and .u64 a0 6148914691236517205))) / 4) 3689348814741910323) + (Go.bits .and .u64 (IntKind.u64.wrap ((Go.bits .and .u64 (a0 / 2) 6148914691236517205) + (Go.bits .and .u64 a0 6148914691236517205))) 3689348814741910323))) / 16) + (IntKind.u64.wrap ((Go.bits .and .u64 ((IntKind.u64.wrap ((Go.bits .and .u64 (a0 / 2) 6148914691236517205) + (Go.bits .and .u64 a0 6148914691236517205))) / 4) 3689348814741910323) + (Go.bits .and .u64 (IntKind.u64.wrap ((Go.bits .and .u64 (a0 / 2) 6148914691236517205) + (Go.bits .and .u64 a0 6148914691236517205))) 3689348814741910323))))) 1085102592571150095) + ((Go.bits .and .u64 (IntKind.u64.wrap (((IntKind.u64.wrap ((Go.bits .and .u64 ((IntKind.u64.wrap ((Go.bits .and .u64 (a0 / 2) 6148914691236517205) + (Go.bits .and .u64 a0 6148914691236517205))) / 4) 3689348814741910323) + (Go.bits .and .u64 (IntKind.u64.wrap ((Go.bits .and .u64 (a0 / 2) 6148914691236517205) + (Go.bits .and .u64 a0 6148914691236517205))) 3689348814741910323))) / 16) + (IntKind.u64.wrap ((Go.bits .and .u64 ((IntKind.u64.wrap ((Go.bits .and .u64 (a0 / 2) 6148914691236517205) + (Go.bits .and .u64 a0 6148914691236517205))) / 4) 3689348814741910323) + (Go.bits .and .u64 (IntKind.u64.wrap ((Go.bits .and .u64 (a0 / 2) 6148914691236517205) + (Go.bits .and .u64 a0 6148914691236517205))) 3689348814741910323))))) 1085102592571150095) / 256))) + ((IntKind.u64.wrap ((Go.bits .and .u64 (IntKind.u64.wrap (((IntKind.u64.wrap ((Go.bits .and .u64 ((IntKind.u64.wrap ((Go.bits .and .u64 (a0 / 2) 6148914691236517205) + (Go.bits .and .u64 a0 6148914691236517205))) / 4) 3689348814741910323) + (Go.bits .and .u64 (IntKind.u64.wrap ((Go.bits .and .u64 (a0 / 2) 6148914691236517205) + (Go.bits .and .u64 a0 6148914691236517205))) 3689348814741910323))) / 16) + (IntKind.u64.wrap ((Go.bits .and .u64 ((IntKind.u64.wrap ((Go.bits .and .u64 (a0 / 2) 6148914691236517205) + (Go.bits .and .u64 a0 6148914691236517205))) / 4) 3689348814741910323) + (Go.bits .and .u64 (IntKind.u64.wrap ((Go.bits .and .u64 (a0 / 2) 6148914691236517205) + (Go.bits .and .u64 a0 6148914691236517205))) 3689348814741910323))))) 1085102592571150095) + ((Go.bits .and .u64 (IntKind.u64.wrap (((IntKind.u64.wrap ((Go.bits .and .u64 ((IntKind.u64.wrap ((Go.bits .and .u64 (a0 / 2) 6148914691236517205) + (Go.bits .and .u64 a0 6148914691236517205))) / 4) 3689348814741910323) + (Go.bits .and .u64 (IntKind.u64.wrap ((Go.bits .and .u64 (a0 / 2) 6148914691236517205) + (Go.bits .and .u64 a0 6148914691236517205))) 3689348814741910323))) / 16) + (IntKind.u64.wrap ((Go.bits .and .u64 ((IntKind.u64.wrap ((Go.bits .and .u64 (a0 / 2) 6148914691236517205) + (Go.bits .and .u64 a0 6148914691236517205))) / 4) 3689348814741910323) + (Go.bits .and .u64 (IntKind.u64.wrap ((Go.bits .and .u64 (a0 / 2) 6148914691236517205) + (Go.bits .and .u64 a0 6148914691236517205))) 3689348814741910323))))) 1085102592571150095) / 256))) / 65536))) + ((IntKind.u64.wrap ((IntKind.u64.wrap ((Go.bits .and .u64 (IntKind.u64.wrap (((IntKind.u64.wrap ((Go.bits .and .u64 ((IntKind.u64.wrap ((Go.bits .and .u64 (a0 / 2) 6148914691236517205) + (Go.bits .and .u64 a0 6148914691236517205))) / 4) 3689348814741910323) + (Go.bits .and .u64 (IntKind.u64.wrap ((Go.bits .and .u64 (a0 / 2) 6148914691236517205) + (Go.bits .and .u64 a0 6148914691236517205))) 3689348814741910323))) / 16) + (IntKind.u64.wrap ((Go.bits .and .u64 ((IntKind.u64.wrap ((Go.bits .and .u64 (a0 / 2) 6148914691236517205) + (Go.bits .and .u64 a0 6148914691236517205))) / 4) 3689348814741910323) + (Go.bits .and .u64 (IntKind.u64.wrap ((Go.bits .and .u64 (a0 / 2) 6148914691236517205) + (Go.bits .and .u64 a0 6148914691236517205))) 3689348814741910323))))) 1085102592571150095) + ((Go.bits .and .u64 (IntKind.u64.wrap (((IntKind.u64.wrap ((Go.bits .and .u64 ((IntKind.u64.wrap ((Go.bits .and .u64 (a0 / 2) 6148914691236517205) + (Go.bits .and .u64 a0 6148914691236517205))) / 4) 3689348814741910323) + (Go.bits .and .u64 (IntKind.u64.wrap ((Go.bits .and .u64 (a0 / 2) 6148914691236517205) + (Go.bits .and .u64 a0 6148914691236517205))) 3689348814741910323))) / 16) + (IntKind.u64.wrap ((Go.bits .and .u64 ((IntKind.u64.wrap ((Go.bits .and .u64 (a0 / 2) 6148914691236517205) + (Go.bits .and .u64 a0 6148914691236517205))) / 4) 3689348814741910323) + (Go.bits .and .u64 (IntKind.u64.wrap ((Go.bits .and .u64 (a0 / 2) 6148914691236517205) + (Go.bits .and .u64 a0 6148914691236517205))) 3689348814741910323))))) 1085102592571150095) / 256))) + ((IntKind.u64.wrap ((Go.bits .and .u64 (IntKind.u64.wrap (((IntKind.u64.wrap ((Go.bits .and .u64 ((IntKind.u64.wrap ((Go.bits .and .u64 (a0 / 2) 6148914691236517205) + (Go.bits .and .u64 a0 6148914691236517205))) / 4) 3689348814741910323) + (Go.bits .and .u64 (IntKind.u64.wrap ((Go.bits .and .u64 (a0 / 2) 6148914691236517205) + (Go.bits .and .u64 a0 6148914691236517205))) 3689348814741910323))) / 16) + (IntKind.u64.wrap ((Go.bits .and .u64 ((IntKind.u64.wrap ((Go.bits .and .u64 (a0 / 2) 6148914691236517205) + (Go.bits .and .u64 a0 6148914691236517205))) / 4) 3689348814741910323) + (Go.bits .and .u64 (IntKind.u64.wrap ((Go.bits .and .u64 (a0 / 2) 6148914691236517205) + (Go.bits .and .u64 a0 6148914691236517205))) 3689348814741910323))))) 1085102592571150095) + ((Go.bits .and .u64 (IntKind.u64.wrap (((IntKind.u64.wrap ((Go.bits .and .u64 ((IntKind.u64.wrap ((Go.bits .and .u64 (a0 / 2) 6148914691236517205) + (Go.bits .and .u64 a0 6148914691236517205))) / 4) 3689348814741910323) + (Go.bits .and .u64 (IntKind.u64.wrap ((Go.bits .and .u64 (a0 / 2) 6148914691236517205) + (Go.bits .and .u64 a0 6148914691236517205))) 3689348814741910323))) / 16) + (IntKind.u64.wrap ((Go.bits .and .u64 ((IntKind.u64.wrap ((Go.bits .and .u64 (a0 / 2) 6148914691236517205) + (Go.bits .and .u64 a0 6148914691236517205))) / 4) 3689348814741910323) + (Go.bits .and .u64 (IntKind.u64.wrap ((Go.bits .and .u64 (a0 / 2) 6148914691236517205) + (Go.bits .and .u64 a0 6148914691236517205))) 3689348814741910323))))) 1085102592571150095) / 256))) / 65536))) / 4294967296)))) 127)) = some r := h
  clear h
  obtain rfl := Option.some.inj H
  go_enter Tryd.func62, Tryd.ntmps62
  go_wp2
  go_ret
  exact ⟨by first | rfl | (simp; done) | (simp [*]; done), by repeat (first | exact Drawn0.refl _ | apply Drawn0.step)⟩

end Go.Proofs.YtijpnlmejphfhaaDoor.P

-- YtijpnlmejphfhaaDoorP8
namespace Go.Proofs.YtijpnlmejphfhaaDoor.P
open Go.RowKit Go.Proofs.YtijpnlmejphfhaaDoorW.PrintWords Go.Proofs.YtijpnlmejphfhaaDoorW.PrintLast Go.Proofs.YtijpnlmejphfhaaDoorW.PrintMore
attribute [local go_sem] max2_int min2_int max_two min_two max_three min_three max_four min_four   -- for this text's walks alone
set_option linter.unusedVariables false
set_option linter.unusedSimpArgs false

/-! ### bits_OnesCount: function 60 -/
def bits_OnesCount.f (a0 : Int) : Option (Int) := (bits_OnesCount64.f a0).bind fun t101 => (some t101)
set_option maxHeartbeats 8000000 in
set_option maxRecDepth 100000 in
theorem bits_OnesCount.calls (a0 : Int) (r : Int) (w : World) (h : bits_OnesCount.f a0 = some r) :
    Calls Tryd.prog 60 #[.int .u64 a0] w fun e w' => e = .returned (.int .i64 r) ∧ Drawn0 w w' := by
  have H : ((bits_OnesCount64.f a0).bind fun t101 => (some t101)) = some r := h
  clear h
  replace H := Option.bind_eq_some_iff.mp H
  obtain ⟨t101, A20, H⟩ := H
  replace H : (some t101) = some r := H
  have A2 := Aside0.mk A20
  clear A20
  obtain rfl := Option.some.inj H
  go_enter Tryd.func60, Tryd.ntmps60
  go_wp2_with (first | ((with_reducible refine gate_callee (f := 62) rfl ?_); refine goesL_ (some 7) rfl rfl Tryd.func62 (by kernel_rfl) rfl #[.int .u64 a0] rfl (by (try simp only [List.map_toArray, List.map_cons, List.map_nil]); first | done | rfl | (simp only [List.length_drop, List.length_take]; rfl)) ?_; (with_reducible refine (bits_OnesCount64.calls a0 t101 _ A2.out).mono ?_); rintro e w' ⟨rfl, ⟨nd, rfl⟩⟩; refine ⟨_, rfl, ?_⟩))
  go_ret
  exact ⟨by first | rfl | (simp; done) | (simp [*]; done), by repeat (first | exact Drawn0.refl _ | apply Drawn0.step)⟩

end Go.Proofs.YtijpnlmejphfhaaDoor.P

-- YtijpnlmejphfhaaDoorP9
namespace Go.Proofs.YtijpnlmejphfhaaDoor.P
open Go.RowKit Go.Proofs.YtijpnlmejphfhaaDoorW.PrintWords Go.Proofs.YtijpnlmejphfhaaDoorW.PrintLast Go.Proofs.YtijpnlmejphfhaaDoorW.PrintMore
attribute [local go_sem] max2_int min2_int max_two min_two max_three min_three max_four min_four   -- for this text's walks alone
set_option linter.unusedVariables false
set_option linter.unusedSimpArgs false

/-! ### conv_out: function 58 -/
attribute [local go_sem] run_index_arr
def conv_outb (a0 t : Int) : Option Int := (bits_OnesCount.f (Go.bits .and .u64 a0 t)).bind fun n => some (Go.bits .and .i64 n 1 % 256)
def conv_out.f (a0 : Int) : Option (Int × Int × Int × Int) := (conv_outb a0 79).bind fun r1 => (conv_outb a0 87).bind fun r2 => (conv_outb a0 109).bind fun r3 => (conv_outb a0 121).bind fun r4 => some (r1, r2, r3, r4)
theorem conv_outb_inv {a0 t r : Int} (h : conv_outb a0 t = some r) : ∃ n, bits_OnesCount.f (Go.bits .and .u64 a0 t) = some n ∧ r = Go.bits .and .i64 n 1 % 256 := by
  obtain ⟨n, h1, h2⟩ := Option.bind_eq_some_iff.mp h
  exact ⟨n, h1, (Option.some.inj h2).symm⟩
theorem conv_out_inv {a0 r1 r2 r3 r4 : Int} (h : conv_out.f a0 = some (r1, r2, r3, r4)) : ∃ n1 n2 n3 n4, bits_OnesCount.f (Go.bits .and .u64 a0 79) = some n1 ∧ Go.bits .and .i64 n1 1 % 256 = r1 ∧
    bits_OnesCount.f (Go.bits .and .u64 a0 87) = some n2 ∧ Go.bits .and .i64 n2 1 % 256 = r2 ∧ bits_OnesCount.f (Go.bits .and .u64 a0 109) = some n3 ∧ Go.bits .and .i64 n3 1 % 256 = r3 ∧
    bits_OnesCount.f (Go.bits .and .u64 a0 121) = some n4 ∧ Go.bits .and .i64 n4 1 % 256 = r4 := by
  unfold conv_out.f at h
  obtain ⟨q1, h1, h⟩ := Option.bind_eq_some_iff.mp h
  obtain ⟨q2, h2, h⟩ := Option.bind_eq_some_iff.mp h
  obtain ⟨q3, h3, h⟩ := Option.bind_eq_some_iff.mp h
  obtain ⟨q4, h4, h⟩ := Option.bind_eq_some_iff.mp h
  simp only [Option.some.injEq, Prod.mk.injEq] at h
  obtain ⟨rfl, rfl, rfl, rfl⟩ := h
  obtain ⟨n1, b1, x1⟩ := conv_outb_inv h1
  obtain ⟨n2, b2, x2⟩ := conv_outb_inv h2
  obtain ⟨n3, b3, x3⟩ := conv_outb_inv h3
  obtain ⟨n4, b4, x4⟩ := conv_outb_inv h4
  exact ⟨n1, n2, n3, n4, b1, x1.symm, b2, x2.symm, b3, x3.symm, b4, x4.symm⟩
/-- The box's cells behind q rounds. -/
def conv_outc (r1 r2 r3 r4 : Int) : Nat → Array Value
  | 0 => #[.int .u8 0, .int .u8 0, .int .u8 0, .int .u8 0]
  | 1 => #[.int .u8 r1, .int .u8 0, .int .u8 0, .int .u8 0]
  | 2 => #[.int .u8 r1, .int .u8 r2, .int .u8 0, .int .u8 0]
  | 3 => #[.int .u8 r1, .int .u8 r2, .int .u8 r3, .int .u8 0]
  | _ => #[.int .u8 r1, .int .u8 r2, .int .u8 r3, .int .u8 r4]
set_option maxRecDepth 100000 in
set_option maxHeartbeats 4000000 in
theorem conv_out.calls (a0 : Int) (r1 : Int) (r2 : Int) (r3 : Int) (r4 : Int) (w : World) (h : conv_out.f a0 = some (r1, r2, r3, r4)) (hT_ : TP w := by first | assumption | exact TP_of (by assumption : TP _) (by repeat (first | (with_reducible first | apply below_alloc | apply pw_below_drewN | apply below_drew1 | refine below_set ?_ (Aside0.out (by assumption))) | exact Aside0.out (by assumption) | exact Below.refl _ _))) :
    Calls Tryd.prog 58 #[.int .u64 a0] w fun e w' => e = .returned (.agg #[.int .u8 r1, .int .u8 r2, .int .u8 r3, .int .u8 r4]) ∧ Below w.heap.size w w' := by
  obtain ⟨n1, n2, n3, n4, b1, x1, b2, x2, b3, x3, b4, x4⟩ := conv_out_inv h
  clear h
  replace b1 := Aside0.mk b1
  replace b2 := Aside0.mk b2
  replace b3 := Aside0.mk b3
  replace b4 := Aside0.mk b4
  go_enter Tryd.func58, Tryd.ntmps58
  have hc0 := hT_.c0
  have hc1 := hT_.c1
  have hc2 := hT_.c2
  have hc3 := hT_.c3
  have hlt := hT_.lt
  go_wp2
  clear hc0 hc1 hc2 hc3
  have hB0 : Below w.heap.size w ((w.alloc (.cells #[.int .u8 0, .int .u8 0, .int .u8 0, .int .u8 0] 56)).alloc (.cells #[.int .u8 0, .int .u8 0, .int .u8 0, .int .u8 0] 56)) := below_alloc (below_alloc (Below.refl _ _) _) _
  have k0 := Aside0.mk (blk_alloc (blk_new w (.cells #[.int .u8 0, .int .u8 0, .int .u8 0, .int .u8 0] 56)) (.cells #[.int .u8 0, .int .u8 0, .int .u8 0, .int .u8 0] 56))
  have k1 := blk_new (w.alloc (.cells #[.int .u8 0, .int .u8 0, .int .u8 0, .int .u8 0] 56)) (.cells #[.int .u8 0, .int .u8 0, .int .u8 0, .int .u8 0] 56)
  rw [World.size_alloc] at k1
  replace k1 := Aside0.mk k1
  replace hB0 := Aside0.mk hB0
  obtain ⟨g0, hg0⟩ : ∃ g0, g0 = w.heap.size := ⟨_, rfl⟩
  obtain ⟨g1, hg1⟩ : ∃ g1, g1 = w.heap.size + 1 := ⟨_, rfl⟩
  have hne : g0 ≠ g1 := by omega
  have l0 : w.heap.size ≤ g0 := by omega
  have l1 : w.heap.size ≤ g1 := by omega
  simp only [← hg1] at k1 ⊢
  rw [← hg0] at k0
  simp only [show Value.pointer (some { block := w.heap.size, off := 0 }) = Value.pointer (some { block := g0, off := 0 }) from by rw [hg0]]
  replace hg0 := Aside0.mk hg0
  replace hg1 := Aside0.mk hg1
  replace l0 := Aside0.mk l0
  replace l1 := Aside0.mk l1
  replace hne := Aside0.mk hne
  replace hlt := Aside0.mk hlt
  go_loopw [7] (fun v7 wr => ∃ q : Nat, q ≤ 4 ∧ v7 = .int .i64 (q : Int) ∧ Aside0 (wr.heap[g0]? = some (.cells #[.int .u8 0, .int .u8 0, .int .u8 0, .int .u8 0] 56 (0, 0))) ∧ Aside0 (wr.heap[g1]? = some (.cells (conv_outc r1 r2 r3 r4 q) 56 (0, 0))) ∧ Aside0 (Below w.heap.size w wr)) (fun v7 _ => 4 - (intOf v7).toNat)
  case atStart => exact ⟨0, by omega, rfl, k0, k1, hB0⟩
  case round =>
    clear k0 k1 hB0
    obtain ⟨q, hq, rfl, k0, k1, HB⟩ := hrel
    obtain rfl | rfl | rfl | rfl | rfl : q = 0 ∨ q = 1 ∨ q = 2 ∨ q = 3 ∨ q = 4 := by omega
    · have hz := (blk_cell k1.out 0).trans (show _ = some (Value.int .u8 0) from rfl)
      have hf := blk_frozen k1.out 0
      go_wp2_with ((with_reducible refine gate_callee (f := 60) rfl ?_); refine goesL_ (some 15) rfl rfl Tryd.func60 (by kernel_rfl) rfl #[.int .u64 (Go.bits .and .u64 a0 79)] rfl (by (try simp only [List.map_toArray, List.map_cons, List.map_nil]); first | done | rfl) ?_; (with_reducible refine (bits_OnesCount.calls (Go.bits .and .u64 a0 79) n1 _ b1.out).mono ?_); rintro e w' ⟨rfl, ⟨nd, rfl⟩⟩; refine ⟨_, rfl, ?_⟩)
      clear hz hf
      go_roundw
      case rel =>
        refine ⟨1, by omega, rfl, ⟨?_⟩, ⟨?_⟩, ⟨?_⟩⟩
        · exact blk_far k0.out hne.out _
        · exact blk_put (cs := conv_outc r1 r2 r3 r4 0) k1.out 0 _ rfl
        · exact below_set (pw_below_drewN HB.out _) l1.out
      case measure => simp [intOf]
    · have hz := (blk_cell k1.out 1).trans (show _ = some (Value.int .u8 0) from rfl)
      have hf := blk_frozen k1.out 1
      go_wp2_with ((with_reducible refine gate_callee (f := 60) rfl ?_); refine goesL_ (some 15) rfl rfl Tryd.func60 (by kernel_rfl) rfl #[.int .u64 (Go.bits .and .u64 a0 87)] rfl (by (try simp only [List.map_toArray, List.map_cons, List.map_nil]); first | done | rfl) ?_; (with_reducible refine (bits_OnesCount.calls (Go.bits .and .u64 a0 87) n2 _ b2.out).mono ?_); rintro e w' ⟨rfl, ⟨nd, rfl⟩⟩; refine ⟨_, rfl, ?_⟩)
      clear hz hf
      go_roundw
      case rel =>
        refine ⟨2, by omega, rfl, ⟨?_⟩, ⟨?_⟩, ⟨?_⟩⟩
        · exact blk_far k0.out hne.out _
        · exact blk_put (cs := conv_outc r1 r2 r3 r4 1) k1.out 1 _ rfl
        · exact below_set (pw_below_drewN HB.out _) l1.out
      case measure => simp [intOf]
    · have hz := (blk_cell k1.out 2).trans (show _ = some (Value.int .u8 0) from rfl)
      have hf := blk_frozen k1.out 2
      go_wp2_with ((with_reducible refine gate_callee (f := 60) rfl ?_); refine goesL_ (some 15) rfl rfl Tryd.func60 (by kernel_rfl) rfl #[.int .u64 (Go.bits .and .u64 a0 109)] rfl (by (try simp only [List.map_toArray, List.map_cons, List.map_nil]); first | done | rfl) ?_; (with_reducible refine (bits_OnesCount.calls (Go.bits .and .u64 a0 109) n3 _ b3.out).mono ?_); rintro e w' ⟨rfl, ⟨nd, rfl⟩⟩; refine ⟨_, rfl, ?_⟩)
      clear hz hf
      go_roundw
      case rel =>
        refine ⟨3, by omega, rfl, ⟨?_⟩, ⟨?_⟩, ⟨?_⟩⟩
        · exact blk_far k0.out hne.out _
        · exact blk_put (cs := conv_outc r1 r2 r3 r4 2) k1.out 2 _ rfl
        · exact below_set (pw_below_drewN HB.out _) l1.out
      case measure => simp [intOf]
    · have hz := (blk_cell k1.out 3).trans (show _ = some (Value.int .u8 0) from rfl)
      have hf := blk_frozen k1.out 3
      go_wp2_with ((with_reducible refine gate_callee (f := 60) rfl ?_); refine goesL_ (some 15) rfl rfl Tryd.func60 (by kernel_rfl) rfl #[.int .u64 (Go.bits .and .u64 a0 121)] rfl (by (try simp only [List.map_toArray, List.map_cons, List.map_nil]); first | done | rfl) ?_; (with_reducible refine (bits_OnesCount.calls (Go.bits .and .u64 a0 121) n4 _ b4.out).mono ?_); rintro e w' ⟨rfl, ⟨nd, rfl⟩⟩; refine ⟨_, rfl, ?_⟩)
      clear hz hf
      go_roundw
      case rel =>
        refine ⟨4, by omega, rfl, ⟨?_⟩, ⟨?_⟩, ⟨?_⟩⟩
        · exact blk_far k0.out hne.out _
        · exact blk_put (cs := conv_outc r1 r2 r3 r4 3) k1.out 3 _ rfl
        · exact below_set (pw_below_drewN HB.out _) l1.out
      case measure => simp [intOf]
    · have hz0 := (blk_cell k1.out 0).trans (show _ = some (Value.int .u8 r1) from rfl)
      have hz1 := (blk_cell k1.out 1).trans (show _ = some (Value.int .u8 r2) from rfl)
      have hz2 := (blk_cell k1.out 2).trans (show _ = some (Value.int .u8 r3) from rfl)
      have hz3 := (blk_cell k1.out 3).trans (show _ = some (Value.int .u8 r4) from rfl)
      have y0 := (blk_cell k0.out 0).trans (show _ = some (Value.int .u8 0) from rfl)
      have y1 := (blk_cell k0.out 1).trans (show _ = some (Value.int .u8 0) from rfl)
      have y2 := (blk_cell k0.out 2).trans (show _ = some (Value.int .u8 0) from rfl)
      have y3 := (blk_cell k0.out 3).trans (show _ = some (Value.int .u8 0) from rfl)
      have f0 := blk_frozen k0.out 0
      have f1 := blk_frozen k0.out 1
      have f2 := blk_frozen k0.out 2
      have f3 := blk_frozen k0.out 3
      go_wp2
      have kk := blk_put (blk_put (blk_put (blk_put k0.out 0 (.int .u8 r1) (cs' := #[.int .u8 r1, .int .u8 0, .int .u8 0, .int .u8 0]) rfl) 1 (.int .u8 r2) (cs' := #[.int .u8 r1, .int .u8 r2, .int .u8 0, .int .u8 0]) rfl) 2 (.int .u8 r3) (cs' := #[.int .u8 r1, .int .u8 r2, .int .u8 r3, .int .u8 0]) rfl) 3 (.int .u8 r4) (cs' := #[.int .u8 r1, .int .u8 r2, .int .u8 r3, .int .u8 r4]) rfl
      refine bodyPost_ret (results_cell_row rfl _ _ g0 56 #[.int .u8 r1, .int .u8 r2, .int .u8 r3, .int .u8 r4] (0, 0) _ rfl kk Tryd.underlying56 rfl (by kernel_rfl)) rfl ?_
      exact ⟨rfl, below_set (below_set (below_set (below_set HB.out l0.out) l0.out) l0.out) l0.out⟩

end Go.Proofs.YtijpnlmejphfhaaDoor.P

-- YtijpnlmejphfhaaDoorP10
namespace Go.Proofs.YtijpnlmejphfhaaDoor.P
open Go.RowKit Go.Proofs.YtijpnlmejphfhaaDoorW.PrintWords Go.Proofs.YtijpnlmejphfhaaDoorW.PrintLast Go.Proofs.YtijpnlmejphfhaaDoorW.PrintMore
attribute [local go_sem] max2_int min2_int max_two min_two max_three min_three max_four min_four   -- for this text's walks alone
set_option linter.unusedVariables false
set_option linter.unusedSimpArgs false

/-! ### conv_word: function 59 -/
def conv_word.f (a0 : Int) (a1 : Int) : Option (Int) := some (Go.bits .or .u64 (IntKind.u64.wrap ((IntKind.u64.wrap (a1)) * 64)) (IntKind.u64.wrap (a0)))
set_option maxHeartbeats 8000000 in
set_option maxRecDepth 100000 in
theorem conv_word.calls (a0 : Int) (a1 : Int) (r : Int) (w : World) (h : conv_word.f a0 a1 = some r) :
    Calls Tryd.prog 59 #[.int .i64 a0, .int .u8 a1] w fun e w' => e = .returned (.int .u64 r) ∧ Drawn0 w w' := by
  have H : (some (Go.bits .or .u64 (IntKind.u64.wrap ((IntKind.u64.wrap (a1)) * 64)) (IntKind.u64.wrap (a0)))) = some r := h
  clear h
  obtain rfl := Option.some.inj H
  go_enter Tryd.func59, Tryd.ntmps59
  go_wp2
  go_ret
  exact ⟨by first | rfl | (simp; done) | (simp [*]; done), by repeat (first | exact Drawn0.refl _ | apply Drawn0.step)⟩

end Go.Proofs.YtijpnlmejphfhaaDoor.P

-- YtijpnlmejphfhaaDoorP11
namespace Go.Proofs.YtijpnlmejphfhaaDoor.P
open Go.RowKit Go.Proofs.YtijpnlmejphfhaaDoorW.PrintWords Go.Proofs.YtijpnlmejphfhaaDoorW.PrintLast Go.Proofs.YtijpnlmejphfhaaDoorW.PrintMore
attribute [local go_sem] max2_int min2_int max_two min_two max_three min_three max_four min_four   -- for this text's walks alone
set_option linter.unusedVariables false
set_option linter.unusedSimpArgs false

/-! ### conv_Out: function 55 -/
def conv_Out.f (a0 : Int) (a1 : Int) : Option (Int × Int × Int × Int × Int) := (conv_right.f a0 a1).bind fun t103 => (if t103 = true then ((conv_word.f a0 a1).bind fun t104 => ((conv_out.f t104).bind fun bt105 => (some (bt105.1, bt105.2.1, bt105.2.2.1, bt105.2.2.2, 0)))) else (some (0, 0, 0, 0, 1)))
set_option maxHeartbeats 8000000 in
set_option maxRecDepth 100000 in
theorem conv_Out.calls (a0 : Int) (a1 : Int) (r1 : Int) (r2 : Int) (r3 : Int) (r4 : Int) (r5 : Int) (w : World) (h : conv_Out.f a0 a1 = some (r1, r2, r3, r4, r5)) (hT_ : TP w := by first | assumption | exact TP_of (by assumption : TP _) (by repeat (first | (with_reducible first | apply below_alloc | apply pw_below_drewN | apply below_drew1 | refine below_set ?_ (Aside0.out (by assumption))) | exact Aside0.out (by assumption) | exact Below.refl _ _))) :
    Calls Tryd.prog 55 #[.int .i64 a0, .int .u8 a1] w fun e w' => e = .returned (.tuple #[.agg #[.int .u8 r1, .int .u8 r2, .int .u8 r3, .int .u8 r4], .int .i64 r5]) ∧ Below w.heap.size w w' := by
  have hu56 := Tryd.underlying56
  have HB := Aside0.mk (Below.refl w.heap.size w)
  have H : ((conv_right.f a0 a1).bind fun t103 => (if t103 = true then ((conv_word.f a0 a1).bind fun t104 => ((conv_out.f t104).bind fun bt105 => (some (bt105.1, bt105.2.1, bt105.2.2.1, bt105.2.2.2, 0)))) else (some (0, 0, 0, 0, 1)))) = some (r1, r2, r3, r4, r5) := h
  clear h
  replace H := Option.bind_eq_some_iff.mp H
  obtain ⟨t103, A30, H⟩ := H
  replace H : (if t103 = true then ((conv_word.f a0 a1).bind fun t104 => ((conv_out.f t104).bind fun bt105 => (some (bt105.1, bt105.2.1, bt105.2.2.1, bt105.2.2.2, 0)))) else (some (0, 0, 0, 0, 1))) = some (r1, r2, r3, r4, r5) := H
  have A3 := Aside0.mk A30
  clear A30
  by_cases c4 : t103 = true
  · subst c4
    have H1 : ((conv_word.f a0 a1).bind fun t104 => ((conv_out.f t104).bind fun bt105 => (some (bt105.1, bt105.2.1, bt105.2.2.1, bt105.2.2.2, 0)))) = some (r1, r2, r3, r4, r5) := by rw [if_pos rfl] at H; exact H
    clear H
    have H := H1
    clear H1
    replace H := Option.bind_eq_some_iff.mp H
    obtain ⟨t104, A50, H⟩ := H
    replace H : ((conv_out.f t104).bind fun bt105 => (some (bt105.1, bt105.2.1, bt105.2.2.1, bt105.2.2.2, 0))) = some (r1, r2, r3, r4, r5) := H
    have A5 := Aside0.mk A50
    clear A50
    replace H := Option.bind_eq_some_iff.mp H
    obtain ⟨⟨t105, t106, t107, t108⟩, A60, H⟩ := H
    replace H : (some (t105, t106, t107, t108, 0)) = some (r1, r2, r3, r4, r5) := H
    have A6 := Aside0.mk A60
    clear A60
    simp only [Option.some.injEq, Prod.mk.injEq] at H
    obtain ⟨rfl, rfl, rfl, rfl, rfl⟩ := H
    go_enter Tryd.func55, Tryd.ntmps55
    go_wp2_with (first | ((with_reducible refine gate_dst (N := 4) rfl ?_); refine box_event ?hg (N := 4) ?hd (cs := #[.int .u8 0, .int .u8 0, .int .u8 0, .int .u8 0]) (t := 56) ?hr ?_; (case hd => rfl); (case hg => rfl); (case hr => first | (go_simp; done) | (go_simp; rfl)); intro gb102 hg w7 hbox hb; have n0_ := Aside0.mk (below_step (by repeat (first | (with_reducible first | exact HB.out | apply below_alloc | apply pw_below_drewN | apply below_drew1) | exact HB.out)) hb); have n1_ := Aside0.mk (hbox); have n2_ := Aside0.mk ((by rw [hg]; exact (below_size (by repeat (first | (with_reducible first | exact HB.out | apply below_alloc | apply pw_below_drewN | apply below_drew1) | exact HB.out))) : w.heap.size ≤ gb102)); have n3_ := Aside0.mk ((by rw [hg]; exact (below_size (by repeat (first | (with_reducible first | exact HB.out | apply below_alloc | apply pw_below_drewN | apply below_drew1) | exact HB.out))) : w.heap.size ≤ gb102)); clear HB; have HB := n0_; have BK102 := n1_; have GW102 := n2_; have GE102 := n3_; clear n0_ n1_ n2_ n3_; clear hb hbox hg) | ((with_reducible refine gate_callee (f := 57) rfl ?_); refine goesL_ (some 8) rfl rfl Tryd.func57 (by kernel_rfl) rfl #[.int .i64 a0, .int .u8 a1] rfl (by (try simp only [List.map_toArray, List.map_cons, List.map_nil]); first | done | rfl | (simp only [List.length_drop, List.length_take]; rfl)) ?_; (with_reducible refine (conv_right.calls a0 a1 true _ A3.out).mono ?_); rintro e w' ⟨rfl, ⟨nd, rfl⟩⟩; refine ⟨_, rfl, ?_⟩; (try (rw [drewN_self w7]; generalize hq_ : World.drewN w7 _ = w7; have n0_ : Aside0 (w7.heap[gb102]? = some (.cells #[.int .u8 0, .int .u8 0, .int .u8 0, .int .u8 0] 56 (0, 0))) := ⟨by rw [← hq_]; exact (by (with_reducible repeat (first | refine blk_drewN ?_ _ | refine blk_drew ?_ | refine blk_alloc ?_ _)); exact BK102.out)⟩; have n1_ : Aside0 (Below w.heap.size w w7) := ⟨by rw [← hq_]; exact (by repeat (first | (with_reducible first | exact HB.out | apply below_alloc | apply pw_below_drewN | apply below_drew1 | refine below_set ?_ GE102.out) | exact HB.out))⟩; clear BK102 HB hq_; have BK102 := n0_; have HB := n1_; clear n0_ n1_))) | ((with_reducible refine gate_callee (f := 59) rfl ?_); refine goesL_ (some 13) rfl rfl Tryd.func59 (by kernel_rfl) rfl #[.int .i64 a0, .int .u8 a1] rfl (by (try simp only [List.map_toArray, List.map_cons, List.map_nil]); first | done | rfl | (simp only [List.length_drop, List.length_take]; rfl)) ?_; (with_reducible refine (conv_word.calls a0 a1 t104 _ A5.out).mono ?_); rintro e w' ⟨rfl, ⟨nd, rfl⟩⟩; refine ⟨_, rfl, ?_⟩; (try (rw [drewN_self w7]; generalize hq_ : World.drewN w7 _ = w7; have n0_ : Aside0 (w7.heap[gb102]? = some (.cells #[.int .u8 0, .int .u8 0, .int .u8 0, .int .u8 0] 56 (0, 0))) := ⟨by rw [← hq_]; exact (by (with_reducible repeat (first | refine blk_drewN ?_ _ | refine blk_drew ?_ | refine blk_alloc ?_ _)); exact BK102.out)⟩; have n1_ : Aside0 (Below w.heap.size w w7) := ⟨by rw [← hq_]; exact (by repeat (first | (with_reducible first | exact HB.out | apply below_alloc | apply pw_below_drewN | apply below_drew1 | refine below_set ?_ GE102.out) | exact HB.out))⟩; clear BK102 HB hq_; have BK102 := n0_; have HB := n1_; clear n0_ n1_))) | ((with_reducible refine gate_callee (f := 58) rfl ?_); refine goesL_ (some 14) rfl rfl Tryd.func58 (by kernel_rfl) rfl #[.int .u64 t104] rfl (by (try simp only [List.map_toArray, List.map_cons, List.map_nil]); first | done | rfl | (simp only [List.length_drop, List.length_take]; rfl)) ?_; (with_reducible refine (conv_out.calls t104 t105 t106 t107 t108 _ A6.out).mono ?_); rintro e w8 ⟨rfl, hb⟩; refine ⟨_, rfl, ?_⟩; have n0_ := Aside0.mk (blk_below (g := gb102) (o := .cells #[.int .u8 0, .int .u8 0, .int .u8 0, .int .u8 0] 56 (0, 0)) (by (with_reducible repeat (first | refine blk_drewN ?_ _ | refine blk_drew ?_ | refine blk_alloc ?_ _)); exact BK102.out) hb); have n1_ := Aside0.mk (below_step (by repeat (first | (with_reducible first | exact HB.out | apply below_alloc | apply pw_below_drewN | apply below_drew1 | refine below_set ?_ GE102.out) | exact HB.out)) hb); clear BK102; clear HB; have BK102 := n0_; have HB := n1_; clear n0_ n1_; (try clear hb); (try clear hb2); (try clear hk); (try clear hi); have hcz9_0 : w8.cell? ⟨gb102, 0, none⟩ = some (.int .u8 0) := (blk_cell BK102.out 0).trans rfl; have hcz9_1 : w8.cell? ⟨gb102, 1, none⟩ = some (.int .u8 0) := (blk_cell BK102.out 1).trans rfl; have hcz9_2 : w8.cell? ⟨gb102, 2, none⟩ = some (.int .u8 0) := (blk_cell BK102.out 2).trans rfl; have hcz9_3 : w8.cell? ⟨gb102, 3, none⟩ = some (.int .u8 0) := (blk_cell BK102.out 3).trans rfl; have hfz9_0 := blk_frozen BK102.out 0; have hfz9_1 := blk_frozen BK102.out 1; have hfz9_2 := blk_frozen BK102.out 2; have hfz9_3 := blk_frozen BK102.out 3))
    refine bodyPost_ret (results_ct rfl _ _ gb102 56 #[.int .u8 t105, .int .u8 t106, .int .u8 t107, .int .u8 t108] (0, 0) _ rfl (by (with_reducible repeat (first | refine blk_drewN ?_ _ | refine blk_drew ?_ | refine blk_alloc ?_ _)); refine blk_put (cs := #[.int .u8 t105, .int .u8 t106, .int .u8 t107, .int .u8 0]) ?_ 3 _ rfl; (with_reducible repeat (first | refine blk_drewN ?_ _ | refine blk_drew ?_ | refine blk_alloc ?_ _)); refine blk_put (cs := #[.int .u8 t105, .int .u8 t106, .int .u8 0, .int .u8 0]) ?_ 2 _ rfl; (with_reducible repeat (first | refine blk_drewN ?_ _ | refine blk_drew ?_ | refine blk_alloc ?_ _)); refine blk_put (cs := #[.int .u8 t105, .int .u8 0, .int .u8 0, .int .u8 0]) ?_ 1 _ rfl; (with_reducible repeat (first | refine blk_drewN ?_ _ | refine blk_drew ?_ | refine blk_alloc ?_ _)); refine blk_put (cs := #[.int .u8 0, .int .u8 0, .int .u8 0, .int .u8 0]) ?_ 0 _ rfl; (with_reducible repeat (first | refine blk_drewN ?_ _ | refine blk_drew ?_ | refine blk_alloc ?_ _)); exact BK102.out) Tryd.underlying56 rfl (by kernel_rfl)) rfl ?_
    exact ⟨by first | rfl | (simp [errW_none, errW_some] <;> rfl) | (simp [*, errW_none, errW_some] <;> rfl), by repeat (first | (with_reducible first | exact HB.out | apply below_alloc | apply pw_below_drewN | apply below_drew1 | refine below_set ?_ GE102.out) | exact HB.out)⟩
  · replace c4 := Bool.eq_false_iff.mpr c4
    subst c4
    have H1 : (some (0, 0, 0, 0, 1)) = some (r1, r2, r3, r4, r5) := by rw [if_neg (show ¬ (false = true) by decide)] at H; exact H
    clear H
    have H := H1
    clear H1
    simp only [Option.some.injEq, Prod.mk.injEq] at H
    obtain ⟨rfl, rfl, rfl, rfl, rfl⟩ := H
    go_enter Tryd.func55, Tryd.ntmps55
    go_wp2_with (first | ((with_reducible refine gate_dst (N := 4) rfl ?_); refine box_event ?hg (N := 4) ?hd (cs := #[.int .u8 0, .int .u8 0, .int .u8 0, .int .u8 0]) (t := 56) ?hr ?_; (case hd => rfl); (case hg => rfl); (case hr => first | (go_simp; done) | (go_simp; rfl)); intro gb102 hg w10 hbox hb; have n0_ := Aside0.mk (below_step (by repeat (first | (with_reducible first | exact HB.out | apply below_alloc | apply pw_below_drewN | apply below_drew1) | exact HB.out)) hb); have n1_ := Aside0.mk (hbox); have n2_ := Aside0.mk ((by rw [hg]; exact (below_size (by repeat (first | (with_reducible first | exact HB.out | apply below_alloc | apply pw_below_drewN | apply below_drew1) | exact HB.out))) : w.heap.size ≤ gb102)); have n3_ := Aside0.mk ((by rw [hg]; exact (below_size (by repeat (first | (with_reducible first | exact HB.out | apply below_alloc | apply pw_below_drewN | apply below_drew1) | exact HB.out))) : w.heap.size ≤ gb102)); clear HB; have HB := n0_; have BK102 := n1_; have GW102 := n2_; have GE102 := n3_; clear n0_ n1_ n2_ n3_; clear hb hbox hg) | ((with_reducible refine gate_callee (f := 57) rfl ?_); refine goesL_ (some 8) rfl rfl Tryd.func57 (by kernel_rfl) rfl #[.int .i64 a0, .int .u8 a1] rfl (by (try simp only [List.map_toArray, List.map_cons, List.map_nil]); first | done | rfl | (simp only [List.length_drop, List.length_take]; rfl)) ?_; (with_reducible refine (conv_right.calls a0 a1 false _ A3.out).mono ?_); rintro e w' ⟨rfl, ⟨nd, rfl⟩⟩; refine ⟨_, rfl, ?_⟩; (try (rw [drewN_self w10]; generalize hq_ : World.drewN w10 _ = w10; have n0_ : Aside0 (w10.heap[gb102]? = some (.cells #[.int .u8 0, .int .u8 0, .int .u8 0, .int .u8 0] 56 (0, 0))) := ⟨by rw [← hq_]; exact (by (with_reducible repeat (first | refine blk_drewN ?_ _ | refine blk_drew ?_ | refine blk_alloc ?_ _)); exact BK102.out)⟩; have n1_ : Aside0 (Below w.heap.size w w10) := ⟨by rw [← hq_]; exact (by repeat (first | (with_reducible first | exact HB.out | apply below_alloc | apply pw_below_drewN | apply below_drew1 | refine below_set ?_ GE102.out) | exact HB.out))⟩; clear BK102 HB hq_; have BK102 := n0_; have HB := n1_; clear n0_ n1_)); have hcz11_0 : w10.cell? ⟨gb102, 0, none⟩ = some (.int .u8 0) := (blk_cell BK102.out 0).trans rfl; have hcz11_1 : w10.cell? ⟨gb102, 1, none⟩ = some (.int .u8 0) := (blk_cell BK102.out 1).trans rfl; have hcz11_2 : w10.cell? ⟨gb102, 2, none⟩ = some (.int .u8 0) := (blk_cell BK102.out 2).trans rfl; have hcz11_3 : w10.cell? ⟨gb102, 3, none⟩ = some (.int .u8 0) := (blk_cell BK102.out 3).trans rfl; have hfz11_0 := blk_frozen BK102.out 0; have hfz11_1 := blk_frozen BK102.out 1; have hfz11_2 := blk_frozen BK102.out 2; have hfz11_3 := blk_frozen BK102.out 3))
    refine bodyPost_ret (results_ct rfl _ _ gb102 56 #[.int .u8 0, .int .u8 0, .int .u8 0, .int .u8 0] (0, 0) _ rfl (by (with_reducible repeat (first | refine blk_drewN ?_ _ | refine blk_drew ?_ | refine blk_alloc ?_ _)); refine blk_put (cs := #[.int .u8 0, .int .u8 0, .int .u8 0, .int .u8 0]) ?_ 3 _ rfl; (with_reducible repeat (first | refine blk_drewN ?_ _ | refine blk_drew ?_ | refine blk_alloc ?_ _)); refine blk_put (cs := #[.int .u8 0, .int .u8 0, .int .u8 0, .int .u8 0]) ?_ 2 _ rfl; (with_reducible repeat (first | refine blk_drewN ?_ _ | refine blk_drew ?_ | refine blk_alloc ?_ _)); refine blk_put (cs := #[.int .u8 0, .int .u8 0, .int .u8 0, .int .u8 0]) ?_ 1 _ rfl; (with_reducible repeat (first | refine blk_drewN ?_ _ | refine blk_drew ?_ | refine blk_alloc ?_ _)); refine blk_put (cs := #[.int .u8 0, .int .u8 0, .int .u8 0, .int .u8 0]) ?_ 0 _ rfl; (with_reducible repeat (first | refine blk_drewN ?_ _ | refine blk_drew ?_ | refine blk_alloc ?_ _)); exact BK102.out) Tryd.underlying56 rfl (by kernel_rfl)) rfl ?_
    exact ⟨by first | rfl | (simp [errW_none, errW_some] <;> rfl) | (simp [*, errW_none, errW_some] <;> rfl), by repeat (first | (with_reducible first | exact HB.out | apply below_alloc | apply pw_below_drewN | apply below_drew1 | refine below_set ?_ GE102.out) | exact HB.out)⟩

end Go.Proofs.YtijpnlmejphfhaaDoor.P

-- YtijpnlmejphfhaaDoorP12
namespace Go.Proofs.YtijpnlmejphfhaaDoor.P
open Go.RowKit Go.Proofs.YtijpnlmejphfhaaDoorW.PrintWords Go.Proofs.YtijpnlmejphfhaaDoorW.PrintLast Go.Proofs.YtijpnlmejphfhaaDoorW.PrintMore
attribute [local go_sem] max2_int min2_int max_two min_two max_three min_three max_four min_four   -- for this text's walks alone
set_option linter.unusedVariables false
set_option linter.unusedSimpArgs false

/-! ### conv_Next: function 56 -/
def conv_Next.f (a0 : Int) (a1 : Int) : Option (Int × Int) := (conv_right.f a0 a1).bind fun t109 => (if t109 = true then ((conv_word.f a0 a1).bind fun t110 => (some (wrap64 (t110 / 2), 0))) else (some (0, 1)))
set_option maxHeartbeats 8000000 in
set_option maxRecDepth 100000 in
theorem conv_Next.calls (a0 : Int) (a1 : Int) (r1 : Int) (r2 : Int) (w : World) (h : conv_Next.f a0 a1 = some (r1, r2)) :
    Calls Tryd.prog 56 #[.int .i64 a0, .int .u8 a1] w fun e w' => e = .returned (.tuple #[.int .i64 r1, .int .i64 r2]) ∧ Drawn0 w w' := by
  have H : ((conv_right.f a0 a1).bind fun t109 => (if t109 = true then ((conv_word.f a0 a1).bind fun t110 => (some (wrap64 (t110 / 2), 0))) else (some (0, 1)))) = some (r1, r2) := h
  clear h
  replace H := Option.bind_eq_some_iff.mp H
  obtain ⟨t109, A30, H⟩ := H
  replace H : (if t109 = true then ((conv_word.f a0 a1).bind fun t110 => (some (wrap64 (t110 / 2), 0))) else (some (0, 1))) = some (r1, r2) := H
  have A3 := Aside0.mk A30
  clear A30
  by_cases c4 : t109 = true
  · subst c4
    have H1 : ((conv_word.f a0 a1).bind fun t110 => (some (wrap64 (t110 / 2), 0))) = some (r1, r2) := by rw [if_pos rfl] at H; exact H
    clear H
    have H := H1
    clear H1
    replace H := Option.bind_eq_some_iff.mp H
    obtain ⟨t110, A50, H⟩ := H
    replace H : (some (wrap64 (t110 / 2), 0)) = some (r1, r2) := H
    have A5 := Aside0.mk A50
    clear A50
    simp only [Option.some.injEq, Prod.mk.injEq] at H
    obtain ⟨rfl, rfl⟩ := H
    go_enter Tryd.func56, Tryd.ntmps56
    go_wp2_with (first | ((with_reducible refine gate_callee (f := 57) rfl ?_); refine goesL_ (some 8) rfl rfl Tryd.func57 (by kernel_rfl) rfl #[.int .i64 a0, .int .u8 a1] rfl (by (try simp only [List.map_toArray, List.map_cons, List.map_nil]); first | done | rfl | (simp only [List.length_drop, List.length_take]; rfl)) ?_; (with_reducible refine (conv_right.calls a0 a1 true _ A3.out).mono ?_); rintro e w' ⟨rfl, ⟨nd, rfl⟩⟩; refine ⟨_, rfl, ?_⟩) | ((with_reducible refine gate_callee (f := 59) rfl ?_); refine goesL_ (some 12) rfl rfl Tryd.func59 (by kernel_rfl) rfl #[.int .i64 a0, .int .u8 a1] rfl (by (try simp only [List.map_toArray, List.map_cons, List.map_nil]); first | done | rfl | (simp only [List.length_drop, List.length_take]; rfl)) ?_; (with_reducible refine (conv_word.calls a0 a1 t110 _ A5.out).mono ?_); rintro e w' ⟨rfl, ⟨nd, rfl⟩⟩; refine ⟨_, rfl, ?_⟩))
    go_ret2
    exact ⟨by first | rfl | (simp; done) | (simp [*]; done), by repeat (first | exact Drawn0.refl _ | apply Drawn0.step)⟩
  · replace c4 := Bool.eq_false_iff.mpr c4
    subst c4
    have H1 : (some (0, 1)) = some (r1, r2) := by rw [if_neg (show ¬ (false = true) by decide)] at H; exact H
    clear H
    have H := H1
    clear H1
    simp only [Option.some.injEq, Prod.mk.injEq] at H
    obtain ⟨rfl, rfl⟩ := H
    go_enter Tryd.func56, Tryd.ntmps56
    go_wp2_with (first | ((with_reducible refine gate_callee (f := 57) rfl ?_); refine goesL_ (some 8) rfl rfl Tryd.func57 (by kernel_rfl) rfl #[.int .i64 a0, .int .u8 a1] rfl (by (try simp only [List.map_toArray, List.map_cons, List.map_nil]); first | done | rfl | (simp only [List.length_drop, List.length_take]; rfl)) ?_; (with_reducible refine (conv_right.calls a0 a1 false _ A3.out).mono ?_); rintro e w' ⟨rfl, ⟨nd, rfl⟩⟩; refine ⟨_, rfl, ?_⟩))
    go_ret2
    exact ⟨by first | rfl | (simp; done) | (simp [*]; done), by repeat (first | exact Drawn0.refl _ | apply Drawn0.step)⟩

end Go.Proofs.YtijpnlmejphfhaaDoor.P

-- YtijpnlmejphfhaaDoorP13
namespace Go.Proofs.YtijpnlmejphfhaaDoor.P
open Go.RowKit Go.Proofs.YtijpnlmejphfhaaDoorW.PrintWords Go.Proofs.YtijpnlmejphfhaaDoorW.PrintLast Go.Proofs.YtijpnlmejphfhaaDoorW.PrintMore
attribute [local go_sem] max2_int min2_int max_two min_two max_three min_three max_four min_four   -- for this text's walks alone
set_option linter.unusedVariables false
set_option linter.unusedSimpArgs false

/-! ### trellis_edge: function 52 -/
def trellis_edge.f (a0 : Int) (a1 : Int) : Option (Int × Int × Int × Int × Int × Int × Int × Int) := (conv_Out.f a0 a1).bind fun bt112 => (if bt112.2.2.2.2 = 0 then ((conv_Next.f a0 a1).bind fun bt118 => (some (a0, bt118.1, a1, bt112.1, bt112.2.1, bt112.2.2.1, bt112.2.2.2.1, bt118.2))) else (some (0, 0, 0, 0, 0, 0, 0, bt112.2.2.2.2)))
set_option maxHeartbeats 8000000 in
set_option maxRecDepth 100000 in
theorem trellis_edge.calls (a0 : Int) (a1 : Int) (r1 : Int) (r2 : Int) (r3 : Int) (r4 : Int) (r5 : Int) (r6 : Int) (r7 : Int) (r8 : Int) (w : World) (h : trellis_edge.f a0 a1 = some (r1, r2, r3, r4, r5, r6, r7, r8)) (hT_ : TP w := by first | assumption | exact TP_of (by assumption : TP _) (by repeat (first | (with_reducible first | apply below_alloc | apply pw_below_drewN | apply below_drew1 | refine below_set ?_ (Aside0.out (by assumption))) | exact Aside0.out (by assumption) | exact Below.refl _ _))) :
    Calls Tryd.prog 52 #[.int .i64 a0, .int .u8 a1] w fun e w' => e = .returned (.tuple #[.agg #[.int .i64 r1, .int .i64 r2, .int .u8 r3, .int .u8 r4, .int .u8 r5, .int .u8 r6, .int .u8 r7], .int .i64 r8]) ∧ Below w.heap.size w w' := by
  have hu77 := Tryd.underlying77
  have hu56 := Tryd.underlying56
  have HB := Aside0.mk (Below.refl w.heap.size w)
  have H : ((conv_Out.f a0 a1).bind fun bt112 => (if bt112.2.2.2.2 = 0 then ((conv_Next.f a0 a1).bind fun bt118 => (some (a0, bt118.1, a1, bt112.1, bt112.2.1, bt112.2.2.1, bt112.2.2.2.1, bt118.2))) else (some (0, 0, 0, 0, 0, 0, 0, bt112.2.2.2.2)))) = some (r1, r2, r3, r4, r5, r6, r7, r8) := h
  clear h
  replace H := Option.bind_eq_some_iff.mp H
  obtain ⟨⟨t112, t113, t114, t115, t116⟩, A30, H⟩ := H
  replace H : (if t116 = 0 then ((conv_Next.f a0 a1).bind fun bt118 => (some (a0, bt118.1, a1, t112, t113, t114, t115, bt118.2))) else (some (0, 0, 0, 0, 0, 0, 0, t116))) = some (r1, r2, r3, r4, r5, r6, r7, r8) := H
  have A3 := Aside0.mk A30
  clear A30
  by_cases c4 : t116 = 0
  · rw [if_pos c4] at H
    have c4b0 : (t116 == 0) = true := beq_iff_eq.mpr c4
    have c4b1 : (t116 != 0) = false := bne_eq_false_iff_eq.mpr c4
    clear c4
    replace H := Option.bind_eq_some_iff.mp H
    obtain ⟨⟨t118, t119⟩, A50, H⟩ := H
    replace H : (some (a0, t118, a1, t112, t113, t114, t115, t119)) = some (r1, r2, r3, r4, r5, r6, r7, r8) := H
    have A5 := Aside0.mk A50
    clear A50
    simp only [Option.some.injEq, Prod.mk.injEq] at H
    obtain ⟨rfl, rfl, rfl, rfl, rfl, rfl, rfl, rfl⟩ := H
    go_enter Tryd.func52, Tryd.ntmps52
    go_wp2_with (first | ((with_reducible refine gate_dst (N := 4) rfl ?_); refine box_event ?hg (N := 4) ?hd (cs := #[.int .i64 0, .int .i64 0, .int .u8 0, .int .u8 0, .int .u8 0, .int .u8 0, .int .u8 0]) (t := 77) ?hr ?_; (case hd => rfl); (case hg => rfl); (case hr => first | (go_simp; done) | (go_simp; rfl)); intro gb111 hg w6 hbox hb; have n0_ := Aside0.mk (below_step (by repeat (first | (with_reducible first | exact HB.out | apply below_alloc | apply pw_below_drewN | apply below_drew1) | exact HB.out)) hb); have n1_ := Aside0.mk (hbox); have n2_ := Aside0.mk ((by rw [hg]; exact (below_size (by repeat (first | (with_reducible first | exact HB.out | apply below_alloc | apply pw_below_drewN | apply below_drew1) | exact HB.out))) : w.heap.size ≤ gb111)); have n3_ := Aside0.mk ((by rw [hg]; exact (below_size (by repeat (first | (with_reducible first | exact HB.out | apply below_alloc | apply pw_below_drewN | apply below_drew1) | exact HB.out))) : w.heap.size ≤ gb111)); clear HB; have HB := n0_; have BK111 := n1_; have GW111 := n2_; have GE111 := n3_; clear n0_ n1_ n2_ n3_; clear hb hbox hg) | ((with_reducible refine gate_callee (f := 55) rfl ?_); refine goesL_ (some 12) rfl rfl Tryd.func55 (by kernel_rfl) rfl #[.int .i64 a0, .int .u8 a1] rfl (by (try simp only [List.map_toArray, List.map_cons, List.map_nil]); first | done | rfl | (simp only [List.length_drop, List.length_take]; rfl)) ?_; (with_reducible refine (conv_Out.calls a0 a1 t112 t113 t114 t115 t116 _ A3.out).mono ?_); rintro e w7 ⟨rfl, hb⟩; refine ⟨_, rfl, ?_⟩; have n0_ := Aside0.mk (blk_below (g := gb111) (o := .cells #[.int .i64 0, .int .i64 0, .int .u8 0, .int .u8 0, .int .u8 0, .int .u8 0, .int .u8 0] 77 (0, 0)) (by (with_reducible repeat (first | refine blk_drewN ?_ _ | refine blk_drew ?_ | refine blk_alloc ?_ _)); exact BK111.out) hb); have n1_ := Aside0.mk (below_step (by repeat (first | (with_reducible first | exact HB.out | apply below_alloc | apply pw_below_drewN | apply below_drew1 | refine below_set ?_ GE111.out) | exact HB.out)) hb); clear BK111; clear HB; have BK111 := n0_; have HB := n1_; clear n0_ n1_; (try clear hb); (try clear hb2); (try clear hk); (try clear hi)) | ((with_reducible refine gate_dst (N := 6) rfl ?_); refine box_event ?hg (N := 6) ?hd (cs := #[.int .u8 0, .int .u8 0, .int .u8 0, .int .u8 0]) (t := 56) ?hr ?_; (case hd => rfl); (case hg => rfl); (case hr => first | (go_simp; done) | (go_simp; rfl)); intro gb117 hg w8 hbox hb; have n0_ := Aside0.mk (blk_below (g := gb111) (o := .cells #[.int .i64 0, .int .i64 0, .int .u8 0, .int .u8 0, .int .u8 0, .int .u8 0, .int .u8 0] 77 (0, 0)) (by (with_reducible repeat (first | refine blk_drewN ?_ _ | refine blk_drew ?_ | refine blk_alloc ?_ _)); exact BK111.out) hb); have n1_ := Aside0.mk (below_step (by repeat (first | (with_reducible first | exact HB.out | apply below_alloc | apply pw_below_drewN | apply below_drew1 | refine below_set ?_ GE111.out) | exact HB.out)) hb); have n2_ := Aside0.mk (hbox); have n3_ := Aside0.mk ((by rw [hg]; exact (below_size (by repeat (first | (with_reducible first | exact HB.out | apply below_alloc | apply pw_below_drewN | apply below_drew1 | refine below_set ?_ GE111.out) | exact HB.out))) : w.heap.size ≤ gb117)); have n4_ := Aside0.mk ((by rw [hg]; exact (below_size (by repeat (first | (with_reducible first | exact HB.out | apply below_alloc | apply pw_below_drewN | apply below_drew1 | refine below_set ?_ GE111.out) | exact HB.out))) : w.heap.size ≤ gb117)); have n5_ := Aside0.mk ((by rw [hg]; exact Nat.ne_of_lt (blk_lt (g := gb111) (o := .cells #[.int .i64 0, .int .i64 0, .int .u8 0, .int .u8 0, .int .u8 0, .int .u8 0, .int .u8 0] 77 (0, 0)) (by (with_reducible repeat (first | refine blk_drewN ?_ _ | refine blk_drew ?_ | refine blk_alloc ?_ _)); exact BK111.out)) : gb111 ≠ gb117)); have n6_ := Aside0.mk ((by rw [hg]; exact Nat.ne_of_gt (blk_lt (g := gb111) (o := .cells #[.int .i64 0, .int .i64 0, .int .u8 0, .int .u8 0, .int .u8 0, .int .u8 0, .int .u8 0] 77 (0, 0)) (by (with_reducible repeat (first | refine blk_drewN ?_ _ | refine blk_drew ?_ | refine blk_alloc ?_ _)); exact BK111.out)) : gb117 ≠ gb111)); clear BK111; clear HB; have BK111 := n0_; have HB := n1_; have BK117 := n2_; have GW117 := n3_; have GE117 := n4_; have NB111_117 := n5_; have NB117_111 := n6_; clear n0_ n1_ n2_ n3_ n4_ n5_ n6_; clear hb hbox hg; have hnb9 := NB117_111.out; have hnc9 := NB111_117.out; have hcz10_0 : w8.cell? ⟨gb117, 0, none⟩ = some (.int .u8 0) := (blk_cell BK117.out 0).trans rfl; have hcz10_1 : w8.cell? ⟨gb117, 1, none⟩ = some (.int .u8 0) := (blk_cell BK117.out 1).trans rfl; have hcz10_2 : w8.cell? ⟨gb117, 2, none⟩ = some (.int .u8 0) := (blk_cell BK117.out 2).trans rfl; have hcz10_3 : w8.cell? ⟨gb117, 3, none⟩ = some (.int .u8 0) := (blk_cell BK117.out 3).trans rfl; have hfz10_0 := blk_frozen BK117.out 0; have hfz10_1 := blk_frozen BK117.out 1; have hfz10_2 := blk_frozen BK117.out 2; have hfz10_3 := blk_frozen BK117.out 3) | ((with_reducible refine gate_callee (f := 56) rfl ?_); refine goesL_ (some 22) rfl rfl Tryd.func56 (by kernel_rfl) rfl #[.int .i64 a0, .int .u8 a1] rfl (by (try simp only [List.map_toArray, List.map_cons, List.map_nil]); first | done | rfl | (simp only [List.length_drop, List.length_take]; rfl)) ?_; (with_reducible refine (conv_Next.calls a0 a1 t118 t119 _ A5.out).mono ?_); rintro e w' ⟨rfl, ⟨nd, rfl⟩⟩; refine ⟨_, rfl, ?_⟩; have hcz11_0 : w8.cell? ⟨gb111, 0, none⟩ = some (.int .i64 0) := (blk_cell BK111.out 0).trans rfl; have hcz11_1 : w8.cell? ⟨gb111, 1, none⟩ = some (.int .i64 0) := (blk_cell BK111.out 1).trans rfl; have hcz11_2 : w8.cell? ⟨gb111, 2, none⟩ = some (.int .u8 0) := (blk_cell BK111.out 2).trans rfl; have hcz11_3 : w8.cell? ⟨gb111, 3, none⟩ = some (.int .u8 0) := (blk_cell BK111.out 3).trans rfl; have hcz11_4 : w8.cell? ⟨gb111, 4, none⟩ = some (.int .u8 0) := (blk_cell BK111.out 4).trans rfl; have hcz11_5 : w8.cell? ⟨gb111, 5, none⟩ = some (.int .u8 0) := (blk_cell BK111.out 5).trans rfl; have hcz11_6 : w8.cell? ⟨gb111, 6, none⟩ = some (.int .u8 0) := (blk_cell BK111.out 6).trans rfl; have hfz11_0 := blk_frozen BK111.out 0; have hfz11_1 := blk_frozen BK111.out 1; have hfz11_2 := blk_frozen BK111.out 2; have hfz11_3 := blk_frozen BK111.out 3; have hfz11_4 := blk_frozen BK111.out 4; have hfz11_5 := blk_frozen BK111.out 5; have hfz11_6 := blk_frozen BK111.out 6))
    refine bodyPost_ret (results_ct rfl _ _ gb111 77 #[.int .i64 a0, .int .i64 t118, .int .u8 a1, .int .u8 t112, .int .u8 t113, .int .u8 t114, .int .u8 t115] (0, 0) _ rfl (by (with_reducible repeat (first | refine blk_drewN ?_ _ | refine blk_drew ?_ | refine blk_alloc ?_ _)); refine blk_put (cs := #[.int .i64 a0, .int .i64 t118, .int .u8 a1, .int .u8 t112, .int .u8 t113, .int .u8 t114, .int .u8 0]) ?_ 6 _ rfl; (with_reducible repeat (first | refine blk_drewN ?_ _ | refine blk_drew ?_ | refine blk_alloc ?_ _)); refine blk_put (cs := #[.int .i64 a0, .int .i64 t118, .int .u8 a1, .int .u8 t112, .int .u8 t113, .int .u8 0, .int .u8 0]) ?_ 5 _ rfl; (with_reducible repeat (first | refine blk_drewN ?_ _ | refine blk_drew ?_ | refine blk_alloc ?_ _)); refine blk_put (cs := #[.int .i64 a0, .int .i64 t118, .int .u8 a1, .int .u8 t112, .int .u8 0, .int .u8 0, .int .u8 0]) ?_ 4 _ rfl; (with_reducible repeat (first | refine blk_drewN ?_ _ | refine blk_drew ?_ | refine blk_alloc ?_ _)); refine blk_put (cs := #[.int .i64 a0, .int .i64 t118, .int .u8 a1, .int .u8 0, .int .u8 0, .int .u8 0, .int .u8 0]) ?_ 3 _ rfl; (with_reducible repeat (first | refine blk_drewN ?_ _ | refine blk_drew ?_ | refine blk_alloc ?_ _)); refine blk_put (cs := #[.int .i64 a0, .int .i64 t118, .int .u8 0, .int .u8 0, .int .u8 0, .int .u8 0, .int .u8 0]) ?_ 2 _ rfl; (with_reducible repeat (first | refine blk_drewN ?_ _ | refine blk_drew ?_ | refine blk_alloc ?_ _)); refine blk_put (cs := #[.int .i64 a0, .int .i64 0, .int .u8 0, .int .u8 0, .int .u8 0, .int .u8 0, .int .u8 0]) ?_ 1 _ rfl; (with_reducible repeat (first | refine blk_drewN ?_ _ | refine blk_drew ?_ | refine blk_alloc ?_ _)); refine blk_put (cs := #[.int .i64 0, .int .i64 0, .int .u8 0, .int .u8 0, .int .u8 0, .int .u8 0, .int .u8 0]) ?_ 0 _ rfl; (with_reducible repeat (first | refine blk_drewN ?_ _ | refine blk_drew ?_ | refine blk_alloc ?_ _)); refine blk_far ?_ NB111_117.out _; (with_reducible repeat (first | refine blk_drewN ?_ _ | refine blk_drew ?_ | refine blk_alloc ?_ _)); refine blk_far ?_ NB111_117.out _; (with_reducible repeat (first | refine blk_drewN ?_ _ | refine blk_drew ?_ | refine blk_alloc ?_ _)); refine blk_far ?_ NB111_117.out _; (with_reducible repeat (first | refine blk_drewN ?_ _ | refine blk_drew ?_ | refine blk_alloc ?_ _)); refine blk_far ?_ NB111_117.out _; (with_reducible repeat (first | refine blk_drewN ?_ _ | refine blk_drew ?_ | refine blk_alloc ?_ _)); exact BK111.out) Tryd.underlying77 rfl (by kernel_rfl)) rfl ?_
    exact ⟨by first | rfl | (simp [errW_none, errW_some] <;> rfl) | (simp [*, errW_none, errW_some] <;> rfl), by repeat (first | (with_reducible first | exact HB.out | apply below_alloc | apply pw_below_drewN | apply below_drew1 | refine below_set ?_ GE111.out | refine below_set ?_ GE117.out) | exact HB.out)⟩
  · rw [if_neg c4] at H
    have c4b0 : (t116 == 0) = false := beq_eq_false_iff_ne.mpr c4
    have c4b1 : (t116 != 0) = true := bne_iff_ne.mpr c4
    simp only [Option.some.injEq, Prod.mk.injEq] at H
    obtain ⟨rfl, rfl, rfl, rfl, rfl, rfl, rfl, rfl⟩ := H
    go_enter Tryd.func52, Tryd.ntmps52
    go_wp2_with (first | ((with_reducible refine gate_dst (N := 4) rfl ?_); refine box_event ?hg (N := 4) ?hd (cs := #[.int .i64 0, .int .i64 0, .int .u8 0, .int .u8 0, .int .u8 0, .int .u8 0, .int .u8 0]) (t := 77) ?hr ?_; (case hd => rfl); (case hg => rfl); (case hr => first | (go_simp; done) | (go_simp; rfl)); intro gb111 hg w12 hbox hb; have n0_ := Aside0.mk (below_step (by repeat (first | (with_reducible first | exact HB.out | apply below_alloc | apply pw_below_drewN | apply below_drew1) | exact HB.out)) hb); have n1_ := Aside0.mk (hbox); have n2_ := Aside0.mk ((by rw [hg]; exact (below_size (by repeat (first | (with_reducible first | exact HB.out | apply below_alloc | apply pw_below_drewN | apply below_drew1) | exact HB.out))) : w.heap.size ≤ gb111)); have n3_ := Aside0.mk ((by rw [hg]; exact (below_size (by repeat (first | (with_reducible first | exact HB.out | apply below_alloc | apply pw_below_drewN | apply below_drew1) | exact HB.out))) : w.heap.size ≤ gb111)); clear HB; have HB := n0_; have BK111 := n1_; have GW111 := n2_; have GE111 := n3_; clear n0_ n1_ n2_ n3_; clear hb hbox hg) | ((with_reducible refine gate_callee (f := 55) rfl ?_); refine goesL_ (some 12) rfl rfl Tryd.func55 (by kernel_rfl) rfl #[.int .i64 a0, .int .u8 a1] rfl (by (try simp only [List.map_toArray, List.map_cons, List.map_nil]); first | done | rfl | (simp only [List.length_drop, List.length_take]; rfl)) ?_; (with_reducible refine (conv_Out.calls a0 a1 t112 t113 t114 t115 t116 _ A3.out).mono ?_); rintro e w13 ⟨rfl, hb⟩; refine ⟨_, rfl, ?_⟩; have n0_ := Aside0.mk (blk_below (g := gb111) (o := .cells #[.int .i64 0, .int .i64 0, .int .u8 0, .int .u8 0, .int .u8 0, .int .u8 0, .int .u8 0] 77 (0, 0)) (by (with_reducible repeat (first | refine blk_drewN ?_ _ | refine blk_drew ?_ | refine blk_alloc ?_ _)); exact BK111.out) hb); have n1_ := Aside0.mk (below_step (by repeat (first | (with_reducible first | exact HB.out | apply below_alloc | apply pw_below_drewN | apply below_drew1 | refine below_set ?_ GE111.out) | exact HB.out)) hb); clear BK111; clear HB; have BK111 := n0_; have HB := n1_; clear n0_ n1_; (try clear hb); (try clear hb2); (try clear hk); (try clear hi)) | ((with_reducible refine gate_dst (N := 6) rfl ?_); refine box_event ?hg (N := 6) ?hd (cs := #[.int .u8 0, .int .u8 0, .int .u8 0, .int .u8 0]) (t := 56) ?hr ?_; (case hd => rfl); (case hg => rfl); (case hr => first | (go_simp; done) | (go_simp; rfl)); intro gb117 hg w14 hbox hb; have n0_ := Aside0.mk (blk_below (g := gb111) (o := .cells #[.int .i64 0, .int .i64 0, .int .u8 0, .int .u8 0, .int .u8 0, .int .u8 0, .int .u8 0] 77 (0, 0)) (by (with_reducible repeat (first | refine blk_drewN ?_ _ | refine blk_drew ?_ | refine blk_alloc ?_ _)); exact BK111.out) hb); have n1_ := Aside0.mk (below_step (by repeat (first | (with_reducible first | exact HB.out | apply below_alloc | apply pw_below_drewN | apply below_drew1 | refine below_set ?_ GE111.out) | exact HB.out)) hb); have n2_ := Aside0.mk (hbox); have n3_ := Aside0.mk ((by rw [hg]; exact (below_size (by repeat (first | (with_reducible first | exact HB.out | apply below_alloc | apply pw_below_drewN | apply below_drew1 | refine below_set ?_ GE111.out) | exact HB.out))) : w.heap.size ≤ gb117)); have n4_ := Aside0.mk ((by rw [hg]; exact (below_size (by repeat (first | (with_reducible first | exact HB.out | apply below_alloc | apply pw_below_drewN | apply below_drew1 | refine below_set ?_ GE111.out) | exact HB.out))) : w.heap.size ≤ gb117)); have n5_ := Aside0.mk ((by rw [hg]; exact Nat.ne_of_lt (blk_lt (g := gb111) (o := .cells #[.int .i64 0, .int .i64 0, .int .u8 0, .int .u8 0, .int .u8 0, .int .u8 0, .int .u8 0] 77 (0, 0)) (by (with_reducible repeat (first | refine blk_drewN ?_ _ | refine blk_drew ?_ | refine blk_alloc ?_ _)); exact BK111.out)) : gb111 ≠ gb117)); have n6_ := Aside0.mk ((by rw [hg]; exact Nat.ne_of_gt (blk_lt (g := gb111) (o := .cells #[.int .i64 0, .int .i64 0, .int .u8 0, .int .u8 0, .int .u8 0, .int .u8 0, .int .u8 0] 77 (0, 0)) (by (with_reducible repeat (first | refine blk_drewN ?_ _ | refine blk_drew ?_ | refine blk_alloc ?_ _)); exact BK111.out)) : gb117 ≠ gb111)); clear BK111; clear HB; have BK111 := n0_; have HB := n1_; have BK117 := n2_; have GW117 := n3_; have GE117 := n4_; have NB111_117 := n5_; have NB117_111 := n6_; clear n0_ n1_ n2_ n3_ n4_ n5_ n6_; clear hb hbox hg; have hnb15 := NB117_111.out; have hnc15 := NB111_117.out; have hcz16_0 : w14.cell? ⟨gb117, 0, none⟩ = some (.int .u8 0) := (blk_cell BK117.out 0).trans rfl; have hcz16_1 : w14.cell? ⟨gb117, 1, none⟩ = some (.int .u8 0) := (blk_cell BK117.out 1).trans rfl; have hcz16_2 : w14.cell? ⟨gb117, 2, none⟩ = some (.int .u8 0) := (blk_cell BK117.out 2).trans rfl; have hcz16_3 : w14.cell? ⟨gb117, 3, none⟩ = some (.int .u8 0) := (blk_cell BK117.out 3).trans rfl; have hfz16_0 := blk_frozen BK117.out 0; have hfz16_1 := blk_frozen BK117.out 1; have hfz16_2 := blk_frozen BK117.out 2; have hfz16_3 := blk_frozen BK117.out 3; have hcz17_0 : w14.cell? ⟨gb111, 0, none⟩ = some (.int .i64 0) := (blk_cell BK111.out 0).trans rfl; have hcz17_1 : w14.cell? ⟨gb111, 1, none⟩ = some (.int .i64 0) := (blk_cell BK111.out 1).trans rfl; have hcz17_2 : w14.cell? ⟨gb111, 2, none⟩ = some (.int .u8 0) := (blk_cell BK111.out 2).trans rfl; have hcz17_3 : w14.cell? ⟨gb111, 3, none⟩ = some (.int .u8 0) := (blk_cell BK111.out 3).trans rfl; have hcz17_4 : w14.cell? ⟨gb111, 4, none⟩ = some (.int .u8 0) := (blk_cell BK111.out 4).trans rfl; have hcz17_5 : w14.cell? ⟨gb111, 5, none⟩ = some (.int .u8 0) := (blk_cell BK111.out 5).trans rfl; have hcz17_6 : w14.cell? ⟨gb111, 6, none⟩ = some (.int .u8 0) := (blk_cell BK111.out 6).trans rfl; have hfz17_0 := blk_frozen BK111.out 0; have hfz17_1 := blk_frozen BK111.out 1; have hfz17_2 := blk_frozen BK111.out 2; have hfz17_3 := blk_frozen BK111.out 3; have hfz17_4 := blk_frozen BK111.out 4; have hfz17_5 := blk_frozen BK111.out 5; have hfz17_6 := blk_frozen BK111.out 6))
    refine bodyPost_ret (results_ct rfl _ _ gb111 77 #[.int .i64 0, .int .i64 0, .int .u8 0, .int .u8 0, .int .u8 0, .int .u8 0, .int .u8 0] (0, 0) _ rfl (by (with_reducible repeat (first | refine blk_drewN ?_ _ | refine blk_drew ?_ | refine blk_alloc ?_ _)); refine blk_put (cs := #[.int .i64 0, .int .i64 0, .int .u8 0, .int .u8 0, .int .u8 0, .int .u8 0, .int .u8 0]) ?_ 6 _ rfl; (with_reducible repeat (first | refine blk_drewN ?_ _ | refine blk_drew ?_ | refine blk_alloc ?_ _)); refine blk_put (cs := #[.int .i64 0, .int .i64 0, .int .u8 0, .int .u8 0, .int .u8 0, .int .u8 0, .int .u8 0]) ?_ 5 _ rfl; (with_reducible repeat (first | refine blk_drewN ?_ _ | refine blk_drew ?_ | refine blk_alloc ?_ _)); refine blk_put (cs := #[.int .i64 0, .int .i64 0, .int .u8 0, .int .u8 0, .int .u8 0, .int .u8 0, .int .u8 0]) ?_ 4 _ rfl; (with_reducible repeat (first | refine blk_drewN ?_ _ | refine blk_drew ?_ | refine blk_alloc ?_ _)); refine blk_put (cs := #[.int .i64 0, .int .i64 0, .int .u8 0, .int .u8 0, .int .u8 0, .int .u8 0, .int .u8 0]) ?_ 3 _ rfl; (with_reducible repeat (first | refine blk_drewN ?_ _ | refine blk_drew ?_ | refine blk_alloc ?_ _)); refine blk_put (cs := #[.int .i64 0, .int .i64 0, .int .u8 0, .int .u8 0, .int .u8 0, .int .u8 0, .int .u8 0]) ?_ 2 _ rfl; (with_reducible repeat (first | refine blk_drewN ?_ _ | refine blk_drew ?_ | refine blk_alloc ?_ _)); refine blk_put (cs := #[.int .i64 0, .int .i64 0, .int .u8 0, .int .u8 0, .int .u8 0, .int .u8 0, .int .u8 0]) ?_ 1 _ rfl; (with_reducible repeat (first | refine blk_drewN ?_ _ | refine blk_drew ?_ | refine blk_alloc ?_ _)); refine blk_put (cs := #[.int .i64 0, .int .i64 0, .int .u8 0, .int .u8 0, .int .u8 0, .int .u8 0, .int .u8 0]) ?_ 0 _ rfl; (with_reducible repeat (first | refine blk_drewN ?_ _ | refine blk_drew ?_ | refine blk_alloc ?_ _)); refine blk_far ?_ NB111_117.out _; (with_reducible repeat (first | refine blk_drewN ?_ _ | refine blk_drew ?_ | refine blk_alloc ?_ _)); refine blk_far ?_ NB111_117.out _; (with_reducible repeat (first | refine blk_drewN ?_ _ | refine blk_drew ?_ | refine blk_alloc ?_ _)); refine blk_far ?_ NB111_117.out _; (with_reducible repeat (first | refine blk_drewN ?_ _ | refine blk_drew ?_ | refine blk_alloc ?_ _)); refine blk_far ?_ NB111_117.out _; (with_reducible repeat (first | refine blk_drewN ?_ _ | refine blk_drew ?_ | refine blk_alloc ?_ _)); exact BK111.out) Tryd.underlying77 rfl (by kernel_rfl)) rfl ?_
    exact ⟨by first | rfl | (simp [errW_none, errW_some] <;> rfl) | (simp [*, errW_none, errW_some] <;> rfl), by repeat (first | (with_reducible first | exact HB.out | apply below_alloc | apply pw_below_drewN | apply below_drew1 | refine below_set ?_ GE111.out | refine below_set ?_ GE117.out) | exact HB.out)⟩

end Go.Proofs.YtijpnlmejphfhaaDoor.P

-- YtijpnlmejphfhaaDoorP14
namespace Go.Proofs.YtijpnlmejphfhaaDoor.P
open Go.RowKit Go.Proofs.YtijpnlmejphfhaaDoorW.PrintWords Go.Proofs.YtijpnlmejphfhaaDoorW.PrintLast Go.Proofs.YtijpnlmejphfhaaDoorW.PrintMore
attribute [local go_sem] max2_int min2_int max_two min_two max_three min_three max_four min_four   -- for this text's walks alone
set_option linter.unusedVariables false
set_option linter.unusedSimpArgs false

/-! ### trellis_two: function 47 -/
def trellis_two.f (a0 : Int) (a1 : Int) (a2 : Int) (a3 : Int) : Option (Int × Int × Int × Int × Int × Int × Int × Int × Int × Int × Int × Int × Int × Int × Int) := (trellis_edge.f a0 a2).bind fun bt121 => (if bt121.2.2.2.2.2.2.2 = 0 then ((trellis_edge.f a1 a3).bind fun bt130 => (if bt130.2.2.2.2.2.2.2 = 0 then (some (bt121.1, bt121.2.1, bt121.2.2.1, bt121.2.2.2.1, bt121.2.2.2.2.1, bt121.2.2.2.2.2.1, bt121.2.2.2.2.2.2.1, bt130.1, bt130.2.1, bt130.2.2.1, bt130.2.2.2.1, bt130.2.2.2.2.1, bt130.2.2.2.2.2.1, bt130.2.2.2.2.2.2.1, 0)) else (some (0, 0, 0, 0, 0, 0, 0, 0, 0, 0, 0, 0, 0, 0, bt130.2.2.2.2.2.2.2)))) else (some (0, 0, 0, 0, 0, 0, 0, 0, 0, 0, 0, 0, 0, 0, bt121.2.2.2.2.2.2.2)))
set_option maxHeartbeats 8000000 in
set_option maxRecDepth 100000 in
theorem trellis_two.calls (a0 : Int) (a1 : Int) (a2 : Int) (a3 : Int) (r1 : Int) (r2 : Int) (r3 : Int) (r4 : Int) (r5 : Int) (r6 : Int) (r7 : Int) (r8 : Int) (r9 : Int) (r10 : Int) (r11 : Int) (r12 : Int) (r13 : Int) (r14 : Int) (r15 : Int) (w : World) (h : trellis_two.f a0 a1 a2 a3 = some (r1, r2, r3, r4, r5, r6, r7, r8, r9, r10, r11, r12, r13, r14, r15)) (hT_ : TP w := by first | assumption | exact TP_of (by assumption : TP _) (by repeat (first | (with_reducible first | apply below_alloc | apply pw_below_drewN | apply below_drew1 | refine below_set ?_ (Aside0.out (by assumption))) | exact Aside0.out (by assumption) | exact Below.refl _ _))) :
    Calls Tryd.prog 47 #[.int .i64 a0, .int .i64 a1, .int .u8 a2, .int .u8 a3] w fun e w' => e = .returned (.tuple #[.agg #[.int .i64 r1, .int .i64 r2, .int .u8 r3, .int .u8 r4, .int .u8 r5, .int .u8 r6, .int .u8 r7, .int .i64 r8, .int .i64 r9, .int .u8 r10, .int .u8 r11, .int .u8 r12, .int .u8 r13, .int .u8 r14], .int .i64 r15]) ∧ Below w.heap.size w w' := by
  have hu78 := Tryd.underlying78
  have hu77 := Tryd.underlying77
  have HB := Aside0.mk (Below.refl w.heap.size w)
  have H : ((trellis_edge.f a0 a2).bind fun bt121 => (if bt121.2.2.2.2.2.2.2 = 0 then ((trellis_edge.f a1 a3).bind fun bt130 => (if bt130.2.2.2.2.2.2.2 = 0 then (some (bt121.1, bt121.2.1, bt121.2.2.1, bt121.2.2.2.1, bt121.2.2.2.2.1, bt121.2.2.2.2.2.1, bt121.2.2.2.2.2.2.1, bt130.1, bt130.2.1, bt130.2.2.1, bt130.2.2.2.1, bt130.2.2.2.2.1, bt130.2.2.2.2.2.1, bt130.2.2.2.2.2.2.1, 0)) else (some (0, 0, 0, 0, 0, 0, 0, 0, 0, 0, 0, 0, 0, 0, bt130.2.2.2.2.2.2.2)))) else (some (0, 0, 0, 0, 0, 0, 0, 0, 0, 0, 0, 0, 0, 0, bt121.2.2.2.2.2.2.2)))) = some (r1, r2, r3, r4, r5, r6, r7, r8, r9, r10, r11, r12, r13, r14, r15) := h
  clear h
  replace H := Option.bind_eq_some_iff.mp H
  obtain ⟨⟨t121, t122, t123, t124, t125, t126, t127, t128⟩, A50, H⟩ := H
  replace H : (if t128 = 0 then ((trellis_edge.f a1 a3).bind fun bt130 => (if bt130.2.2.2.2.2.2.2 = 0 then (some (t121, t122, t123, t124, t125, t126, t127, bt130.1, bt130.2.1, bt130.2.2.1, bt130.2.2.2.1, bt130.2.2.2.2.1, bt130.2.2.2.2.2.1, bt130.2.2.2.2.2.2.1, 0)) else (some (0, 0, 0, 0, 0, 0, 0, 0, 0, 0, 0, 0, 0, 0, bt130.2.2.2.2.2.2.2)))) else (some (0, 0, 0, 0, 0, 0, 0, 0, 0, 0, 0, 0, 0, 0, t128))) = some (r1, r2, r3, r4, r5, r6, r7, r8, r9, r10, r11, r12, r13, r14, r15) := H
  have A5 := Aside0.mk A50
  clear A50
  by_cases c6 : t128 = 0
  · rw [if_pos c6] at H
    have c6b0 : (t128 == 0) = true := beq_iff_eq.mpr c6
    have c6b1 : (t128 != 0) = false := bne_eq_false_iff_eq.mpr c6
    clear c6
    replace H := Option.bind_eq_some_iff.mp H
    obtain ⟨⟨t130, t131, t132, t133, t134, t135, t136, t137⟩, A70, H⟩ := H
    replace H : (if t137 = 0 then (some (t121, t122, t123, t124, t125, t126, t127, t130, t131, t132, t133, t134, t135, t136, 0)) else (some (0, 0, 0, 0, 0, 0, 0, 0, 0, 0, 0, 0, 0, 0, t137))) = some (r1, r2, r3, r4, r5, r6, r7, r8, r9, r10, r11, r12, r13, r14, r15) := H
    have A7 := Aside0.mk A70
    clear A70
    by_cases c8 : t137 = 0
    · rw [if_pos c8] at H
      have c8b0 : (t137 == 0) = true := beq_iff_eq.mpr c8
      have c8b1 : (t137 != 0) = false := bne_eq_false_iff_eq.mpr c8
      clear c8
      simp only [Option.some.injEq, Prod.mk.injEq] at H
      obtain ⟨rfl, rfl, rfl, rfl, rfl, rfl, rfl, rfl, rfl, rfl, rfl, rfl, rfl, rfl, rfl⟩ := H
      go_enter Tryd.func47, Tryd.ntmps47
      go_wp2_with (first | ((with_reducible refine gate_dst (N := 8) rfl ?_); refine box_event ?hg (N := 8) ?hd (cs := #[.int .i64 0, .int .i64 0, .int .u8 0, .int .u8 0, .int .u8 0, .int .u8 0, .int .u8 0, .int .i64 0, .int .i64 0, .int .u8 0, .int .u8 0, .int .u8 0, .int .u8 0, .int .u8 0]) (t := 78) ?hr ?_; (case hd => rfl); (case hg => rfl); (case hr => first | (go_simp; done) | (go_simp; rfl)); intro gb120 hg w9 hbox hb; have n0_ := Aside0.mk (below_step (by repeat (first | (with_reducible first | exact HB.out | apply below_alloc | apply pw_below_drewN | apply below_drew1) | exact HB.out)) hb); have n1_ := Aside0.mk (hbox); have n2_ := Aside0.mk ((by rw [hg]; exact (below_size (by repeat (first | (with_reducible first | exact HB.out | apply below_alloc | apply pw_below_drewN | apply below_drew1) | exact HB.out))) : w.heap.size ≤ gb120)); have n3_ := Aside0.mk ((by rw [hg]; exact (below_size (by repeat (first | (with_reducible first | exact HB.out | apply below_alloc | apply pw_below_drewN | apply below_drew1) | exact HB.out))) : w.heap.size ≤ gb120)); clear HB; have HB := n0_; have BK120 := n1_; have GW120 := n2_; have GE120 := n3_; clear n0_ n1_ n2_ n3_; clear hb hbox hg) | ((with_reducible refine gate_callee (f := 52) rfl ?_); refine goesL_ (some 16) rfl rfl Tryd.func52 (by kernel_rfl) rfl #[.int .i64 a0, .int .u8 a2] rfl (by (try simp only [List.map_toArray, List.map_cons, List.map_nil]); first | done | rfl | (simp only [List.length_drop, List.length_take]; rfl)) ?_; (with_reducible refine (trellis_edge.calls a0 a2 t121 t122 t123 t124 t125 t126 t127 t128 _ A5.out).mono ?_); rintro e w10 ⟨rfl, hb⟩; refine ⟨_, rfl, ?_⟩; have n0_ := Aside0.mk (blk_below (g := gb120) (o := .cells #[.int .i64 0, .int .i64 0, .int .u8 0, .int .u8 0, .int .u8 0, .int .u8 0, .int .u8 0, .int .i64 0, .int .i64 0, .int .u8 0, .int .u8 0, .int .u8 0, .int .u8 0, .int .u8 0] 78 (0, 0)) (by (with_reducible repeat (first | refine blk_drewN ?_ _ | refine blk_drew ?_ | refine blk_alloc ?_ _)); exact BK120.out) hb); have n1_ := Aside0.mk (below_step (by repeat (first | (with_reducible first | exact HB.out | apply below_alloc | apply pw_below_drewN | apply below_drew1 | refine below_set ?_ GE120.out) | exact HB.out)) hb); clear BK120; clear HB; have BK120 := n0_; have HB := n1_; clear n0_ n1_; (try clear hb); (try clear hb2); (try clear hk); (try clear hi)) | ((with_reducible refine gate_dst (N := 10) rfl ?_); refine box_event ?hg (N := 10) ?hd (cs := #[.int .i64 0, .int .i64 0, .int .u8 0, .int .u8 0, .int .u8 0, .int .u8 0, .int .u8 0]) (t := 77) ?hr ?_; (case hd => rfl); (case hg => rfl); (case hr => first | (go_simp; done) | (go_simp; rfl)); intro gb129 hg w11 hbox hb; have n0_ := Aside0.mk (blk_below (g := gb120) (o := .cells #[.int .i64 0, .int .i64 0, .int .u8 0, .int .u8 0, .int .u8 0, .int .u8 0, .int .u8 0, .int .i64 0, .int .i64 0, .int .u8 0, .int .u8 0, .int .u8 0, .int .u8 0, .int .u8 0] 78 (0, 0)) (by (with_reducible repeat (first | refine blk_drewN ?_ _ | refine blk_drew ?_ | refine blk_alloc ?_ _)); exact BK120.out) hb); have n1_ := Aside0.mk (below_step (by repeat (first | (with_reducible first | exact HB.out | apply below_alloc | apply pw_below_drewN | apply below_drew1 | refine below_set ?_ GE120.out) | exact HB.out)) hb); have n2_ := Aside0.mk (hbox); have n3_ := Aside0.mk ((by rw [hg]; exact (below_size (by repeat (first | (with_reducible first | exact HB.out | apply below_alloc | apply pw_below_drewN | apply below_drew1 | refine below_set ?_ GE120.out) | exact HB.out))) : w.heap.size ≤ gb129)); have n4_ := Aside0.mk ((by rw [hg]; exact (below_size (by repeat (first | (with_reducible first | exact HB.out | apply below_alloc | apply pw_below_drewN | apply below_drew1 | refine below_set ?_ GE120.out) | exact HB.out))) : w.heap.size ≤ gb129)); have n5_ := Aside0.mk ((by rw [hg]; exact Nat.ne_of_lt (blk_lt (g := gb120) (o := .cells #[.int .i64 0, .int .i64 0, .int .u8 0, .int .u8 0, .int .u8 0, .int .u8 0, .int .u8 0, .int .i64 0, .int .i64 0, .int .u8 0, .int .u8 0, .int .u8 0, .int .u8 0, .int .u8 0] 78 (0, 0)) (by (with_reducible repeat (first | refine blk_drewN ?_ _ | refine blk_drew ?_ | refine blk_alloc ?_ _)); exact BK120.out)) : gb120 ≠ gb129)); have n6_ := Aside0.mk ((by rw [hg]; exact Nat.ne_of_gt (blk_lt (g := gb120) (o := .cells #[.int .i64 0, .int .i64 0, .int .u8 0, .int .u8 0, .int .u8 0, .int .u8 0, .int .u8 0, .int .i64 0, .int .i64 0, .int .u8 0, .int .u8 0, .int .u8 0, .int .u8 0, .int .u8 0] 78 (0, 0)) (by (with_reducible repeat (first | refine blk_drewN ?_ _ | refine blk_drew ?_ | refine blk_alloc ?_ _)); exact BK120.out)) : gb129 ≠ gb120)); clear BK120; clear HB; have BK120 := n0_; have HB := n1_; have BK129 := n2_; have GW129 := n3_; have GE129 := n4_; have NB120_129 := n5_; have NB129_120 := n6_; clear n0_ n1_ n2_ n3_ n4_ n5_ n6_; clear hb hbox hg; have hnb12 := NB129_120.out; have hnc12 := NB120_129.out; have hcz13_0 : w11.cell? ⟨gb129, 0, none⟩ = some (.int .i64 0) := (blk_cell BK129.out 0).trans rfl; have hcz13_1 : w11.cell? ⟨gb129, 1, none⟩ = some (.int .i64 0) := (blk_cell BK129.out 1).trans rfl; have hcz13_2 : w11.cell? ⟨gb129, 2, none⟩ = some (.int .u8 0) := (blk_cell BK129.out 2).trans rfl; have hcz13_3 : w11.cell? ⟨gb129, 3, none⟩ = some (.int .u8 0) := (blk_cell BK129.out 3).trans rfl; have hcz13_4 : w11.cell? ⟨gb129, 4, none⟩ = some (.int .u8 0) := (blk_cell BK129.out 4).trans rfl; have hcz13_5 : w11.cell? ⟨gb129, 5, none⟩ = some (.int .u8 0) := (blk_cell BK129.out 5).trans rfl; have hcz13_6 : w11.cell? ⟨gb129, 6, none⟩ = some (.int .u8 0) := (blk_cell BK129.out 6).trans rfl; have hfz13_0 := blk_frozen BK129.out 0; have hfz13_1 := blk_frozen BK129.out 1; have hfz13_2 := blk_frozen BK129.out 2; have hfz13_3 := blk_frozen BK129.out 3; have hfz13_4 := blk_frozen BK129.out 4; have hfz13_5 := blk_frozen BK129.out 5; have hfz13_6 := blk_frozen BK129.out 6) | ((with_reducible refine gate_callee (f := 52) rfl ?_); refine goesL_ (some 26) rfl rfl Tryd.func52 (by kernel_rfl) rfl #[.int .i64 a1, .int .u8 a3] rfl (by (try simp only [List.map_toArray, List.map_cons, List.map_nil]); first | done | rfl | (simp only [List.length_drop, List.length_take]; rfl)) ?_; (with_reducible refine (trellis_edge.calls a1 a3 t130 t131 t132 t133 t134 t135 t136 t137 _ A7.out).mono ?_); rintro e w14 ⟨rfl, hb⟩; refine ⟨_, rfl, ?_⟩; have n0_ := Aside0.mk (blk_below (g := gb120) (o := .cells #[.int .i64 0, .int .i64 0, .int .u8 0, .int .u8 0, .int .u8 0, .int .u8 0, .int .u8 0, .int .i64 0, .int .i64 0, .int .u8 0, .int .u8 0, .int .u8 0, .int .u8 0, .int .u8 0] 78 (0, 0)) (by (with_reducible repeat (first | refine blk_drewN ?_ _ | refine blk_drew ?_ | refine blk_alloc ?_ _)); refine blk_far ?_ NB120_129.out _; (with_reducible repeat (first | refine blk_drewN ?_ _ | refine blk_drew ?_ | refine blk_alloc ?_ _)); refine blk_far ?_ NB120_129.out _; (with_reducible repeat (first | refine blk_drewN ?_ _ | refine blk_drew ?_ | refine blk_alloc ?_ _)); refine blk_far ?_ NB120_129.out _; (with_reducible repeat (first | refine blk_drewN ?_ _ | refine blk_drew ?_ | refine blk_alloc ?_ _)); refine blk_far ?_ NB120_129.out _; (with_reducible repeat (first | refine blk_drewN ?_ _ | refine blk_drew ?_ | refine blk_alloc ?_ _)); refine blk_far ?_ NB120_129.out _; (with_reducible repeat (first | refine blk_drewN ?_ _ | refine blk_drew ?_ | refine blk_alloc ?_ _)); refine blk_far ?_ NB120_129.out _; (with_reducible repeat (first | refine blk_drewN ?_ _ | refine blk_drew ?_ | refine blk_alloc ?_ _)); refine blk_far ?_ NB120_129.out _; (with_reducible repeat (first | refine blk_drewN ?_ _ | refine blk_drew ?_ | refine blk_alloc ?_ _)); exact BK120.out) hb); have n1_ := Aside0.mk (blk_below (g := gb129) (o := .cells #[.int .i64 t121, .int .i64 t122, .int .u8 t123, .int .u8 t124, .int .u8 t125, .int .u8 t126, .int .u8 t127] 77 (0, 0)) (by (with_reducible repeat (first | refine blk_drewN ?_ _ | refine blk_drew ?_ | refine blk_alloc ?_ _)); refine blk_put (cs := #[.int .i64 t121, .int .i64 t122, .int .u8 t123, .int .u8 t124, .int .u8 t125, .int .u8 t126, .int .u8 0]) ?_ 6 _ rfl; (with_reducible repeat (first | refine blk_drewN ?_ _ | refine blk_drew ?_ | refine blk_alloc ?_ _)); refine blk_put (cs := #[.int .i64 t121, .int .i64 t122, .int .u8 t123, .int .u8 t124, .int .u8 t125, .int .u8 0, .int .u8 0]) ?_ 5 _ rfl; (with_reducible repeat (first | refine blk_drewN ?_ _ | refine blk_drew ?_ | refine blk_alloc ?_ _)); refine blk_put (cs := #[.int .i64 t121, .int .i64 t122, .int .u8 t123, .int .u8 t124, .int .u8 0, .int .u8 0, .int .u8 0]) ?_ 4 _ rfl; (with_reducible repeat (first | refine blk_drewN ?_ _ | refine blk_drew ?_ | refine blk_alloc ?_ _)); refine blk_put (cs := #[.int .i64 t121, .int .i64 t122, .int .u8 t123, .int .u8 0, .int .u8 0, .int .u8 0, .int .u8 0]) ?_ 3 _ rfl; (with_reducible repeat (first | refine blk_drewN ?_ _ | refine blk_drew ?_ | refine blk_alloc ?_ _)); refine blk_put (cs := #[.int .i64 t121, .int .i64 t122, .int .u8 0, .int .u8 0, .int .u8 0, .int .u8 0, .int .u8 0]) ?_ 2 _ rfl; (with_reducible repeat (first | refine blk_drewN ?_ _ | refine blk_drew ?_ | refine blk_alloc ?_ _)); refine blk_put (cs := #[.int .i64 t121, .int .i64 0, .int .u8 0, .int .u8 0, .int .u8 0, .int .u8 0, .int .u8 0]) ?_ 1 _ rfl; (with_reducible repeat (first | refine blk_drewN ?_ _ | refine blk_drew ?_ | refine blk_alloc ?_ _)); refine blk_put (cs := #[.int .i64 0, .int .i64 0, .int .u8 0, .int .u8 0, .int .u8 0, .int .u8 0, .int .u8 0]) ?_ 0 _ rfl; (with_reducible repeat (first | refine blk_drewN ?_ _ | refine blk_drew ?_ | refine blk_alloc ?_ _)); exact BK129.out) hb); have n2_ := Aside0.mk (below_step (by repeat (first | (with_reducible first | exact HB.out | apply below_alloc | apply pw_below_drewN | apply below_drew1 | refine below_set ?_ GE120.out | refine below_set ?_ GE129.out) | exact HB.out)) hb); clear BK120; clear BK129; clear HB; have BK120 := n0_; have BK129 := n1_; have HB := n2_; clear n0_ n1_ n2_; (try clear hb); (try clear hb2); (try clear hk); (try clear hi)) | ((with_reducible refine gate_dst (N := 12) rfl ?_); refine box_event ?hg (N := 12) ?hd (cs := #[.int .i64 0, .int .i64 0, .int .u8 0, .int .u8 0, .int .u8 0, .int .u8 0, .int .u8 0]) (t := 77) ?hr ?_; (case hd => rfl); (case hg => rfl); (case hr => first | (go_simp; done) | (go_simp; rfl)); intro gb138 hg w15 hbox hb; have n0_ := Aside0.mk (blk_below (g := gb120) (o := .cells #[.int .i64 0, .int .i64 0, .int .u8 0, .int .u8 0, .int .u8 0, .int .u8 0, .int .u8 0, .int .i64 0, .int .i64 0, .int .u8 0, .int .u8 0, .int .u8 0, .int .u8 0, .int .u8 0] 78 (0, 0)) (by (with_reducible repeat (first | refine blk_drewN ?_ _ | refine blk_drew ?_ | refine blk_alloc ?_ _)); exact BK120.out) hb); have n1_ := Aside0.mk (blk_below (g := gb129) (o := .cells #[.int .i64 t121, .int .i64 t122, .int .u8 t123, .int .u8 t124, .int .u8 t125, .int .u8 t126, .int .u8 t127] 77 (0, 0)) (by (with_reducible repeat (first | refine blk_drewN ?_ _ | refine blk_drew ?_ | refine blk_alloc ?_ _)); exact BK129.out) hb); have n2_ := Aside0.mk (below_step (by repeat (first | (with_reducible first | exact HB.out | apply below_alloc | apply pw_below_drewN | apply below_drew1 | refine below_set ?_ GE120.out | refine below_set ?_ GE129.out) | exact HB.out)) hb); have n3_ := Aside0.mk (hbox); have n4_ := Aside0.mk ((by rw [hg]; exact (below_size (by repeat (first | (with_reducible first | exact HB.out | apply below_alloc | apply pw_below_drewN | apply below_drew1 | refine below_set ?_ GE120.out | refine below_set ?_ GE129.out) | exact HB.out))) : w.heap.size ≤ gb138)); have n5_ := Aside0.mk ((by rw [hg]; exact (below_size (by repeat (first | (with_reducible first | exact HB.out | apply below_alloc | apply pw_below_drewN | apply below_drew1 | refine below_set ?_ GE120.out | refine below_set ?_ GE129.out) | exact HB.out))) : w.heap.size ≤ gb138)); have n6_ := Aside0.mk ((by rw [hg]; exact Nat.ne_of_lt (blk_lt (g := gb120) (o := .cells #[.int .i64 0, .int .i64 0, .int .u8 0, .int .u8 0, .int .u8 0, .int .u8 0, .int .u8 0, .int .i64 0, .int .i64 0, .int .u8 0, .int .u8 0, .int .u8 0, .int .u8 0, .int .u8 0] 78 (0, 0)) (by (with_reducible repeat (first | refine blk_drewN ?_ _ | refine blk_drew ?_ | refine blk_alloc ?_ _)); exact BK120.out)) : gb120 ≠ gb138)); have n7_ := Aside0.mk ((by rw [hg]; exact Nat.ne_of_gt (blk_lt (g := gb120) (o := .cells #[.int .i64 0, .int .i64 0, .int .u8 0, .int .u8 0, .int .u8 0, .int .u8 0, .int .u8 0, .int .i64 0, .int .i64 0, .int .u8 0, .int .u8 0, .int .u8 0, .int .u8 0, .int .u8 0] 78 (0, 0)) (by (with_reducible repeat (first | refine blk_drewN ?_ _ | refine blk_drew ?_ | refine blk_alloc ?_ _)); exact BK120.out)) : gb138 ≠ gb120)); have n8_ := Aside0.mk ((by rw [hg]; exact Nat.ne_of_lt (blk_lt (g := gb129) (o := .cells #[.int .i64 t121, .int .i64 t122, .int .u8 t123, .int .u8 t124, .int .u8 t125, .int .u8 t126, .int .u8 t127] 77 (0, 0)) (by (with_reducible repeat (first | refine blk_drewN ?_ _ | refine blk_drew ?_ | refine blk_alloc ?_ _)); exact BK129.out)) : gb129 ≠ gb138)); have n9_ := Aside0.mk ((by rw [hg]; exact Nat.ne_of_gt (blk_lt (g := gb129) (o := .cells #[.int .i64 t121, .int .i64 t122, .int .u8 t123, .int .u8 t124, .int .u8 t125, .int .u8 t126, .int .u8 t127] 77 (0, 0)) (by (with_reducible repeat (first | refine blk_drewN ?_ _ | refine blk_drew ?_ | refine blk_alloc ?_ _)); exact BK129.out)) : gb138 ≠ gb129)); clear BK120; clear BK129; clear HB; have BK120 := n0_; have BK129 := n1_; have HB := n2_; have BK138 := n3_; have GW138 := n4_; have GE138 := n5_; have NB120_138 := n6_; have NB138_120 := n7_; have NB129_138 := n8_; have NB138_129 := n9_; clear n0_ n1_ n2_ n3_ n4_ n5_ n6_ n7_ n8_ n9_; clear hb hbox hg; have hnb16 := NB138_120.out; have hnc16 := NB120_138.out; have hnb17 := NB138_129.out; have hnc17 := NB129_138.out; have hcz18_0 : w15.cell? ⟨gb138, 0, none⟩ = some (.int .i64 0) := (blk_cell BK138.out 0).trans rfl; have hcz18_1 : w15.cell? ⟨gb138, 1, none⟩ = some (.int .i64 0) := (blk_cell BK138.out 1).trans rfl; have hcz18_2 : w15.cell? ⟨gb138, 2, none⟩ = some (.int .u8 0) := (blk_cell BK138.out 2).trans rfl; have hcz18_3 : w15.cell? ⟨gb138, 3, none⟩ = some (.int .u8 0) := (blk_cell BK138.out 3).trans rfl; have hcz18_4 : w15.cell? ⟨gb138, 4, none⟩ = some (.int .u8 0) := (blk_cell BK138.out 4).trans rfl; have hcz18_5 : w15.cell? ⟨gb138, 5, none⟩ = some (.int .u8 0) := (blk_cell BK138.out 5).trans rfl; have hcz18_6 : w15.cell? ⟨gb138, 6, none⟩ = some (.int .u8 0) := (blk_cell BK138.out 6).trans rfl; have hfz18_0 := blk_frozen BK138.out 0; have hfz18_1 := blk_frozen BK138.out 1; have hfz18_2 := blk_frozen BK138.out 2; have hfz18_3 := blk_frozen BK138.out 3; have hfz18_4 := blk_frozen BK138.out 4; have hfz18_5 := blk_frozen BK138.out 5; have hfz18_6 := blk_frozen BK138.out 6; have hcz19_0 : w15.cell? ⟨gb129, 0, none⟩ = some (.int .i64 t121) := (blk_cell BK129.out 0).trans rfl; have hcz19_1 : w15.cell? ⟨gb129, 1, none⟩ = some (.int .i64 t122) := (blk_cell BK129.out 1).trans rfl; have hcz19_2 : w15.cell? ⟨gb129, 2, none⟩ = some (.int .u8 t123) := (blk_cell BK129.out 2).trans rfl; have hcz19_3 : w15.cell? ⟨gb129, 3, none⟩ = some (.int .u8 t124) := (blk_cell BK129.out 3).trans rfl; have hcz19_4 : w15.cell? ⟨gb129, 4, none⟩ = some (.int .u8 t125) := (blk_cell BK129.out 4).trans rfl; have hcz19_5 : w15.cell? ⟨gb129, 5, none⟩ = some (.int .u8 t126) := (blk_cell BK129.out 5).trans rfl; have hcz19_6 : w15.cell? ⟨gb129, 6, none⟩ = some (.int .u8 t127) := (blk_cell BK129.out 6).trans rfl; have hfz19_0 := blk_frozen BK129.out 0; have hfz19_1 := blk_frozen BK129.out 1; have hfz19_2 := blk_frozen BK129.out 2; have hfz19_3 := blk_frozen BK129.out 3; have hfz19_4 := blk_frozen BK129.out 4; have hfz19_5 := blk_frozen BK129.out 5; have hfz19_6 := blk_frozen BK129.out 6; have hcz20_0 : w15.cell? ⟨gb120, 0, none⟩ = some (.int .i64 0) := (blk_cell BK120.out 0).trans rfl; have hcz20_1 : w15.cell? ⟨gb120, 1, none⟩ = some (.int .i64 0) := (blk_cell BK120.out 1).trans rfl; have hcz20_2 : w15.cell? ⟨gb120, 2, none⟩ = some (.int .u8 0) := (blk_cell BK120.out 2).trans rfl; have hcz20_3 : w15.cell? ⟨gb120, 3, none⟩ = some (.int .u8 0) := (blk_cell BK120.out 3).trans rfl; have hcz20_4 : w15.cell? ⟨gb120, 4, none⟩ = some (.int .u8 0) := (blk_cell BK120.out 4).trans rfl; have hcz20_5 : w15.cell? ⟨gb120, 5, none⟩ = some (.int .u8 0) := (blk_cell BK120.out 5).trans rfl; have hcz20_6 : w15.cell? ⟨gb120, 6, none⟩ = some (.int .u8 0) := (blk_cell BK120.out 6).trans rfl; have hcz20_7 : w15.cell? ⟨gb120, 7, none⟩ = some (.int .i64 0) := (blk_cell BK120.out 7).trans rfl; have hcz20_8 : w15.cell? ⟨gb120, 8, none⟩ = some (.int .i64 0) := (blk_cell BK120.out 8).trans rfl; have hcz20_9 : w15.cell? ⟨gb120, 9, none⟩ = some (.int .u8 0) := (blk_cell BK120.out 9).trans rfl; have hcz20_10 : w15.cell? ⟨gb120, 10, none⟩ = some (.int .u8 0) := (blk_cell BK120.out 10).trans rfl; have hcz20_11 : w15.cell? ⟨gb120, 11, none⟩ = some (.int .u8 0) := (blk_cell BK120.out 11).trans rfl; have hcz20_12 : w15.cell? ⟨gb120, 12, none⟩ = some (.int .u8 0) := (blk_cell BK120.out 12).trans rfl; have hcz20_13 : w15.cell? ⟨gb120, 13, none⟩ = some (.int .u8 0) := (blk_cell BK120.out 13).trans rfl; have hfz20_0 := blk_frozen BK120.out 0; have hfz20_1 := blk_frozen BK120.out 1; have hfz20_2 := blk_frozen BK120.out 2; have hfz20_3 := blk_frozen BK120.out 3; have hfz20_4 := blk_frozen BK120.out 4; have hfz20_5 := blk_frozen BK120.out 5; have hfz20_6 := blk_frozen BK120.out 6; have hfz20_7 := blk_frozen BK120.out 7; have hfz20_8 := blk_frozen BK120.out 8; have hfz20_9 := blk_frozen BK120.out 9; have hfz20_10 := blk_frozen BK120.out 10; have hfz20_11 := blk_frozen BK120.out 11; have hfz20_12 := blk_frozen BK120.out 12; have hfz20_13 := blk_frozen BK120.out 13))
      refine bodyPost_ret (results_ct rfl _ _ gb120 78 #[.int .i64 t121, .int .i64 t122, .int .u8 t123, .int .u8 t124, .int .u8 t125, .int .u8 t126, .int .u8 t127, .int .i64 t130, .int .i64 t131, .int .u8 t132, .int .u8 t133, .int .u8 t134, .int .u8 t135, .int .u8 t136] (0, 0) _ rfl (by (with_reducible repeat (first | refine blk_drewN ?_ _ | refine blk_drew ?_ | refine blk_alloc ?_ _)); refine blk_put (cs := #[.int .i64 t121, .int .i64 t122, .int .u8 t123, .int .u8 t124, .int .u8 t125, .int .u8 t126, .int .u8 t127, .int .i64 t130, .int .i64 t131, .int .u8 t132, .int .u8 t133, .int .u8 t134, .int .u8 t135, .int .u8 0]) ?_ 13 _ rfl; (with_reducible repeat (first | refine blk_drewN ?_ _ | refine blk_drew ?_ | refine blk_alloc ?_ _)); refine blk_put (cs := #[.int .i64 t121, .int .i64 t122, .int .u8 t123, .int .u8 t124, .int .u8 t125, .int .u8 t126, .int .u8 t127, .int .i64 t130, .int .i64 t131, .int .u8 t132, .int .u8 t133, .int .u8 t134, .int .u8 0, .int .u8 0]) ?_ 12 _ rfl; (with_reducible repeat (first | refine blk_drewN ?_ _ | refine blk_drew ?_ | refine blk_alloc ?_ _)); refine blk_put (cs := #[.int .i64 t121, .int .i64 t122, .int .u8 t123, .int .u8 t124, .int .u8 t125, .int .u8 t126, .int .u8 t127, .int .i64 t130, .int .i64 t131, .int .u8 t132, .int .u8 t133, .int .u8 0, .int .u8 0, .int .u8 0]) ?_ 11 _ rfl; (with_reducible repeat (first | refine blk_drewN ?_ _ | refine blk_drew ?_ | refine blk_alloc ?_ _)); refine blk_put (cs := #[.int .i64 t121, .int .i64 t122, .int .u8 t123, .int .u8 t124, .int .u8 t125, .int .u8 t126, .int .u8 t127, .int .i64 t130, .int .i64 t131, .int .u8 t132, .int .u8 0, .int .u8 0, .int .u8 0, .int .u8 0]) ?_ 10 _ rfl; (with_reducible repeat (first | refine blk_drewN ?_ _ | refine blk_drew ?_ | refine blk_alloc ?_ _)); refine blk_put (cs := #[.int .i64 t121, .int .i64 t122, .int .u8 t123, .int .u8 t124, .int .u8 t125, .int .u8 t126, .int .u8 t127, .int .i64 t130, .int .i64 t131, .int .u8 0, .int .u8 0, .int .u8 0, .int .u8 0, .int .u8 0]) ?_ 9 _ rfl; (with_reducible repeat (first | refine blk_drewN ?_ _ | refine blk_drew ?_ | refine blk_alloc ?_ _)); refine blk_put (cs := #[.int .i64 t121, .int .i64 t122, .int .u8 t123, .int .u8 t124, .int .u8 t125, .int .u8 t126, .int .u8 t127, .int .i64 t130, .int .i64 0, .int .u8 0, .int .u8 0, .int .u8 0, .int .u8 0, .int .u8 0]) ?_ 8 _ rfl; (with_reducible repeat (first | refine blk_drewN ?_ _ | refine blk_drew ?_ | refine blk_alloc ?_ _)); refine blk_put (cs := #[.int .i64 t121, .int .i64 t122, .int .u8 t123, .int .u8 t124, .int .u8 t125, .int .u8 t126, .int .u8 t127, .int .i64 0, .int .i64 0, .int .u8 0, .int .u8 0, .int .u8 0, .int .u8 0, .int .u8 0]) ?_ 7 _ rfl; (with_reducible repeat (first | refine blk_drewN ?_ _ | refine blk_drew ?_ | refine blk_alloc ?_ _)); refine blk_put (cs := #[.int .i64 t121, .int .i64 t122, .int .u8 t123, .int .u8 t124, .int .u8 t125, .int .u8 t126, .int .u8 0, .int .i64 0, .int .i64 0, .int .u8 0, .int .u8 0, .int .u8 0, .int .u8 0, .int .u8 0]) ?_ 6 _ rfl; (with_reducible repeat (first | refine blk_drewN ?_ _ | refine blk_drew ?_ | refine blk_alloc ?_ _)); refine blk_put (cs := #[.int .i64 t121, .int .i64 t122, .int .u8 t123, .int .u8 t124, .int .u8 t125, .int .u8 0, .int .u8 0, .int .i64 0, .int .i64 0, .int .u8 0, .int .u8 0, .int .u8 0, .int .u8 0, .int .u8 0]) ?_ 5 _ rfl; (with_reducible repeat (first | refine blk_drewN ?_ _ | refine blk_drew ?_ | refine blk_alloc ?_ _)); refine blk_put (cs := #[.int .i64 t121, .int .i64 t122, .int .u8 t123, .int .u8 t124, .int .u8 0, .int .u8 0, .int .u8 0, .int .i64 0, .int .i64 0, .int .u8 0, .int .u8 0, .int .u8 0, .int .u8 0, .int .u8 0]) ?_ 4 _ rfl; (with_reducible repeat (first | refine blk_drewN ?_ _ | refine blk_drew ?_ | refine blk_alloc ?_ _)); refine blk_put (cs := #[.int .i64 t121, .int .i64 t122, .int .u8 t123, .int .u8 0, .int .u8 0, .int .u8 0, .int .u8 0, .int .i64 0, .int .i64 0, .int .u8 0, .int .u8 0, .int .u8 0, .int .u8 0, .int .u8 0]) ?_ 3 _ rfl; (with_reducible repeat (first | refine blk_drewN ?_ _ | refine blk_drew ?_ | refine blk_alloc ?_ _)); refine blk_put (cs := #[.int .i64 t121, .int .i64 t122, .int .u8 0, .int .u8 0, .int .u8 0, .int .u8 0, .int .u8 0, .int .i64 0, .int .i64 0, .int .u8 0, .int .u8 0, .int .u8 0, .int .u8 0, .int .u8 0]) ?_ 2 _ rfl; (with_reducible repeat (first | refine blk_drewN ?_ _ | refine blk_drew ?_ | refine blk_alloc ?_ _)); refine blk_put (cs := #[.int .i64 t121, .int .i64 0, .int .u8 0, .int .u8 0, .int .u8 0, .int .u8 0, .int .u8 0, .int .i64 0, .int .i64 0, .int .u8 0, .int .u8 0, .int .u8 0, .int .u8 0, .int .u8 0]) ?_ 1 _ rfl; (with_reducible repeat (first | refine blk_drewN ?_ _ | refine blk_drew ?_ | refine blk_alloc ?_ _)); refine blk_put (cs := #[.int .i64 0, .int .i64 0, .int .u8 0, .int .u8 0, .int .u8 0, .int .u8 0, .int .u8 0, .int .i64 0, .int .i64 0, .int .u8 0, .int .u8 0, .int .u8 0, .int .u8 0, .int .u8 0]) ?_ 0 _ rfl; (with_reducible repeat (first | refine blk_drewN ?_ _ | refine blk_drew ?_ | refine blk_alloc ?_ _)); refine blk_far ?_ NB120_138.out _; (with_reducible repeat (first | refine blk_drewN ?_ _ | refine blk_drew ?_ | refine blk_alloc ?_ _)); refine blk_far ?_ NB120_138.out _; (with_reducible repeat (first | refine blk_drewN ?_ _ | refine blk_drew ?_ | refine blk_alloc ?_ _)); refine blk_far ?_ NB120_138.out _; (with_reducible repeat (first | refine blk_drewN ?_ _ | refine blk_drew ?_ | refine blk_alloc ?_ _)); refine blk_far ?_ NB120_138.out _; (with_reducible repeat (first | refine blk_drewN ?_ _ | refine blk_drew ?_ | refine blk_alloc ?_ _)); refine blk_far ?_ NB120_138.out _; (with_reducible repeat (first | refine blk_drewN ?_ _ | refine blk_drew ?_ | refine blk_alloc ?_ _)); refine blk_far ?_ NB120_138.out _; (with_reducible repeat (first | refine blk_drewN ?_ _ | refine blk_drew ?_ | refine blk_alloc ?_ _)); refine blk_far ?_ NB120_138.out _; (with_reducible repeat (first | refine blk_drewN ?_ _ | refine blk_drew ?_ | refine blk_alloc ?_ _)); exact BK120.out) Tryd.underlying78 rfl (by kernel_rfl)) rfl ?_
      exact ⟨by first | rfl | (simp [errW_none, errW_some] <;> rfl) | (simp [*, errW_none, errW_some] <;> rfl), by repeat (first | (with_reducible first | exact HB.out | apply below_alloc | apply pw_below_drewN | apply below_drew1 | refine below_set ?_ GE120.out | refine below_set ?_ GE129.out | refine below_set ?_ GE138.out) | exact HB.out)⟩
    · rw [if_neg c8] at H
      have c8b0 : (t137 == 0) = false := beq_eq_false_iff_ne.mpr c8
      have c8b1 : (t137 != 0) = true := bne_iff_ne.mpr c8
      simp only [Option.some.injEq, Prod.mk.injEq] at H
      obtain ⟨rfl, rfl, rfl, rfl, rfl, rfl, rfl, rfl, rfl, rfl, rfl, rfl, rfl, rfl, rfl⟩ := H
      go_enter Tryd.func47, Tryd.ntmps47
      go_wp2_with (first | ((with_reducible refine gate_dst (N := 8) rfl ?_); refine box_event ?hg (N := 8) ?hd (cs := #[.int .i64 0, .int .i64 0, .int .u8 0, .int .u8 0, .int .u8 0, .int .u8 0, .int .u8 0, .int .i64 0, .int .i64 0, .int .u8 0, .int .u8 0, .int .u8 0, .int .u8 0, .int .u8 0]) (t := 78) ?hr ?_; (case hd => rfl); (case hg => rfl); (case hr => first | (go_simp; done) | (go_simp; rfl)); intro gb120 hg w21 hbox hb; have n0_ := Aside0.mk (below_step (by repeat (first | (with_reducible first | exact HB.out | apply below_alloc | apply pw_below_drewN | apply below_drew1) | exact HB.out)) hb); have n1_ := Aside0.mk (hbox); have n2_ := Aside0.mk ((by rw [hg]; exact (below_size (by repeat (first | (with_reducible first | exact HB.out | apply below_alloc | apply pw_below_drewN | apply below_drew1) | exact HB.out))) : w.heap.size ≤ gb120)); have n3_ := Aside0.mk ((by rw [hg]; exact (below_size (by repeat (first | (with_reducible first | exact HB.out | apply below_alloc | apply pw_below_drewN | apply below_drew1) | exact HB.out))) : w.heap.size ≤ gb120)); clear HB; have HB := n0_; have BK120 := n1_; have GW120 := n2_; have GE120 := n3_; clear n0_ n1_ n2_ n3_; clear hb hbox hg) | ((with_reducible refine gate_callee (f := 52) rfl ?_); refine goesL_ (some 16) rfl rfl Tryd.func52 (by kernel_rfl) rfl #[.int .i64 a0, .int .u8 a2] rfl (by (try simp only [List.map_toArray, List.map_cons, List.map_nil]); first | done | rfl | (simp only [List.length_drop, List.length_take]; rfl)) ?_; (with_reducible refine (trellis_edge.calls a0 a2 t121 t122 t123 t124 t125 t126 t127 t128 _ A5.out).mono ?_); rintro e w22 ⟨rfl, hb⟩; refine ⟨_, rfl, ?_⟩; have n0_ := Aside0.mk (blk_below (g := gb120) (o := .cells #[.int .i64 0, .int .i64 0, .int .u8 0, .int .u8 0, .int .u8 0, .int .u8 0, .int .u8 0, .int .i64 0, .int .i64 0, .int .u8 0, .int .u8 0, .int .u8 0, .int .u8 0, .int .u8 0] 78 (0, 0)) (by (with_reducible repeat (first | refine blk_drewN ?_ _ | refine blk_drew ?_ | refine blk_alloc ?_ _)); exact BK120.out) hb); have n1_ := Aside0.mk (below_step (by repeat (first | (with_reducible first | exact HB.out | apply below_alloc | apply pw_below_drewN | apply below_drew1 | refine below_set ?_ GE120.out) | exact HB.out)) hb); clear BK120; clear HB; have BK120 := n0_; have HB := n1_; clear n0_ n1_; (try clear hb); (try clear hb2); (try clear hk); (try clear hi)) | ((with_reducible refine gate_dst (N := 10) rfl ?_); refine box_event ?hg (N := 10) ?hd (cs := #[.int .i64 0, .int .i64 0, .int .u8 0, .int .u8 0, .int .u8 0, .int .u8 0, .int .u8 0]) (t := 77) ?hr ?_; (case hd => rfl); (case hg => rfl); (case hr => first | (go_simp; done) | (go_simp; rfl)); intro gb129 hg w23 hbox hb; have n0_ := Aside0.mk (blk_below (g := gb120) (o := .cells #[.int .i64 0, .int .i64 0, .int .u8 0, .int .u8 0, .int .u8 0, .int .u8 0, .int .u8 0, .int .i64 0, .int .i64 0, .int .u8 0, .int .u8 0, .int .u8 0, .int .u8 0, .int .u8 0] 78 (0, 0)) (by (with_reducible repeat (first | refine blk_drewN ?_ _ | refine blk_drew ?_ | refine blk_alloc ?_ _)); exact BK120.out) hb); have n1_ := Aside0.mk (below_step (by repeat (first | (with_reducible first | exact HB.out | apply below_alloc | apply pw_below_drewN | apply below_drew1 | refine below_set ?_ GE120.out) | exact HB.out)) hb); have n2_ := Aside0.mk (hbox); have n3_ := Aside0.mk ((by rw [hg]; exact (below_size (by repeat (first | (with_reducible first | exact HB.out | apply below_alloc | apply pw_below_drewN | apply below_drew1 | refine below_set ?_ GE120.out) | exact HB.out))) : w.heap.size ≤ gb129)); have n4_ := Aside0.mk ((by rw [hg]; exact (below_size (by repeat (first | (with_reducible first | exact HB.out | apply below_alloc | apply pw_below_drewN | apply below_drew1 | refine below_set ?_ GE120.out) | exact HB.out))) : w.heap.size ≤ gb129)); have n5_ := Aside0.mk ((by rw [hg]; exact Nat.ne_of_lt (blk_lt (g := gb120) (o := .cells #[.int .i64 0, .int .i64 0, .int .u8 0, .int .u8 0, .int .u8 0, .int .u8 0, .int .u8 0, .int .i64 0, .int .i64 0, .int .u8 0, .int .u8 0, .int .u8 0, .int .u8 0, .int .u8 0] 78 (0, 0)) (by (with_reducible repeat (first | refine blk_drewN ?_ _ | refine blk_drew ?_ | refine blk_alloc ?_ _)); exact BK120.out)) : gb120 ≠ gb129)); have n6_ := Aside0.mk ((by rw [hg]; exact Nat.ne_of_gt (blk_lt (g := gb120) (o := .cells #[.int .i64 0, .int .i64 0, .int .u8 0, .int .u8 0, .int .u8 0, .int .u8 0, .int .u8 0, .int .i64 0, .int .i64 0, .int .u8 0, .int .u8 0, .int .u8 0, .int .u8 0, .int .u8 0] 78 (0, 0)) (by (with_reducible repeat (first | refine blk_drewN ?_ _ | refine blk_drew ?_ | refine blk_alloc ?_ _)); exact BK120.out)) : gb129 ≠ gb120)); clear BK120; clear HB; have BK120 := n0_; have HB := n1_; have BK129 := n2_; have GW129 := n3_; have GE129 := n4_; have NB120_129 := n5_; have NB129_120 := n6_; clear n0_ n1_ n2_ n3_ n4_ n5_ n6_; clear hb hbox hg; have hnb24 := NB129_120.out; have hnc24 := NB120_129.out; have hcz25_0 : w23.cell? ⟨gb129, 0, none⟩ = some (.int .i64 0) := (blk_cell BK129.out 0).trans rfl; have hcz25_1 : w23.cell? ⟨gb129, 1, none⟩ = some (.int .i64 0) := (blk_cell BK129.out 1).trans rfl; have hcz25_2 : w23.cell? ⟨gb129, 2, none⟩ = some (.int .u8 0) := (blk_cell BK129.out 2).trans rfl; have hcz25_3 : w23.cell? ⟨gb129, 3, none⟩ = some (.int .u8 0) := (blk_cell BK129.out 3).trans rfl; have hcz25_4 : w23.cell? ⟨gb129, 4, none⟩ = some (.int .u8 0) := (blk_cell BK129.out 4).trans rfl; have hcz25_5 : w23.cell? ⟨gb129, 5, none⟩ = some (.int .u8 0) := (blk_cell BK129.out 5).trans rfl; have hcz25_6 : w23.cell? ⟨gb129, 6, none⟩ = some (.int .u8 0) := (blk_cell BK129.out 6).trans rfl; have hfz25_0 := blk_frozen BK129.out 0; have hfz25_1 := blk_frozen BK129.out 1; have hfz25_2 := blk_frozen BK129.out 2; have hfz25_3 := blk_frozen BK129.out 3; have hfz25_4 := blk_frozen BK129.out 4; have hfz25_5 := blk_frozen BK129.out 5; have hfz25_6 := blk_frozen BK129.out 6) | ((with_reducible refine gate_callee (f := 52) rfl ?_); refine goesL_ (some 26) rfl rfl Tryd.func52 (by kernel_rfl) rfl #[.int .i64 a1, .int .u8 a3] rfl (by (try simp only [List.map_toArray, List.map_cons, List.map_nil]); first | done | rfl | (simp only [List.length_drop, List.length_take]; rfl)) ?_; (with_reducible refine (trellis_edge.calls a1 a3 t130 t131 t132 t133 t134 t135 t136 t137 _ A7.out).mono ?_); rintro e w26 ⟨rfl, hb⟩; refine ⟨_, rfl, ?_⟩; have n0_ := Aside0.mk (blk_below (g := gb120) (o := .cells #[.int .i64 0, .int .i64 0, .int .u8 0, .int .u8 0, .int .u8 0, .int .u8 0, .int .u8 0, .int .i64 0, .int .i64 0, .int .u8 0, .int .u8 0, .int .u8 0, .int .u8 0, .int .u8 0] 78 (0, 0)) (by (with_reducible repeat (first | refine blk_drewN ?_ _ | refine blk_drew ?_ | refine blk_alloc ?_ _)); refine blk_far ?_ NB120_129.out _; (with_reducible repeat (first | refine blk_drewN ?_ _ | refine blk_drew ?_ | refine blk_alloc ?_ _)); refine blk_far ?_ NB120_129.out _; (with_reducible repeat (first | refine blk_drewN ?_ _ | refine blk_drew ?_ | refine blk_alloc ?_ _)); refine blk_far ?_ NB120_129.out _; (with_reducible repeat (first | refine blk_drewN ?_ _ | refine blk_drew ?_ | refine blk_alloc ?_ _)); refine blk_far ?_ NB120_129.out _; (with_reducible repeat (first | refine blk_drewN ?_ _ | refine blk_drew ?_ | refine blk_alloc ?_ _)); refine blk_far ?_ NB120_129.out _; (with_reducible repeat (first | refine blk_drewN ?_ _ | refine blk_drew ?_ | refine blk_alloc ?_ _)); refine blk_far ?_ NB120_129.out _; (with_reducible repeat (first | refine blk_drewN ?_ _ | refine blk_drew ?_ | refine blk_alloc ?_ _)); refine blk_far ?_ NB120_129.out _; (with_reducible repeat (first | refine blk_drewN ?_ _ | refine blk_drew ?_ | refine blk_alloc ?_ _)); exact BK120.out) hb); have n1_ := Aside0.mk (blk_below (g := gb129) (o := .cells #[.int .i64 t121, .int .i64 t122, .int .u8 t123, .int .u8 t124, .int .u8 t125, .int .u8 t126, .int .u8 t127] 77 (0, 0)) (by (with_reducible repeat (first | refine blk_drewN ?_ _ | refine blk_drew ?_ | refine blk_alloc ?_ _)); refine blk_put (cs := #[.int .i64 t121, .int .i64 t122, .int .u8 t123, .int .u8 t124, .int .u8 t125, .int .u8 t126, .int .u8 0]) ?_ 6 _ rfl; (with_reducible repeat (first | refine blk_drewN ?_ _ | refine blk_drew ?_ | refine blk_alloc ?_ _)); refine blk_put (cs := #[.int .i64 t121, .int .i64 t122, .int .u8 t123, .int .u8 t124, .int .u8 t125, .int .u8 0, .int .u8 0]) ?_ 5 _ rfl; (with_reducible repeat (first | refine blk_drewN ?_ _ | refine blk_drew ?_ | refine blk_alloc ?_ _)); refine blk_put (cs := #[.int .i64 t121, .int .i64 t122, .int .u8 t123, .int .u8 t124, .int .u8 0, .int .u8 0, .int .u8 0]) ?_ 4 _ rfl; (with_reducible repeat (first | refine blk_drewN ?_ _ | refine blk_drew ?_ | refine blk_alloc ?_ _)); refine blk_put (cs := #[.int .i64 t121, .int .i64 t122, .int .u8 t123, .int .u8 0, .int .u8 0, .int .u8 0, .int .u8 0]) ?_ 3 _ rfl; (with_reducible repeat (first | refine blk_drewN ?_ _ | refine blk_drew ?_ | refine blk_alloc ?_ _)); refine blk_put (cs := #[.int .i64 t121, .int .i64 t122, .int .u8 0, .int .u8 0, .int .u8 0, .int .u8 0, .int .u8 0]) ?_ 2 _ rfl; (with_reducible repeat (first | refine blk_drewN ?_ _ | refine blk_drew ?_ | refine blk_alloc ?_ _)); refine blk_put (cs := #[.int .i64 t121, .int .i64 0, .int .u8 0, .int .u8 0, .int .u8 0, .int .u8 0, .int .u8 0]) ?_ 1 _ rfl; (with_reducible repeat (first | refine blk_drewN ?_ _ | refine blk_drew ?_ | refine blk_alloc ?_ _)); refine blk_put (cs := #[.int .i64 0, .int .i64 0, .int .u8 0, .int .u8 0, .int .u8 0, .int .u8 0, .int .u8 0]) ?_ 0 _ rfl; (with_reducible repeat (first | refine blk_drewN ?_ _ | refine blk_drew ?_ | refine blk_alloc ?_ _)); exact BK129.out) hb); have n2_ := Aside0.mk (below_step (by repeat (first | (with_reducible first | exact HB.out | apply below_alloc | apply pw_below_drewN | apply below_drew1 | refine below_set ?_ GE120.out | refine below_set ?_ GE129.out) | exact HB.out)) hb); clear BK120; clear BK129; clear HB; have BK120 := n0_; have BK129 := n1_; have HB := n2_; clear n0_ n1_ n2_; (try clear hb); (try clear hb2); (try clear hk); (try clear hi)) | ((with_reducible refine gate_dst (N := 12) rfl ?_); refine box_event ?hg (N := 12) ?hd (cs := #[.int .i64 0, .int .i64 0, .int .u8 0, .int .u8 0, .int .u8 0, .int .u8 0, .int .u8 0]) (t := 77) ?hr ?_; (case hd => rfl); (case hg => rfl); (case hr => first | (go_simp; done) | (go_simp; rfl)); intro gb138 hg w27 hbox hb; have n0_ := Aside0.mk (blk_below (g := gb120) (o := .cells #[.int .i64 0, .int .i64 0, .int .u8 0, .int .u8 0, .int .u8 0, .int .u8 0, .int .u8 0, .int .i64 0, .int .i64 0, .int .u8 0, .int .u8 0, .int .u8 0, .int .u8 0, .int .u8 0] 78 (0, 0)) (by (with_reducible repeat (first | refine blk_drewN ?_ _ | refine blk_drew ?_ | refine blk_alloc ?_ _)); exact BK120.out) hb); have n1_ := Aside0.mk (blk_below (g := gb129) (o := .cells #[.int .i64 t121, .int .i64 t122, .int .u8 t123, .int .u8 t124, .int .u8 t125, .int .u8 t126, .int .u8 t127] 77 (0, 0)) (by (with_reducible repeat (first | refine blk_drewN ?_ _ | refine blk_drew ?_ | refine blk_alloc ?_ _)); exact BK129.out) hb); have n2_ := Aside0.mk (below_step (by repeat (first | (with_reducible first | exact HB.out | apply below_alloc | apply pw_below_drewN | apply below_drew1 | refine below_set ?_ GE120.out | refine below_set ?_ GE129.out) | exact HB.out)) hb); have n3_ := Aside0.mk (hbox); have n4_ := Aside0.mk ((by rw [hg]; exact (below_size (by repeat (first | (with_reducible first | exact HB.out | apply below_alloc | apply pw_below_drewN | apply below_drew1 | refine below_set ?_ GE120.out | refine below_set ?_ GE129.out) | exact HB.out))) : w.heap.size ≤ gb138)); have n5_ := Aside0.mk ((by rw [hg]; exact (below_size (by repeat (first | (with_reducible first | exact HB.out | apply below_alloc | apply pw_below_drewN | apply below_drew1 | refine below_set ?_ GE120.out | refine below_set ?_ GE129.out) | exact HB.out))) : w.heap.size ≤ gb138)); have n6_ := Aside0.mk ((by rw [hg]; exact Nat.ne_of_lt (blk_lt (g := gb120) (o := .cells #[.int .i64 0, .int .i64 0, .int .u8 0, .int .u8 0, .int .u8 0, .int .u8 0, .int .u8 0, .int .i64 0, .int .i64 0, .int .u8 0, .int .u8 0, .int .u8 0, .int .u8 0, .int .u8 0] 78 (0, 0)) (by (with_reducible repeat (first | refine blk_drewN ?_ _ | refine blk_drew ?_ | refine blk_alloc ?_ _)); exact BK120.out)) : gb120 ≠ gb138)); have n7_ := Aside0.mk ((by rw [hg]; exact Nat.ne_of_gt (blk_lt (g := gb120) (o := .cells #[.int .i64 0, .int .i64 0, .int .u8 0, .int .u8 0, .int .u8 0, .int .u8 0, .int .u8 0, .int .i64 0, .int .i64 0, .int .u8 0, .int .u8 0, .int .u8 0, .int .u8 0, .int .u8 0] 78 (0, 0)) (by (with_reducible repeat (first | refine blk_drewN ?_ _ | refine blk_drew ?_ | refine blk_alloc ?_ _)); exact BK120.out)) : gb138 ≠ gb120)); have n8_ := Aside0.mk ((by rw [hg]; exact Nat.ne_of_lt (blk_lt (g := gb129) (o := .cells #[.int .i64 t121, .int .i64 t122, .int .u8 t123, .int .u8 t124, .int .u8 t125, .int .u8 t126, .int .u8 t127] 77 (0, 0)) (by (with_reducible repeat (first | refine blk_drewN ?_ _ | refine blk_drew ?_ | refine blk_alloc ?_ _)); exact BK129.out)) : gb129 ≠ gb138)); have n9_ := Aside0.mk ((by rw [hg]; exact Nat.ne_of_gt (blk_lt (g := gb129) (o := .cells #[.int .i64 t121, .int .i64 t122, .int .u8 t123, .int .u8 t124, .int .u8 t125, .int .u8 t126, .int .u8 t127] 77 (0, 0)) (by (with_reducible repeat (first | refine blk_drewN ?_ _ | refine blk_drew ?_ | refine blk_alloc ?_ _)); exact BK129.out)) : gb138 ≠ gb129)); clear BK120; clear BK129; clear HB; have BK120 := n0_; have BK129 := n1_; have HB := n2_; have BK138 := n3_; have GW138 := n4_; have GE138 := n5_; have NB120_138 := n6_; have NB138_120 := n7_; have NB129_138 := n8_; have NB138_129 := n9_; clear n0_ n1_ n2_ n3_ n4_ n5_ n6_ n7_ n8_ n9_; clear hb hbox hg; have hnb28 := NB138_120.out; have hnc28 := NB120_138.out; have hnb29 := NB138_129.out; have hnc29 := NB129_138.out; have hcz30_0 : w27.cell? ⟨gb138, 0, none⟩ = some (.int .i64 0) := (blk_cell BK138.out 0).trans rfl; have hcz30_1 : w27.cell? ⟨gb138, 1, none⟩ = some (.int .i64 0) := (blk_cell BK138.out 1).trans rfl; have hcz30_2 : w27.cell? ⟨gb138, 2, none⟩ = some (.int .u8 0) := (blk_cell BK138.out 2).trans rfl; have hcz30_3 : w27.cell? ⟨gb138, 3, none⟩ = some (.int .u8 0) := (blk_cell BK138.out 3).trans rfl; have hcz30_4 : w27.cell? ⟨gb138, 4, none⟩ = some (.int .u8 0) := (blk_cell BK138.out 4).trans rfl; have hcz30_5 : w27.cell? ⟨gb138, 5, none⟩ = some (.int .u8 0) := (blk_cell BK138.out 5).trans rfl; have hcz30_6 : w27.cell? ⟨gb138, 6, none⟩ = some (.int .u8 0) := (blk_cell BK138.out 6).trans rfl; have hfz30_0 := blk_frozen BK138.out 0; have hfz30_1 := blk_frozen BK138.out 1; have hfz30_2 := blk_frozen BK138.out 2; have hfz30_3 := blk_frozen BK138.out 3; have hfz30_4 := blk_frozen BK138.out 4; have hfz30_5 := blk_frozen BK138.out 5; have hfz30_6 := blk_frozen BK138.out 6; have hcz31_0 : w27.cell? ⟨gb120, 0, none⟩ = some (.int .i64 0) := (blk_cell BK120.out 0).trans rfl; have hcz31_1 : w27.cell? ⟨gb120, 1, none⟩ = some (.int .i64 0) := (blk_cell BK120.out 1).trans rfl; have hcz31_2 : w27.cell? ⟨gb120, 2, none⟩ = some (.int .u8 0) := (blk_cell BK120.out 2).trans rfl; have hcz31_3 : w27.cell? ⟨gb120, 3, none⟩ = some (.int .u8 0) := (blk_cell BK120.out 3).trans rfl; have hcz31_4 : w27.cell? ⟨gb120, 4, none⟩ = some (.int .u8 0) := (blk_cell BK120.out 4).trans rfl; have hcz31_5 : w27.cell? ⟨gb120, 5, none⟩ = some (.int .u8 0) := (blk_cell BK120.out 5).trans rfl; have hcz31_6 : w27.cell? ⟨gb120, 6, none⟩ = some (.int .u8 0) := (blk_cell BK120.out 6).trans rfl; have hcz31_7 : w27.cell? ⟨gb120, 7, none⟩ = some (.int .i64 0) := (blk_cell BK120.out 7).trans rfl; have hcz31_8 : w27.cell? ⟨gb120, 8, none⟩ = some (.int .i64 0) := (blk_cell BK120.out 8).trans rfl; have hcz31_9 : w27.cell? ⟨gb120, 9, none⟩ = some (.int .u8 0) := (blk_cell BK120.out 9).trans rfl; have hcz31_10 : w27.cell? ⟨gb120, 10, none⟩ = some (.int .u8 0) := (blk_cell BK120.out 10).trans rfl; have hcz31_11 : w27.cell? ⟨gb120, 11, none⟩ = some (.int .u8 0) := (blk_cell BK120.out 11).trans rfl; have hcz31_12 : w27.cell? ⟨gb120, 12, none⟩ = some (.int .u8 0) := (blk_cell BK120.out 12).trans rfl; have hcz31_13 : w27.cell? ⟨gb120, 13, none⟩ = some (.int .u8 0) := (blk_cell BK120.out 13).trans rfl; have hfz31_0 := blk_frozen BK120.out 0; have hfz31_1 := blk_frozen BK120.out 1; have hfz31_2 := blk_frozen BK120.out 2; have hfz31_3 := blk_frozen BK120.out 3; have hfz31_4 := blk_frozen BK120.out 4; have hfz31_5 := blk_frozen BK120.out 5; have hfz31_6 := blk_frozen BK120.out 6; have hfz31_7 := blk_frozen BK120.out 7; have hfz31_8 := blk_frozen BK120.out 8; have hfz31_9 := blk_frozen BK120.out 9; have hfz31_10 := blk_frozen BK120.out 10; have hfz31_11 := blk_frozen BK120.out 11; have hfz31_12 := blk_frozen BK120.out 12; have hfz31_13 := blk_frozen BK120.out 13))
      refine bodyPost_ret (results_ct rfl _ _ gb120 78 #[.int .i64 0, .int .i64 0, .int .u8 0, .int .u8 0, .int .u8 0, .int .u8 0, .int .u8 0, .int .i64 0, .int .i64 0, .int .u8 0, .int .u8 0, .int .u8 0, .int .u8 0, .int .u8 0] (0, 0) _ rfl (by (with_reducible repeat (first | refine blk_drewN ?_ _ | refine blk_drew ?_ | refine blk_alloc ?_ _)); refine blk_put (cs := #[.int .i64 0, .int .i64 0, .int .u8 0, .int .u8 0, .int .u8 0, .int .u8 0, .int .u8 0, .int .i64 0, .int .i64 0, .int .u8 0, .int .u8 0, .int .u8 0, .int .u8 0, .int .u8 0]) ?_ 13 _ rfl; (with_reducible repeat (first | refine blk_drewN ?_ _ | refine blk_drew ?_ | refine blk_alloc ?_ _)); refine blk_put (cs := #[.int .i64 0, .int .i64 0, .int .u8 0, .int .u8 0, .int .u8 0, .int .u8 0, .int .u8 0, .int .i64 0, .int .i64 0, .int .u8 0, .int .u8 0, .int .u8 0, .int .u8 0, .int .u8 0]) ?_ 12 _ rfl; (with_reducible repeat (first | refine blk_drewN ?_ _ | refine blk_drew ?_ | refine blk_alloc ?_ _)); refine blk_put (cs := #[.int .i64 0, .int .i64 0, .int .u8 0, .int .u8 0, .int .u8 0, .int .u8 0, .int .u8 0, .int .i64 0, .int .i64 0, .int .u8 0, .int .u8 0, .int .u8 0, .int .u8 0, .int .u8 0]) ?_ 11 _ rfl; (with_reducible repeat (first | refine blk_drewN ?_ _ | refine blk_drew ?_ | refine blk_alloc ?_ _)); refine blk_put (cs := #[.int .i64 0, .int .i64 0, .int .u8 0, .int .u8 0, .int .u8 0, .int .u8 0, .int .u8 0, .int .i64 0, .int .i64 0, .int .u8 0, .int .u8 0, .int .u8 0, .int .u8 0, .int .u8 0]) ?_ 10 _ rfl; (with_reducible repeat (first | refine blk_drewN ?_ _ | refine blk_drew ?_ | refine blk_alloc ?_ _)); refine blk_put (cs := #[.int .i64 0, .int .i64 0, .int .u8 0, .int .u8 0, .int .u8 0, .int .u8 0, .int .u8 0, .int .i64 0, .int .i64 0, .int .u8 0, .int .u8 0, .int .u8 0, .int .u8 0, .int .u8 0]) ?_ 9 _ rfl; (with_reducible repeat (first | refine blk_drewN ?_ _ | refine blk_drew ?_ | refine blk_alloc ?_ _)); refine blk_put (cs := #[.int .i64 0, .int .i64 0, .int .u8 0, .int .u8 0, .int .u8 0, .int .u8 0, .int .u8 0, .int .i64 0, .int .i64 0, .int .u8 0, .int .u8 0, .int .u8 0, .int .u8 0, .int .u8 0]) ?_ 8 _ rfl; (with_reducible repeat (first | refine blk_drewN ?_ _ | refine blk_drew ?_ | refine blk_alloc ?_ _)); refine blk_put (cs := #[.int .i64 0, .int .i64 0, .int .u8 0, .int .u8 0, .int .u8 0, .int .u8 0, .int .u8 0, .int .i64 0, .int .i64 0, .int .u8 0, .int .u8 0, .int .u8 0, .int .u8 0, .int .u8 0]) ?_ 7 _ rfl; (with_reducible repeat (first | refine blk_drewN ?_ _ | refine blk_drew ?_ | refine blk_alloc ?_ _)); refine blk_put (cs := #[.int .i64 0, .int .i64 0, .int .u8 0, .int .u8 0, .int .u8 0, .int .u8 0, .int .u8 0, .int .i64 0, .int .i64 0, .int .u8 0, .int .u8 0, .int .u8 0, .int .u8 0, .int .u8 0]) ?_ 6 _ rfl; (with_reducible repeat (first | refine blk_drewN ?_ _ | refine blk_drew ?_ | refine blk_alloc ?_ _)); refine blk_put (cs := #[.int .i64 0, .int .i64 0, .int .u8 0, .int .u8 0, .int .u8 0, .int .u8 0, .int .u8 0, .int .i64 0, .int .i64 0, .int .u8 0, .int .u8 0, .int .u8 0, .int .u8 0, .int .u8 0]) ?_ 5 _ rfl; (with_reducible repeat (first | refine blk_drewN ?_ _ | refine blk_drew ?_ | refine blk_alloc ?_ _)); refine blk_put (cs := #[.int .i64 0, .int .i64 0, .int .u8 0, .int .u8 0, .int .u8 0, .int .u8 0, .int .u8 0, .int .i64 0, .int .i64 0, .int .u8 0, .int .u8 0, .int .u8 0, .int .u8 0, .int .u8 0]) ?_ 4 _ rfl; (with_reducible repeat (first | refine blk_drewN ?_ _ | refine blk_drew ?_ | refine blk_alloc ?_ _)); refine blk_put (cs := #[.int .i64 0, .int .i64 0, .int .u8 0, .int .u8 0, .int .u8 0, .int .u8 0, .int .u8 0, .int .i64 0, .int .i64 0, .int .u8 0, .int .u8 0, .int .u8 0, .int .u8 0, .int .u8 0]) ?_ 3 _ rfl; (with_reducible repeat (first | refine blk_drewN ?_ _ | refine blk_drew ?_ | refine blk_alloc ?_ _)); refine blk_put (cs := #[.int .i64 0, .int .i64 0, .int .u8 0, .int .u8 0, .int .u8 0, .int .u8 0, .int .u8 0, .int .i64 0, .int .i64 0, .int .u8 0, .int .u8 0, .int .u8 0, .int .u8 0, .int .u8 0]) ?_ 2 _ rfl; (with_reducible repeat (first | refine blk_drewN ?_ _ | refine blk_drew ?_ | refine blk_alloc ?_ _)); refine blk_put (cs := #[.int .i64 0, .int .i64 0, .int .u8 0, .int .u8 0, .int .u8 0, .int .u8 0, .int .u8 0, .int .i64 0, .int .i64 0, .int .u8 0, .int .u8 0, .int .u8 0, .int .u8 0, .int .u8 0]) ?_ 1 _ rfl; (with_reducible repeat (first | refine blk_drewN ?_ _ | refine blk_drew ?_ | refine blk_alloc ?_ _)); refine blk_put (cs := #[.int .i64 0, .int .i64 0, .int .u8 0, .int .u8 0, .int .u8 0, .int .u8 0, .int .u8 0, .int .i64 0, .int .i64 0, .int .u8 0, .int .u8 0, .int .u8 0, .int .u8 0, .int .u8 0]) ?_ 0 _ rfl; (with_reducible repeat (first | refine blk_drewN ?_ _ | refine blk_drew ?_ | refine blk_alloc ?_ _)); refine blk_far ?_ NB120_138.out _; (with_reducible repeat (first | refine blk_drewN ?_ _ | refine blk_drew ?_ | refine blk_alloc ?_ _)); refine blk_far ?_ NB120_138.out _; (with_reducible repeat (first | refine blk_drewN ?_ _ | refine blk_drew ?_ | refine blk_alloc ?_ _)); refine blk_far ?_ NB120_138.out _; (with_reducible repeat (first | refine blk_drewN ?_ _ | refine blk_drew ?_ | refine blk_alloc ?_ _)); refine blk_far ?_ NB120_138.out _; (with_reducible repeat (first | refine blk_drewN ?_ _ | refine blk_drew ?_ | refine blk_alloc ?_ _)); refine blk_far ?_ NB120_138.out _; (with_reducible repeat (first | refine blk_drewN ?_ _ | refine blk_drew ?_ | refine blk_alloc ?_ _)); refine blk_far ?_ NB120_138.out _; (with_reducible repeat (first | refine blk_drewN ?_ _ | refine blk_drew ?_ | refine blk_alloc ?_ _)); refine blk_far ?_ NB120_138.out _; (with_reducible repeat (first | refine blk_drewN ?_ _ | refine blk_drew ?_ | refine blk_alloc ?_ _)); exact BK120.out) Tryd.underlying78 rfl (by kernel_rfl)) rfl ?_
      exact ⟨by first | rfl | (simp [errW_none, errW_some] <;> rfl) | (simp [*, errW_none, errW_some] <;> rfl), by repeat (first | (with_reducible first | exact HB.out | apply below_alloc | apply pw_below_drewN | apply below_drew1 | refine below_set ?_ GE120.out | refine below_set ?_ GE129.out | refine below_set ?_ GE138.out) | exact HB.out)⟩
  · rw [if_neg c6] at H
    have c6b0 : (t128 == 0) = false := beq_eq_false_iff_ne.mpr c6
    have c6b1 : (t128 != 0) = true := bne_iff_ne.mpr c6
    simp only [Option.some.injEq, Prod.mk.injEq] at H
    obtain ⟨rfl, rfl, rfl, rfl, rfl, rfl, rfl, rfl, rfl, rfl, rfl, rfl, rfl, rfl, rfl⟩ := H
    go_enter Tryd.func47, Tryd.ntmps47
    go_wp2_with (first | ((with_reducible refine gate_dst (N := 8) rfl ?_); refine box_event ?hg (N := 8) ?hd (cs := #[.int .i64 0, .int .i64 0, .int .u8 0, .int .u8 0, .int .u8 0, .int .u8 0, .int .u8 0, .int .i64 0, .int .i64 0, .int .u8 0, .int .u8 0, .int .u8 0, .int .u8 0, .int .u8 0]) (t := 78) ?hr ?_; (case hd => rfl); (case hg => rfl); (case hr => first | (go_simp; done) | (go_simp; rfl)); intro gb120 hg w32 hbox hb; have n0_ := Aside0.mk (below_step (by repeat (first | (with_reducible first | exact HB.out | apply below_alloc | apply pw_below_drewN | apply below_drew1) | exact HB.out)) hb); have n1_ := Aside0.mk (hbox); have n2_ := Aside0.mk ((by rw [hg]; exact (below_size (by repeat (first | (with_reducible first | exact HB.out | apply below_alloc | apply pw_below_drewN | apply below_drew1) | exact HB.out))) : w.heap.size ≤ gb120)); have n3_ := Aside0.mk ((by rw [hg]; exact (below_size (by repeat (first | (with_reducible first | exact HB.out | apply below_alloc | apply pw_below_drewN | apply below_drew1) | exact HB.out))) : w.heap.size ≤ gb120)); clear HB; have HB := n0_; have BK120 := n1_; have GW120 := n2_; have GE120 := n3_; clear n0_ n1_ n2_ n3_; clear hb hbox hg) | ((with_reducible refine gate_callee (f := 52) rfl ?_); refine goesL_ (some 16) rfl rfl Tryd.func52 (by kernel_rfl) rfl #[.int .i64 a0, .int .u8 a2] rfl (by (try simp only [List.map_toArray, List.map_cons, List.map_nil]); first | done | rfl | (simp only [List.length_drop, List.length_take]; rfl)) ?_; (with_reducible refine (trellis_edge.calls a0 a2 t121 t122 t123 t124 t125 t126 t127 t128 _ A5.out).mono ?_); rintro e w33 ⟨rfl, hb⟩; refine ⟨_, rfl, ?_⟩; have n0_ := Aside0.mk (blk_below (g := gb120) (o := .cells #[.int .i64 0, .int .i64 0, .int .u8 0, .int .u8 0, .int .u8 0, .int .u8 0, .int .u8 0, .int .i64 0, .int .i64 0, .int .u8 0, .int .u8 0, .int .u8 0, .int .u8 0, .int .u8 0] 78 (0, 0)) (by (with_reducible repeat (first | refine blk_drewN ?_ _ | refine blk_drew ?_ | refine blk_alloc ?_ _)); exact BK120.out) hb); have n1_ := Aside0.mk (below_step (by repeat (first | (with_reducible first | exact HB.out | apply below_alloc | apply pw_below_drewN | apply below_drew1 | refine below_set ?_ GE120.out) | exact HB.out)) hb); clear BK120; clear HB; have BK120 := n0_; have HB := n1_; clear n0_ n1_; (try clear hb); (try clear hb2); (try clear hk); (try clear hi)) | ((with_reducible refine gate_dst (N := 10) rfl ?_); refine box_event ?hg (N := 10) ?hd (cs := #[.int .i64 0, .int .i64 0, .int .u8 0, .int .u8 0, .int .u8 0, .int .u8 0, .int .u8 0]) (t := 77) ?hr ?_; (case hd => rfl); (case hg => rfl); (case hr => first | (go_simp; done) | (go_simp; rfl)); intro gb129 hg w34 hbox hb; have n0_ := Aside0.mk (blk_below (g := gb120) (o := .cells #[.int .i64 0, .int .i64 0, .int .u8 0, .int .u8 0, .int .u8 0, .int .u8 0, .int .u8 0, .int .i64 0, .int .i64 0, .int .u8 0, .int .u8 0, .int .u8 0, .int .u8 0, .int .u8 0] 78 (0, 0)) (by (with_reducible repeat (first | refine blk_drewN ?_ _ | refine blk_drew ?_ | refine blk_alloc ?_ _)); exact BK120.out) hb); have n1_ := Aside0.mk (below_step (by repeat (first | (with_reducible first | exact HB.out | apply below_alloc | apply pw_below_drewN | apply below_drew1 | refine below_set ?_ GE120.out) | exact HB.out)) hb); have n2_ := Aside0.mk (hbox); have n3_ := Aside0.mk ((by rw [hg]; exact (below_size (by repeat (first | (with_reducible first | exact HB.out | apply below_alloc | apply pw_below_drewN | apply below_drew1 | refine below_set ?_ GE120.out) | exact HB.out))) : w.heap.size ≤ gb129)); have n4_ := Aside0.mk ((by rw [hg]; exact (below_size (by repeat (first | (with_reducible first | exact HB.out | apply below_alloc | apply pw_below_drewN | apply below_drew1 | refine below_set ?_ GE120.out) | exact HB.out))) : w.heap.size ≤ gb129)); have n5_ := Aside0.mk ((by rw [hg]; exact Nat.ne_of_lt (blk_lt (g := gb120) (o := .cells #[.int .i64 0, .int .i64 0, .int .u8 0, .int .u8 0, .int .u8 0, .int .u8 0, .int .u8 0, .int .i64 0, .int .i64 0, .int .u8 0, .int .u8 0, .int .u8 0, .int .u8 0, .int .u8 0] 78 (0, 0)) (by (with_reducible repeat (first | refine blk_drewN ?_ _ | refine blk_drew ?_ | refine blk_alloc ?_ _)); exact BK120.out)) : gb120 ≠ gb129)); have n6_ := Aside0.mk ((by rw [hg]; exact Nat.ne_of_gt (blk_lt (g := gb120) (o := .cells #[.int .i64 0, .int .i64 0, .int .u8 0, .int .u8 0, .int .u8 0, .int .u8 0, .int .u8 0, .int .i64 0, .int .i64 0, .int .u8 0, .int .u8 0, .int .u8 0, .int .u8 0, .int .u8 0] 78 (0, 0)) (by (with_reducible repeat (first | refine blk_drewN ?_ _ | refine blk_drew ?_ | refine blk_alloc ?_ _)); exact BK120.out)) : gb129 ≠ gb120)); clear BK120; clear HB; have BK120 := n0_; have HB := n1_; have BK129 := n2_; have GW129 := n3_; have GE129 := n4_; have NB120_129 := n5_; have NB129_120 := n6_; clear n0_ n1_ n2_ n3_ n4_ n5_ n6_; clear hb hbox hg; have hnb35 := NB129_120.out; have hnc35 := NB120_129.out; have hcz36_0 : w34.cell? ⟨gb129, 0, none⟩ = some (.int .i64 0) := (blk_cell BK129.out 0).trans rfl; have hcz36_1 : w34.cell? ⟨gb129, 1, none⟩ = some (.int .i64 0) := (blk_cell BK129.out 1).trans rfl; have hcz36_2 : w34.cell? ⟨gb129, 2, none⟩ = some (.int .u8 0) := (blk_cell BK129.out 2).trans rfl; have hcz36_3 : w34.cell? ⟨gb129, 3, none⟩ = some (.int .u8 0) := (blk_cell BK129.out 3).trans rfl; have hcz36_4 : w34.cell? ⟨gb129, 4, none⟩ = some (.int .u8 0) := (blk_cell BK129.out 4).trans rfl; have hcz36_5 : w34.cell? ⟨gb129, 5, none⟩ = some (.int .u8 0) := (blk_cell BK129.out 5).trans rfl; have hcz36_6 : w34.cell? ⟨gb129, 6, none⟩ = some (.int .u8 0) := (blk_cell BK129.out 6).trans rfl; have hfz36_0 := blk_frozen BK129.out 0; have hfz36_1 := blk_frozen BK129.out 1; have hfz36_2 := blk_frozen BK129.out 2; have hfz36_3 := blk_frozen BK129.out 3; have hfz36_4 := blk_frozen BK129.out 4; have hfz36_5 := blk_frozen BK129.out 5; have hfz36_6 := blk_frozen BK129.out 6; have hcz37_0 : w34.cell? ⟨gb120, 0, none⟩ = some (.int .i64 0) := (blk_cell BK120.out 0).trans rfl; have hcz37_1 : w34.cell? ⟨gb120, 1, none⟩ = some (.int .i64 0) := (blk_cell BK120.out 1).trans rfl; have hcz37_2 : w34.cell? ⟨gb120, 2, none⟩ = some (.int .u8 0) := (blk_cell BK120.out 2).trans rfl; have hcz37_3 : w34.cell? ⟨gb120, 3, none⟩ = some (.int .u8 0) := (blk_cell BK120.out 3).trans rfl; have hcz37_4 : w34.cell? ⟨gb120, 4, none⟩ = some (.int .u8 0) := (blk_cell BK120.out 4).trans rfl; have hcz37_5 : w34.cell? ⟨gb120, 5, none⟩ = some (.int .u8 0) := (blk_cell BK120.out 5).trans rfl; have hcz37_6 : w34.cell? ⟨gb120, 6, none⟩ = some (.int .u8 0) := (blk_cell BK120.out 6).trans rfl; have hcz37_7 : w34.cell? ⟨gb120, 7, none⟩ = some (.int .i64 0) := (blk_cell BK120.out 7).trans rfl; have hcz37_8 : w34.cell? ⟨gb120, 8, none⟩ = some (.int .i64 0) := (blk_cell BK120.out 8).trans rfl; have hcz37_9 : w34.cell? ⟨gb120, 9, none⟩ = some (.int .u8 0) := (blk_cell BK120.out 9).trans rfl; have hcz37_10 : w34.cell? ⟨gb120, 10, none⟩ = some (.int .u8 0) := (blk_cell BK120.out 10).trans rfl; have hcz37_11 : w34.cell? ⟨gb120, 11, none⟩ = some (.int .u8 0) := (blk_cell BK120.out 11).trans rfl; have hcz37_12 : w34.cell? ⟨gb120, 12, none⟩ = some (.int .u8 0) := (blk_cell BK120.out 12).trans rfl; have hcz37_13 : w34.cell? ⟨gb120, 13, none⟩ = some (.int .u8 0) := (blk_cell BK120.out 13).trans rfl; have hfz37_0 := blk_frozen BK120.out 0; have hfz37_1 := blk_frozen BK120.out 1; have hfz37_2 := blk_frozen BK120.out 2; have hfz37_3 := blk_frozen BK120.out 3; have hfz37_4 := blk_frozen BK120.out 4; have hfz37_5 := blk_frozen BK120.out 5; have hfz37_6 := blk_frozen BK120.out 6; have hfz37_7 := blk_frozen BK120.out 7; have hfz37_8 := blk_frozen BK120.out 8; have hfz37_9 := blk_frozen BK120.out 9; have hfz37_10 := blk_frozen BK120.out 10; have hfz37_11 := blk_frozen BK120.out 11; have hfz37_12 := blk_frozen BK120.out 12; have hfz37_13 := blk_frozen BK120.out 13))
    refine bodyPost_ret (results_ct rfl _ _ gb120 78 #[.int .i64 0, .int .i64 0, .int .u8 0, .int .u8 0, .int .u8 0, .int .u8 0, .int .u8 0, .int .i64 0, .int .i64 0, .int .u8 0, .int .u8 0, .int .u8 0, .int .u8 0, .int .u8 0] (0, 0) _ rfl (by (with_reducible repeat (first | refine blk_drewN ?_ _ | refine blk_drew ?_ | refine blk_alloc ?_ _)); refine blk_put (cs := #[.int .i64 0, .int .i64 0, .int .u8 0, .int .u8 0, .int .u8 0, .int .u8 0, .int .u8 0, .int .i64 0, .int .i64 0, .int .u8 0, .int .u8 0, .int .u8 0, .int .u8 0, .int .u8 0]) ?_ 13 _ rfl; (with_reducible repeat (first | refine blk_drewN ?_ _ | refine blk_drew ?_ | refine blk_alloc ?_ _)); refine blk_put (cs := #[.int .i64 0, .int .i64 0, .int .u8 0, .int .u8 0, .int .u8 0, .int .u8 0, .int .u8 0, .int .i64 0, .int .i64 0, .int .u8 0, .int .u8 0, .int .u8 0, .int .u8 0, .int .u8 0]) ?_ 12 _ rfl; (with_reducible repeat (first | refine blk_drewN ?_ _ | refine blk_drew ?_ | refine blk_alloc ?_ _)); refine blk_put (cs := #[.int .i64 0, .int .i64 0, .int .u8 0, .int .u8 0, .int .u8 0, .int .u8 0, .int .u8 0, .int .i64 0, .int .i64 0, .int .u8 0, .int .u8 0, .int .u8 0, .int .u8 0, .int .u8 0]) ?_ 11 _ rfl; (with_reducible repeat (first | refine blk_drewN ?_ _ | refine blk_drew ?_ | refine blk_alloc ?_ _)); refine blk_put (cs := #[.int .i64 0, .int .i64 0, .int .u8 0, .int .u8 0, .int .u8 0, .int .u8 0, .int .u8 0, .int .i64 0, .int .i64 0, .int .u8 0, .int .u8 0, .int .u8 0, .int .u8 0, .int .u8 0]) ?_ 10 _ rfl; (with_reducible repeat (first | refine blk_drewN ?_ _ | refine blk_drew ?_ | refine blk_alloc ?_ _)); refine blk_put (cs := #[.int .i64 0, .int .i64 0, .int .u8 0, .int .u8 0, .int .u8 0, .int .u8 0, .int .u8 0, .int .i64 0, .int .i64 0, .int .u8 0, .int .u8 0, .int .u8 0, .int .u8 0, .int .u8 0]) ?_ 9 _ rfl; (with_reducible repeat (first | refine blk_drewN ?_ _ | refine blk_drew ?_ | refine blk_alloc ?_ _)); refine blk_put (cs := #[.int .i64 0, .int .i64 0, .int .u8 0, .int .u8 0, .int .u8 0, .int .u8 0, .int .u8 0, .int .i64 0, .int .i64 0, .int .u8 0, .int .u8 0, .int .u8 0, .int .u8 0, .int .u8 0]) ?_ 8 _ rfl; (with_reducible repeat (first | refine blk_drewN ?_ _ | refine blk_drew ?_ | refine blk_alloc ?_ _)); refine blk_put (cs := #[.int .i64 0, .int .i64 0, .int .u8 0, .int .u8 0, .int .u8 0, .int .u8 0, .int .u8 0, .int .i64 0, .int .i64 0, .int .u8 0, .int .u8 0, .int .u8 0, .int .u8 0, .int .u8 0]) ?_ 7 _ rfl; (with_reducible repeat (first | refine blk_drewN ?_ _ | refine blk_drew ?_ | refine blk_alloc ?_ _)); refine blk_put (cs := #[.int .i64 0, .int .i64 0, .int .u8 0, .int .u8 0, .int .u8 0, .int .u8 0, .int .u8 0, .int .i64 0, .int .i64 0, .int .u8 0, .int .u8 0, .int .u8 0, .int .u8 0, .int .u8 0]) ?_ 6 _ rfl; (with_reducible repeat (first | refine blk_drewN ?_ _ | refine blk_drew ?_ | refine blk_alloc ?_ _)); refine blk_put (cs := #[.int .i64 0, .int .i64 0, .int .u8 0, .int .u8 0, .int .u8 0, .int .u8 0, .int .u8 0, .int .i64 0, .int .i64 0, .int .u8 0, .int .u8 0, .int .u8 0, .int .u8 0, .int .u8 0]) ?_ 5 _ rfl; (with_reducible repeat (first | refine blk_drewN ?_ _ | refine blk_drew ?_ | refine blk_alloc ?_ _)); refine blk_put (cs := #[.int .i64 0, .int .i64 0, .int .u8 0, .int .u8 0, .int .u8 0, .int .u8 0, .int .u8 0, .int .i64 0, .int .i64 0, .int .u8 0, .int .u8 0, .int .u8 0, .int .u8 0, .int .u8 0]) ?_ 4 _ rfl; (with_reducible repeat (first | refine blk_drewN ?_ _ | refine blk_drew ?_ | refine blk_alloc ?_ _)); refine blk_put (cs := #[.int .i64 0, .int .i64 0, .int .u8 0, .int .u8 0, .int .u8 0, .int .u8 0, .int .u8 0, .int .i64 0, .int .i64 0, .int .u8 0, .int .u8 0, .int .u8 0, .int .u8 0, .int .u8 0]) ?_ 3 _ rfl; (with_reducible repeat (first | refine blk_drewN ?_ _ | refine blk_drew ?_ | refine blk_alloc ?_ _)); refine blk_put (cs := #[.int .i64 0, .int .i64 0, .int .u8 0, .int .u8 0, .int .u8 0, .int .u8 0, .int .u8 0, .int .i64 0, .int .i64 0, .int .u8 0, .int .u8 0, .int .u8 0, .int .u8 0, .int .u8 0]) ?_ 2 _ rfl; (with_reducible repeat (first | refine blk_drewN ?_ _ | refine blk_drew ?_ | refine blk_alloc ?_ _)); refine blk_put (cs := #[.int .i64 0, .int .i64 0, .int .u8 0, .int .u8 0, .int .u8 0, .int .u8 0, .int .u8 0, .int .i64 0, .int .i64 0, .int .u8 0, .int .u8 0, .int .u8 0, .int .u8 0, .int .u8 0]) ?_ 1 _ rfl; (with_reducible repeat (first | refine blk_drewN ?_ _ | refine blk_drew ?_ | refine blk_alloc ?_ _)); refine blk_put (cs := #[.int .i64 0, .int .i64 0, .int .u8 0, .int .u8 0, .int .u8 0, .int .u8 0, .int .u8 0, .int .i64 0, .int .i64 0, .int .u8 0, .int .u8 0, .int .u8 0, .int .u8 0, .int .u8 0]) ?_ 0 _ rfl; (with_reducible repeat (first | refine blk_drewN ?_ _ | refine blk_drew ?_ | refine blk_alloc ?_ _)); refine blk_far ?_ NB120_129.out _; (with_reducible repeat (first | refine blk_drewN ?_ _ | refine blk_drew ?_ | refine blk_alloc ?_ _)); refine blk_far ?_ NB120_129.out _; (with_reducible repeat (first | refine blk_drewN ?_ _ | refine blk_drew ?_ | refine blk_alloc ?_ _)); refine blk_far ?_ NB120_129.out _; (with_reducible repeat (first | refine blk_drewN ?_ _ | refine blk_drew ?_ | refine blk_alloc ?_ _)); refine blk_far ?_ NB120_129.out _; (with_reducible repeat (first | refine blk_drewN ?_ _ | refine blk_drew ?_ | refine blk_alloc ?_ _)); refine blk_far ?_ NB120_129.out _; (with_reducible repeat (first | refine blk_drewN ?_ _ | refine blk_drew ?_ | refine blk_alloc ?_ _)); refine blk_far ?_ NB120_129.out _; (with_reducible repeat (first | refine blk_drewN ?_ _ | refine blk_drew ?_ | refine blk_alloc ?_ _)); refine blk_far ?_ NB120_129.out _; (with_reducible repeat (first | refine blk_drewN ?_ _ | refine blk_drew ?_ | refine blk_alloc ?_ _)); exact BK120.out) Tryd.underlying78 rfl (by kernel_rfl)) rfl ?_
    exact ⟨by first | rfl | (simp [errW_none, errW_some] <;> rfl) | (simp [*, errW_none, errW_some] <;> rfl), by repeat (first | (with_reducible first | exact HB.out | apply below_alloc | apply pw_below_drewN | apply below_drew1 | refine below_set ?_ GE120.out | refine below_set ?_ GE129.out) | exact HB.out)⟩

end Go.Proofs.YtijpnlmejphfhaaDoor.P

-- YtijpnlmejphfhaaDoorP15
namespace Go.Proofs.YtijpnlmejphfhaaDoor.P
open Go.RowKit Go.Proofs.YtijpnlmejphfhaaDoorW.PrintWords Go.Proofs.YtijpnlmejphfhaaDoorW.PrintLast Go.Proofs.YtijpnlmejphfhaaDoorW.PrintMore
attribute [local go_sem] max2_int min2_int max_two min_two max_three min_three max_four min_four   -- for this text's walks alone
set_option linter.unusedVariables false
set_option linter.unusedSimpArgs false

/-! ### trellis_From: function 39 -/
def trellis_From.f (a0 : Int) : Option (Int × Int × Int × Int × Int × Int × Int × Int × Int × Int × Int × Int × Int × Int × Int) := (trellis_two.f a0 a0 0 1).bind fun bt140 => (some (bt140.1, bt140.2.1, bt140.2.2.1, bt140.2.2.2.1, bt140.2.2.2.2.1, bt140.2.2.2.2.2.1, bt140.2.2.2.2.2.2.1, bt140.2.2.2.2.2.2.2.1, bt140.2.2.2.2.2.2.2.2.1, bt140.2.2.2.2.2.2.2.2.2.1, bt140.2.2.2.2.2.2.2.2.2.2.1, bt140.2.2.2.2.2.2.2.2.2.2.2.1, bt140.2.2.2.2.2.2.2.2.2.2.2.2.1, bt140.2.2.2.2.2.2.2.2.2.2.2.2.2.1, bt140.2.2.2.2.2.2.2.2.2.2.2.2.2.2))
set_option maxHeartbeats 8000000 in
set_option maxRecDepth 100000 in
theorem trellis_From.calls (a0 : Int) (r1 : Int) (r2 : Int) (r3 : Int) (r4 : Int) (r5 : Int) (r6 : Int) (r7 : Int) (r8 : Int) (r9 : Int) (r10 : Int) (r11 : Int) (r12 : Int) (r13 : Int) (r14 : Int) (r15 : Int) (w : World) (h : trellis_From.f a0 = some (r1, r2, r3, r4, r5, r6, r7, r8, r9, r10, r11, r12, r13, r14, r15)) (hT_ : TP w := by first | assumption | exact TP_of (by assumption : TP _) (by repeat (first | (with_reducible first | apply below_alloc | apply pw_below_drewN | apply below_drew1 | refine below_set ?_ (Aside0.out (by assumption))) | exact Aside0.out (by assumption) | exact Below.refl _ _))) :
    Calls Tryd.prog 39 #[.int .i64 a0] w fun e w' => e = .returned (.tuple #[.agg #[.int .i64 r1, .int .i64 r2, .int .u8 r3, .int .u8 r4, .int .u8 r5, .int .u8 r6, .int .u8 r7, .int .i64 r8, .int .i64 r9, .int .u8 r10, .int .u8 r11, .int .u8 r12, .int .u8 r13, .int .u8 r14], .int .i64 r15]) ∧ Below w.heap.size w w' := by
  have hu78 := Tryd.underlying78
  have HB := Aside0.mk (Below.refl w.heap.size w)
  have H : ((trellis_two.f a0 a0 0 1).bind fun bt140 => (some (bt140.1, bt140.2.1, bt140.2.2.1, bt140.2.2.2.1, bt140.2.2.2.2.1, bt140.2.2.2.2.2.1, bt140.2.2.2.2.2.2.1, bt140.2.2.2.2.2.2.2.1, bt140.2.2.2.2.2.2.2.2.1, bt140.2.2.2.2.2.2.2.2.2.1, bt140.2.2.2.2.2.2.2.2.2.2.1, bt140.2.2.2.2.2.2.2.2.2.2.2.1, bt140.2.2.2.2.2.2.2.2.2.2.2.2.1, bt140.2.2.2.2.2.2.2.2.2.2.2.2.2.1, bt140.2.2.2.2.2.2.2.2.2.2.2.2.2.2))) = some (r1, r2, r3, r4, r5, r6, r7, r8, r9, r10, r11, r12, r13, r14, r15) := h
  clear h
  replace H := Option.bind_eq_some_iff.mp H
  obtain ⟨⟨t140, t141, t142, t143, t144, t145, t146, t147, t148, t149, t150, t151, t152, t153, t154⟩, A20, H⟩ := H
  replace H : (some (t140, t141, t142, t143, t144, t145, t146, t147, t148, t149, t150, t151, t152, t153, t154)) = some (r1, r2, r3, r4, r5, r6, r7, r8, r9, r10, r11, r12, r13, r14, r15) := H
  have A2 := Aside0.mk A20
  clear A20
  simp only [Option.some.injEq, Prod.mk.injEq] at H
  obtain ⟨rfl, rfl, rfl, rfl, rfl, rfl, rfl, rfl, rfl, rfl, rfl, rfl, rfl, rfl, rfl⟩ := H
  go_enter Tryd.func39, Tryd.ntmps39
  go_wp2_with (first | ((with_reducible refine gate_dst (N := 2) rfl ?_); refine box_event ?hg (N := 2) ?hd (cs := #[.int .i64 0, .int .i64 0, .int .u8 0, .int .u8 0, .int .u8 0, .int .u8 0, .int .u8 0, .int .i64 0, .int .i64 0, .int .u8 0, .int .u8 0, .int .u8 0, .int .u8 0, .int .u8 0]) (t := 78) ?hr ?_; (case hd => rfl); (case hg => rfl); (case hr => first | (go_simp; done) | (go_simp; rfl)); intro gb139 hg w3 hbox hb; have n0_ := Aside0.mk (below_step (by repeat (first | (with_reducible first | exact HB.out | apply below_alloc | apply pw_below_drewN | apply below_drew1) | exact HB.out)) hb); have n1_ := Aside0.mk (hbox); have n2_ := Aside0.mk ((by rw [hg]; exact (below_size (by repeat (first | (with_reducible first | exact HB.out | apply below_alloc | apply pw_below_drewN | apply below_drew1) | exact HB.out))) : w.heap.size ≤ gb139)); have n3_ := Aside0.mk ((by rw [hg]; exact (below_size (by repeat (first | (with_reducible first | exact HB.out | apply below_alloc | apply pw_below_drewN | apply below_drew1) | exact HB.out))) : w.heap.size ≤ gb139)); clear HB; have HB := n0_; have BK139 := n1_; have GW139 := n2_; have GE139 := n3_; clear n0_ n1_ n2_ n3_; clear hb hbox hg) | ((with_reducible refine gate_callee (f := 47) rfl ?_); refine goesL_ (some 6) rfl rfl Tryd.func47 (by kernel_rfl) rfl #[.int .i64 a0, .int .i64 a0, .int .u8 0, .int .u8 1] rfl (by (try simp only [List.map_toArray, List.map_cons, List.map_nil]); first | done | rfl | (simp only [List.length_drop, List.length_take]; rfl)) ?_; (with_reducible refine (trellis_two.calls a0 a0 0 1 t140 t141 t142 t143 t144 t145 t146 t147 t148 t149 t150 t151 t152 t153 t154 _ A2.out).mono ?_); rintro e w4 ⟨rfl, hb⟩; refine ⟨_, rfl, ?_⟩; have n0_ := Aside0.mk (blk_below (g := gb139) (o := .cells #[.int .i64 0, .int .i64 0, .int .u8 0, .int .u8 0, .int .u8 0, .int .u8 0, .int .u8 0, .int .i64 0, .int .i64 0, .int .u8 0, .int .u8 0, .int .u8 0, .int .u8 0, .int .u8 0] 78 (0, 0)) (by (with_reducible repeat (first | refine blk_drewN ?_ _ | refine blk_drew ?_ | refine blk_alloc ?_ _)); exact BK139.out) hb); have n1_ := Aside0.mk (below_step (by repeat (first | (with_reducible first | exact HB.out | apply below_alloc | apply pw_below_drewN | apply below_drew1 | refine below_set ?_ GE139.out) | exact HB.out)) hb); clear BK139; clear HB; have BK139 := n0_; have HB := n1_; clear n0_ n1_; (try clear hb); (try clear hb2); (try clear hk); (try clear hi); have hcz5_0 : w4.cell? ⟨gb139, 0, none⟩ = some (.int .i64 0) := (blk_cell BK139.out 0).trans rfl; have hcz5_1 : w4.cell? ⟨gb139, 1, none⟩ = some (.int .i64 0) := (blk_cell BK139.out 1).trans rfl; have hcz5_2 : w4.cell? ⟨gb139, 2, none⟩ = some (.int .u8 0) := (blk_cell BK139.out 2).trans rfl; have hcz5_3 : w4.cell? ⟨gb139, 3, none⟩ = some (.int .u8 0) := (blk_cell BK139.out 3).trans rfl; have hcz5_4 : w4.cell? ⟨gb139, 4, none⟩ = some (.int .u8 0) := (blk_cell BK139.out 4).trans rfl; have hcz5_5 : w4.cell? ⟨gb139, 5, none⟩ = some (.int .u8 0) := (blk_cell BK139.out 5).trans rfl; have hcz5_6 : w4.cell? ⟨gb139, 6, none⟩ = some (.int .u8 0) := (blk_cell BK139.out 6).trans rfl; have hcz5_7 : w4.cell? ⟨gb139, 7, none⟩ = some (.int .i64 0) := (blk_cell BK139.out 7).trans rfl; have hcz5_8 : w4.cell? ⟨gb139, 8, none⟩ = some (.int .i64 0) := (blk_cell BK139.out 8).trans rfl; have hcz5_9 : w4.cell? ⟨gb139, 9, none⟩ = some (.int .u8 0) := (blk_cell BK139.out 9).trans rfl; have hcz5_10 : w4.cell? ⟨gb139, 10, none⟩ = some (.int .u8 0) := (blk_cell BK139.out 10).trans rfl; have hcz5_11 : w4.cell? ⟨gb139, 11, none⟩ = some (.int .u8 0) := (blk_cell BK139.out 11).trans rfl; have hcz5_12 : w4.cell? ⟨gb139, 12, none⟩ = some (.int .u8 0) := (blk_cell BK139.out 12).trans rfl; have hcz5_13 : w4.cell? ⟨gb139, 13, none⟩ = some (.int .u8 0) := (blk_cell BK139.out 13).trans rfl; have hfz5_0 := blk_frozen BK139.out 0; have hfz5_1 := blk_frozen BK139.out 1; have hfz5_2 := blk_frozen BK139.out 2; have hfz5_3 := blk_frozen BK139.out 3; have hfz5_4 := blk_frozen BK139.out 4; have hfz5_5 := blk_frozen BK139.out 5; have hfz5_6 := blk_frozen BK139.out 6; have hfz5_7 := blk_frozen BK139.out 7; have hfz5_8 := blk_frozen BK139.out 8; have hfz5_9 := blk_frozen BK139.out 9; have hfz5_10 := blk_frozen BK139.out 10; have hfz5_11 := blk_frozen BK139.out 11; have hfz5_12 := blk_frozen BK139.out 12; have hfz5_13 := blk_frozen BK139.out 13))
  refine bodyPost_ret (results_ct rfl _ _ gb139 78 #[.int .i64 t140, .int .i64 t141, .int .u8 t142, .int .u8 t143, .int .u8 t144, .int .u8 t145, .int .u8 t146, .int .i64 t147, .int .i64 t148, .int .u8 t149, .int .u8 t150, .int .u8 t151, .int .u8 t152, .int .u8 t153] (0, 0) _ rfl (by (with_reducible repeat (first | refine blk_drewN ?_ _ | refine blk_drew ?_ | refine blk_alloc ?_ _)); refine blk_put (cs := #[.int .i64 t140, .int .i64 t141, .int .u8 t142, .int .u8 t143, .int .u8 t144, .int .u8 t145, .int .u8 t146, .int .i64 t147, .int .i64 t148, .int .u8 t149, .int .u8 t150, .int .u8 t151, .int .u8 t152, .int .u8 0]) ?_ 13 _ rfl; (with_reducible repeat (first | refine blk_drewN ?_ _ | refine blk_drew ?_ | refine blk_alloc ?_ _)); refine blk_put (cs := #[.int .i64 t140, .int .i64 t141, .int .u8 t142, .int .u8 t143, .int .u8 t144, .int .u8 t145, .int .u8 t146, .int .i64 t147, .int .i64 t148, .int .u8 t149, .int .u8 t150, .int .u8 t151, .int .u8 0, .int .u8 0]) ?_ 12 _ rfl; (with_reducible repeat (first | refine blk_drewN ?_ _ | refine blk_drew ?_ | refine blk_alloc ?_ _)); refine blk_put (cs := #[.int .i64 t140, .int .i64 t141, .int .u8 t142, .int .u8 t143, .int .u8 t144, .int .u8 t145, .int .u8 t146, .int .i64 t147, .int .i64 t148, .int .u8 t149, .int .u8 t150, .int .u8 0, .int .u8 0, .int .u8 0]) ?_ 11 _ rfl; (with_reducible repeat (first | refine blk_drewN ?_ _ | refine blk_drew ?_ | refine blk_alloc ?_ _)); refine blk_put (cs := #[.int .i64 t140, .int .i64 t141, .int .u8 t142, .int .u8 t143, .int .u8 t144, .int .u8 t145, .int .u8 t146, .int .i64 t147, .int .i64 t148, .int .u8 t149, .int .u8 0, .int .u8 0, .int .u8 0, .int .u8 0]) ?_ 10 _ rfl; (with_reducible repeat (first | refine blk_drewN ?_ _ | refine blk_drew ?_ | refine blk_alloc ?_ _)); refine blk_put (cs := #[.int .i64 t140, .int .i64 t141, .int .u8 t142, .int .u8 t143, .int .u8 t144, .int .u8 t145, .int .u8 t146, .int .i64 t147, .int .i64 t148, .int .u8 0, .int .u8 0, .int .u8 0, .int .u8 0, .int .u8 0]) ?_ 9 _ rfl; (with_reducible repeat (first | refine blk_drewN ?_ _ | refine blk_drew ?_ | refine blk_alloc ?_ _)); refine blk_put (cs := #[.int .i64 t140, .int .i64 t141, .int .u8 t142, .int .u8 t143, .int .u8 t144, .int .u8 t145, .int .u8 t146, .int .i64 t147, .int .i64 0, .int .u8 0, .int .u8 0, .int .u8 0, .int .u8 0, .int .u8 0]) ?_ 8 _ rfl; (with_reducible repeat (first | refine blk_drewN ?_ _ | refine blk_drew ?_ | refine blk_alloc ?_ _)); refine blk_put (cs := #[.int .i64 t140, .int .i64 t141, .int .u8 t142, .int .u8 t143, .int .u8 t144, .int .u8 t145, .int .u8 t146, .int .i64 0, .int .i64 0, .int .u8 0, .int .u8 0, .int .u8 0, .int .u8 0, .int .u8 0]) ?_ 7 _ rfl; (with_reducible repeat (first | refine blk_drewN ?_ _ | refine blk_drew ?_ | refine blk_alloc ?_ _)); refine blk_put (cs := #[.int .i64 t140, .int .i64 t141, .int .u8 t142, .int .u8 t143, .int .u8 t144, .int .u8 t145, .int .u8 0, .int .i64 0, .int .i64 0, .int .u8 0, .int .u8 0, .int .u8 0, .int .u8 0, .int .u8 0]) ?_ 6 _ rfl; (with_reducible repeat (first | refine blk_drewN ?_ _ | refine blk_drew ?_ | refine blk_alloc ?_ _)); refine blk_put (cs := #[.int .i64 t140, .int .i64 t141, .int .u8 t142, .int .u8 t143, .int .u8 t144, .int .u8 0, .int .u8 0, .int .i64 0, .int .i64 0, .int .u8 0, .int .u8 0, .int .u8 0, .int .u8 0, .int .u8 0]) ?_ 5 _ rfl; (with_reducible repeat (first | refine blk_drewN ?_ _ | refine blk_drew ?_ | refine blk_alloc ?_ _)); refine blk_put (cs := #[.int .i64 t140, .int .i64 t141, .int .u8 t142, .int .u8 t143, .int .u8 0, .int .u8 0, .int .u8 0, .int .i64 0, .int .i64 0, .int .u8 0, .int .u8 0, .int .u8 0, .int .u8 0, .int .u8 0]) ?_ 4 _ rfl; (with_reducible repeat (first | refine blk_drewN ?_ _ | refine blk_drew ?_ | refine blk_alloc ?_ _)); refine blk_put (cs := #[.int .i64 t140, .int .i64 t141, .int .u8 t142, .int .u8 0, .int .u8 0, .int .u8 0, .int .u8 0, .int .i64 0, .int .i64 0, .int .u8 0, .int .u8 0, .int .u8 0, .int .u8 0, .int .u8 0]) ?_ 3 _ rfl; (with_reducible repeat (first | refine blk_drewN ?_ _ | refine blk_drew ?_ | refine blk_alloc ?_ _)); refine blk_put (cs := #[.int .i64 t140, .int .i64 t141, .int .u8 0, .int .u8 0, .int .u8 0, .int .u8 0, .int .u8 0, .int .i64 0, .int .i64 0, .int .u8 0, .int .u8 0, .int .u8 0, .int .u8 0, .int .u8 0]) ?_ 2 _ rfl; (with_reducible repeat (first | refine blk_drewN ?_ _ | refine blk_drew ?_ | refine blk_alloc ?_ _)); refine blk_put (cs := #[.int .i64 t140, .int .i64 0, .int .u8 0, .int .u8 0, .int .u8 0, .int .u8 0, .int .u8 0, .int .i64 0, .int .i64 0, .int .u8 0, .int .u8 0, .int .u8 0, .int .u8 0, .int .u8 0]) ?_ 1 _ rfl; (with_reducible repeat (first | refine blk_drewN ?_ _ | refine blk_drew ?_ | refine blk_alloc ?_ _)); refine blk_put (cs := #[.int .i64 0, .int .i64 0, .int .u8 0, .int .u8 0, .int .u8 0, .int .u8 0, .int .u8 0, .int .i64 0, .int .i64 0, .int .u8 0, .int .u8 0, .int .u8 0, .int .u8 0, .int .u8 0]) ?_ 0 _ rfl; (with_reducible repeat (first | refine blk_drewN ?_ _ | refine blk_drew ?_ | refine blk_alloc ?_ _)); exact BK139.out) Tryd.underlying78 rfl (by kernel_rfl)) rfl ?_
  exact ⟨by first | rfl | (simp [errW_none, errW_some] <;> rfl) | (simp [*, errW_none, errW_some] <;> rfl), by repeat (first | (with_reducible first | exact HB.out | apply below_alloc | apply pw_below_drewN | apply below_drew1 | refine below_set ?_ GE139.out) | exact HB.out)⟩

end Go.Proofs.YtijpnlmejphfhaaDoor.P

-- YtijpnlmejphfhaaDoorP17
namespace Go.Proofs.YtijpnlmejphfhaaDoor.P
open Go.RowKit Go.Proofs.YtijpnlmejphfhaaDoorW.PrintWords Go.Proofs.YtijpnlmejphfhaaDoorW.PrintLast Go.Proofs.YtijpnlmejphfhaaDoorW.PrintMore
attribute [local go_sem] max2_int min2_int max_two min_two max_three min_three max_four min_four   -- for this text's walks alone
set_option linter.unusedVariables false
set_option linter.unusedSimpArgs false

/-! ### pattern_one: function 53 -/
def pattern_one.f (a0 : Int) (a1 : Int) : Option (Bool) := if a0 ≥ 0 then (if a0 < 4 then (some (decide (a1 ≥ 0))) else (some false)) else (some false)
set_option maxHeartbeats 8000000 in
set_option maxRecDepth 100000 in
theorem pattern_one.calls (a0 : Int) (a1 : Int) (r : Bool) (w : World) (h : pattern_one.f a0 a1 = some r) :
    Calls Tryd.prog 53 #[.int .i64 a0, .int .i64 a1] w fun e w' => e = .returned (.bool r) ∧ Drawn0 w w' := by
  have H : (if a0 ≥ 0 then (if a0 < 4 then (some (decide (a1 ≥ 0))) else (some false)) else (some false)) = some r := h
  clear h
  by_cases c3 : a0 ≥ 0
  · rw [if_pos c3] at H
    have c3b0 : decide (0 ≤ a0) = true := decide_eq_true c3
    clear c3
    by_cases c4 : a0 < 4
    · rw [if_pos c4] at H
      have c4b0 : decide (a0 < 4) = true := decide_eq_true c4
      clear c4
      obtain rfl := Option.some.inj H
      go_enter Tryd.func53, Tryd.ntmps53
      go_wp2
      go_ret
      exact ⟨by first | rfl | (simp; done) | (simp [*]; done), by repeat (first | exact Drawn0.refl _ | apply Drawn0.step)⟩
    · rw [if_neg c4] at H
      have c4b0 : decide (a0 < 4) = false := decide_eq_false c4
      clear c4
      obtain rfl := Option.some.inj H
      go_enter Tryd.func53, Tryd.ntmps53
      go_wp2
      go_ret
      exact ⟨by first | rfl | (simp; done) | (simp [*]; done), by repeat (first | exact Drawn0.refl _ | apply Drawn0.step)⟩
  · rw [if_neg c3] at H
    have c3b0 : decide (0 ≤ a0) = false := decide_eq_false c3
    clear c3
    obtain rfl := Option.some.inj H
    go_enter Tryd.func53, Tryd.ntmps53
    go_wp2
    go_ret
    exact ⟨by first | rfl | (simp; done) | (simp [*]; done), by repeat (first | exact Drawn0.refl _ | apply Drawn0.step)⟩

end Go.Proofs.YtijpnlmejphfhaaDoor.P

-- YtijpnlmejphfhaaDoorP18
namespace Go.Proofs.YtijpnlmejphfhaaDoor.P
open Go.RowKit Go.Proofs.YtijpnlmejphfhaaDoorW.PrintWords Go.Proofs.YtijpnlmejphfhaaDoorW.PrintLast Go.Proofs.YtijpnlmejphfhaaDoorW.PrintMore
attribute [local go_sem] max2_int min2_int max_two min_two max_three min_three max_four min_four   -- for this text's walks alone
set_option linter.unusedVariables false
set_option linter.unusedSimpArgs false

/-! ### pattern_Version: function 48 -/
def pattern_Version.f (a0 : Int) (a1 : Int) : Option (Int × Int) := (pattern_one.f a0 a1).bind fun t155 => (if t155 = true then (some (Int.tmod (wrap64 ((wrap64 (a0 + 4)) - (Int.tmod a1 4))) 4, 0)) else (some (0, 1)))
set_option maxHeartbeats 8000000 in
set_option maxRecDepth 100000 in
theorem pattern_Version.calls (a0 : Int) (a1 : Int) (r1 : Int) (r2 : Int) (w : World) (h : pattern_Version.f a0 a1 = some (r1, r2)) :
    Calls Tryd.prog 48 #[.int .i64 a0, .int .i64 a1] w fun e w' => e = .returned (.tuple #[.int .i64 r1, .int .i64 r2]) ∧ Drawn0 w w' := by
  have H : ((pattern_one.f a0 a1).bind fun t155 => (if t155 = true then (some (Int.tmod (wrap64 ((wrap64 (a0 + 4)) - (Int.tmod a1 4))) 4, 0)) else (some (0, 1)))) = some (r1, r2) := h
  clear h
  replace H := Option.bind_eq_some_iff.mp H
  obtain ⟨t155, A30, H⟩ := H
  replace H : (if t155 = true then (some (Int.tmod (wrap64 ((wrap64 (a0 + 4)) - (Int.tmod a1 4))) 4, 0)) else (some (0, 1))) = some (r1, r2) := H
  have A3 := Aside0.mk A30
  clear A30
  by_cases c4 : t155 = true
  · subst c4
    have H1 : (some (Int.tmod (wrap64 ((wrap64 (a0 + 4)) - (Int.tmod a1 4))) 4, 0)) = some (r1, r2) := by rw [if_pos rfl] at H; exact H
    clear H
    have H := H1
    clear H1
    simp only [Option.some.injEq, Prod.mk.injEq] at H
    obtain ⟨rfl, rfl⟩ := H
    go_enter Tryd.func48, Tryd.ntmps48
    go_wp2_with (first | ((with_reducible refine gate_callee (f := 53) rfl ?_); refine goesL_ (some 8) rfl rfl Tryd.func53 (by kernel_rfl) rfl #[.int .i64 a0, .int .i64 a1] rfl (by (try simp only [List.map_toArray, List.map_cons, List.map_nil]); first | done | rfl | (simp only [List.length_drop, List.length_take]; rfl)) ?_; (with_reducible refine (pattern_one.calls a0 a1 true _ A3.out).mono ?_); rintro e w' ⟨rfl, ⟨nd, rfl⟩⟩; refine ⟨_, rfl, ?_⟩))
    go_ret2
    exact ⟨by first | rfl | (simp; done) | (simp [*]; done), by repeat (first | exact Drawn0.refl _ | apply Drawn0.step)⟩
  · replace c4 := Bool.eq_false_iff.mpr c4
    subst c4
    have H1 : (some (0, 1)) = some (r1, r2) := by rw [if_neg (show ¬ (false = true) by decide)] at H; exact H
    clear H
    have H := H1
    clear H1
    simp only [Option.some.injEq, Prod.mk.injEq] at H
    obtain ⟨rfl, rfl⟩ := H
    go_enter Tryd.func48, Tryd.ntmps48
    go_wp2_with (first | ((with_reducible refine gate_callee (f := 53) rfl ?_); refine goesL_ (some 8) rfl rfl Tryd.func53 (by kernel_rfl) rfl #[.int .i64 a0, .int .i64 a1] rfl (by (try simp only [List.map_toArray, List.map_cons, List.map_nil]); first | done | rfl | (simp only [List.length_drop, List.length_take]; rfl)) ?_; (with_reducible refine (pattern_one.calls a0 a1 false _ A3.out).mono ?_); rintro e w' ⟨rfl, ⟨nd, rfl⟩⟩; refine ⟨_, rfl, ?_⟩))
    go_ret2
    exact ⟨by first | rfl | (simp; done) | (simp [*]; done), by repeat (first | exact Drawn0.refl _ | apply Drawn0.step)⟩

end Go.Proofs.YtijpnlmejphfhaaDoor.P

-- YtijpnlmejphfhaaDoorPSWeigh
namespace Go.Proofs.YtijpnlmejphfhaaDoor.P
open Go Go.Proofs Go.RowKit Go.Proofs.YtijpnlmejphfhaaDoorW.PrintWords Go.Proofs.YtijpnlmejphfhaaDoorW.PrintLast Go.Proofs.YtijpnlmejphfhaaDoorW.PrintMore
set_option linter.unusedVariables false
set_option linter.unusedSimpArgs false


attribute [local go_sem] run_index_arr
/-- In which version a stream stands. -/
def ver (s t : Nat) : Nat := (s + 4 - t % 4) % 4
theorem ver_lt (s t : Nat) : ver s t < 4 := Nat.mod_lt _ (by decide)
theorem version_f (s t : Nat) (hs : s < 4) (ht : t ≤ 100000) : pattern_Version.f (s : Int) (t : Int) = some (((ver s t : Nat) : Int), 0) := by
  unfold pattern_Version.f pattern_one.f
  have h1 : (decide ((s : Int) ≥ 0)) = true := decide_eq_true (by omega)
  have h2 : (decide ((s : Int) < 4)) = true := decide_eq_true (by omega)
  have h3 : (decide ((t : Int) ≥ 0)) = true := decide_eq_true (by omega)
  simp [h1, h2, h3]
  have e : Int.tmod (t : Int) 4 = ((t % 4 : Nat) : Int) := by rw [Int.tmod_eq_emod_of_nonneg (by omega)]; omega
  rw [if_pos (by omega), e]
  have e2 : wrap64 (wrap64 ((s : Int) + 4) - ((t % 4 : Nat) : Int)) = ((s + 4 - t % 4 : Nat) : Int) := by unfold wrap64; omega
  rw [e2, Int.tmod_eq_emod_of_nonneg (by omega)]
  unfold ver
  simp
/-- What some bits weigh, stream by stream. -/
def wsum (W : Nat → Int) (o : Nat → Int) (t : Nat) : Nat → Int
  | 0 => 0
  | j + 1 => wsum W o t j + o j * W (ver j t)
theorem wsum_in {W o : Nat → Int} (hW : ∀ v, v < 4 → 0 ≤ W v ∧ W v ≤ 7) (ho : ∀ s, o s = 0 ∨ o s = 1) (t : Nat) : ∀ j : Nat, 0 ≤ wsum W o t j ∧ wsum W o t j ≤ 7 * (j : Int)
  | 0 => by simp [wsum]
  | j + 1 => by
    have h := wsum_in hW ho t j
    have hv := hW _ (ver_lt j t)
    unfold wsum
    rcases ho j with e | e <;> rw [e] <;> omega
def o4 (a b c d : Int) : Nat → Int
  | 0 => a
  | 1 => b
  | 2 => c
  | _ => d
set_option maxRecDepth 100000 in
set_option maxHeartbeats 8000000 in
theorem weigh_calls {w : World} {g : Nat} {W : Nat → Int} (hgl : g < w.heap.size) (hW : ∀ v, v < 4 → w.cell? ⟨g, v, none⟩ = some (.int .i64 (W v))) (hWb : ∀ v, v < 4 → 0 ≤ W v ∧ W v ≤ 7) (fr dt i a b c d : Int)
    (ho : ∀ s, o4 a b c d s = 0 ∨ o4 a b c d s = 1) (t : Nat) (ht : t ≤ 100000) :
    Calls Tryd.prog 41 #[.pointer (some ⟨g, 0, none⟩), .agg #[.int .i64 fr, .int .i64 dt, .int .u8 i, .int .u8 a, .int .u8 b, .int .u8 c, .int .u8 d], .int .i64 (t : Int)] w fun e w' =>
      e = .returned (.int .i64 (wsum W (o4 a b c d) t 4)) ∧ Below w.heap.size w w' := by
  have HW := Aside0.mk hW
  have HWB := Aside0.mk hWb
  have HO := Aside0.mk ho
  clear hW hWb ho
  have hba := below_alloc (Below.refl w.heap.size w) (.cells #[.int .i64 fr, .int .i64 dt, .int .u8 i, .int .u8 a, .int .u8 b, .int .u8 c, .int .u8 d] 77)
  have HBA := Aside0.mk hba
  clear hba
  go_enter Tryd.func41, Tryd.ntmps41
  go_wp2_with fail
  go_loopw [7, 14] (fun v7 v14 wr => ∃ j : Nat, v7 = .int .i64 (wsum W (o4 a b c d) t j) ∧ v14 = .int .i64 (j : Int) ∧ j ≤ 4 ∧ Aside0 (Below w.heap.size w wr)) (fun _ v14 _ => 4 - (intOf v14).toNat)
  case atStart => exact ⟨0, rfl, by simp, by omega, HBA⟩
  case round =>
    clear HBA
    obtain ⟨j, rfl, rfl, hj, HB⟩ := hrel
    have hcase : j = 0 ∨ j = 1 ∨ j = 2 ∨ j = 3 ∨ j = 4 := by omega
    rcases hcase with rfl | rfl | rfl | rfl | rfl
    · skip
      skip
      have hvf := version_f 0 t (by decide) ht
      have hc := pattern_Version.calls (0 : Int) (t : Int) _ 0 wr hvf
      have hlt4 : ((ver 0 t : Nat) : Int) < 4 := by have := ver_lt 0 t; omega
      obtain ⟨v, hv⟩ : ∃ v, v = ver 0 t := ⟨_, rfl⟩
      rw [← hv] at hc hlt4
      have hcw : wr.cell? ⟨g, v, none⟩ = some (.int .i64 (W v)) := (HB.out.cell (p := ⟨g, v, none⟩) hgl).trans (HW.out v (by omega))
      have hWv := (HWB.out v (by omega))
      have hob : o4 a b c d 0 = 0 ∨ o4 a b c d 0 = 1 := HO.out 0
      have hin := wsum_in HWB.out HO.out t 0
      have hsu : wsum W (o4 a b c d) t (0 + 1) = wsum W (o4 a b c d) t 0 + a * W v := by rw [hv]; rfl
      have hob2 : a = 0 ∨ a = 1 := hob
      obtain ⟨y, hy⟩ : ∃ y, y = W v := ⟨_, rfl⟩
      rw [← hy] at hcw hWv hsu
      obtain ⟨p, hp⟩ : ∃ p, a * y = p := ⟨_, rfl⟩
      have hpb : 0 ≤ p ∧ p ≤ 7 := by rcases hob2 with e | e <;> rw [e] at hp <;> omega
      rw [hp] at hsu
      obtain ⟨n0, hn0⟩ : ∃ n0, n0 = wsum W (o4 a b c d) t 0 := ⟨_, rfl⟩
      rw [← hn0] at hsu hin
      have hwp : wrap64 p = p := by unfold wrap64; omega
      have hwn : wrap64 (n0 + p) = n0 + p := by unfold wrap64; omega
      have hcv : IntKind.i64.wrap a = a := by rw [IntKind.wrap_i64]; omega
      have HSU := Aside0.mk hsu
      have HC := Aside0.mk hc
      rw [← hn0]
      clear hvf hc hv hy hob hin hob2 hsu hn0 hWv hpb
      go_wp2_with (first | (go_at_call 48; refine HC.out.mono ?_; rintro e w2 ⟨rfl, hd⟩; have HB2 := Aside0.mk (below_step HB.out hd.below); have hcw2 := (hd.below.cell (p := ⟨g, v, none⟩) (Nat.lt_of_lt_of_le hgl HB.out.size)).trans hcw; clear hd hcw) | fail)
      go_roundw
      case rel => exact ⟨0 + 1, by rw [HSU.out]; first | rfl | rw [hwn], by simp, by omega, HB2⟩
      case measure => simp [intOf]
    · skip
      skip
      have hvf := version_f 1 t (by decide) ht
      have hc := pattern_Version.calls (1 : Int) (t : Int) _ 0 wr hvf
      have hlt4 : ((ver 1 t : Nat) : Int) < 4 := by have := ver_lt 1 t; omega
      obtain ⟨v, hv⟩ : ∃ v, v = ver 1 t := ⟨_, rfl⟩
      rw [← hv] at hc hlt4
      have hcw : wr.cell? ⟨g, v, none⟩ = some (.int .i64 (W v)) := (HB.out.cell (p := ⟨g, v, none⟩) hgl).trans (HW.out v (by omega))
      have hWv := (HWB.out v (by omega))
      have hob : o4 a b c d 1 = 0 ∨ o4 a b c d 1 = 1 := HO.out 1
      have hin := wsum_in HWB.out HO.out t 1
      have hsu : wsum W (o4 a b c d) t (1 + 1) = wsum W (o4 a b c d) t 1 + b * W v := by rw [hv]; rfl
      have hob2 : b = 0 ∨ b = 1 := hob
      obtain ⟨y, hy⟩ : ∃ y, y = W v := ⟨_, rfl⟩
      rw [← hy] at hcw hWv hsu
      obtain ⟨p, hp⟩ : ∃ p, b * y = p := ⟨_, rfl⟩
      have hpb : 0 ≤ p ∧ p ≤ 7 := by rcases hob2 with e | e <;> rw [e] at hp <;> omega
      rw [hp] at hsu
      obtain ⟨n0, hn0⟩ : ∃ n0, n0 = wsum W (o4 a b c d) t 1 := ⟨_, rfl⟩
      rw [← hn0] at hsu hin
      have hwp : wrap64 p = p := by unfold wrap64; omega
      have hwn : wrap64 (n0 + p) = n0 + p := by unfold wrap64; omega
      have hcv : IntKind.i64.wrap b = b := by rw [IntKind.wrap_i64]; omega
      have HSU := Aside0.mk hsu
      have HC := Aside0.mk hc
      rw [← hn0]
      clear hvf hc hv hy hob hin hob2 hsu hn0 hWv hpb
      go_wp2_with (first | (go_at_call 48; refine HC.out.mono ?_; rintro e w2 ⟨rfl, hd⟩; have HB2 := Aside0.mk (below_step HB.out hd.below); have hcw2 := (hd.below.cell (p := ⟨g, v, none⟩) (Nat.lt_of_lt_of_le hgl HB.out.size)).trans hcw; clear hd hcw) | fail)
      go_roundw
      case rel => exact ⟨1 + 1, by rw [HSU.out]; first | rfl | rw [hwn], by simp, by omega, HB2⟩
      case measure => simp [intOf]
    · skip
      skip
      have hvf := version_f 2 t (by decide) ht
      have hc := pattern_Version.calls (2 : Int) (t : Int) _ 0 wr hvf
      have hlt4 : ((ver 2 t : Nat) : Int) < 4 := by have := ver_lt 2 t; omega
      obtain ⟨v, hv⟩ : ∃ v, v = ver 2 t := ⟨_, rfl⟩
      rw [← hv] at hc hlt4
      have hcw : wr.cell? ⟨g, v, none⟩ = some (.int .i64 (W v)) := (HB.out.cell (p := ⟨g, v, none⟩) hgl).trans (HW.out v (by omega))
      have hWv := (HWB.out v (by omega))
      have hob : o4 a b c d 2 = 0 ∨ o4 a b c d 2 = 1 := HO.out 2
      have hin := wsum_in HWB.out HO.out t 2
      have hsu : wsum W (o4 a b c d) t (2 + 1) = wsum W (o4 a b c d) t 2 + c * W v := by rw [hv]; rfl
      have hob2 : c = 0 ∨ c = 1 := hob
      obtain ⟨y, hy⟩ : ∃ y, y = W v := ⟨_, rfl⟩
      rw [← hy] at hcw hWv hsu
      obtain ⟨p, hp⟩ : ∃ p, c * y = p := ⟨_, rfl⟩
      have hpb : 0 ≤ p ∧ p ≤ 7 := by rcases hob2 with e | e <;> rw [e] at hp <;> omega
      rw [hp] at hsu
      obtain ⟨n0, hn0⟩ : ∃ n0, n0 = wsum W (o4 a b c d) t 2 := ⟨_, rfl⟩
      rw [← hn0] at hsu hin
      have hwp : wrap64 p = p := by unfold wrap64; omega
      have hwn : wrap64 (n0 + p) = n0 + p := by unfold wrap64; omega
      have hcv : IntKind.i64.wrap c = c := by rw [IntKind.wrap_i64]; omega
      have HSU := Aside0.mk hsu
      have HC := Aside0.mk hc
      rw [← hn0]
      clear hvf hc hv hy hob hin hob2 hsu hn0 hWv hpb
      go_wp2_with (first | (go_at_call 48; refine HC.out.mono ?_; rintro e w2 ⟨rfl, hd⟩; have HB2 := Aside0.mk (below_step HB.out hd.below); have hcw2 := (hd.below.cell (p := ⟨g, v, none⟩) (Nat.lt_of_lt_of_le hgl HB.out.size)).trans hcw; clear hd hcw) | fail)
      go_roundw
      case rel => exact ⟨2 + 1, by rw [HSU.out]; first | rfl | rw [hwn], by simp, by omega, HB2⟩
      case measure => simp [intOf]
    · skip
      skip
      have hvf := version_f 3 t (by decide) ht
      have hc := pattern_Version.calls (3 : Int) (t : Int) _ 0 wr hvf
      have hlt4 : ((ver 3 t : Nat) : Int) < 4 := by have := ver_lt 3 t; omega
      obtain ⟨v, hv⟩ : ∃ v, v = ver 3 t := ⟨_, rfl⟩
      rw [← hv] at hc hlt4
      have hcw : wr.cell? ⟨g, v, none⟩ = some (.int .i64 (W v)) := (HB.out.cell (p := ⟨g, v, none⟩) hgl).trans (HW.out v (by omega))
      have hWv := (HWB.out v (by omega))
      have hob : o4 a b c d 3 = 0 ∨ o4 a b c d 3 = 1 := HO.out 3
      have hin := wsum_in HWB.out HO.out t 3
      have hsu : wsum W (o4 a b c d) t (3 + 1) = wsum W (o4 a b c d) t 3 + d * W v := by rw [hv]; rfl
      have hob2 : d = 0 ∨ d = 1 := hob
      obtain ⟨y, hy⟩ : ∃ y, y = W v := ⟨_, rfl⟩
      rw [← hy] at hcw hWv hsu
      obtain ⟨p, hp⟩ : ∃ p, d * y = p := ⟨_, rfl⟩
      have hpb : 0 ≤ p ∧ p ≤ 7 := by rcases hob2 with e | e <;> rw [e] at hp <;> omega
      rw [hp] at hsu
      obtain ⟨n0, hn0⟩ : ∃ n0, n0 = wsum W (o4 a b c d) t 3 := ⟨_, rfl⟩
      rw [← hn0] at hsu hin
      have hwp : wrap64 p = p := by unfold wrap64; omega
      have hwn : wrap64 (n0 + p) = n0 + p := by unfold wrap64; omega
      have hcv : IntKind.i64.wrap d = d := by rw [IntKind.wrap_i64]; omega
      have HSU := Aside0.mk hsu
      have HC := Aside0.mk hc
      rw [← hn0]
      clear hvf hc hv hy hob hin hob2 hsu hn0 hWv hpb
      go_wp2_with (first | (go_at_call 48; refine HC.out.mono ?_; rintro e w2 ⟨rfl, hd⟩; have HB2 := Aside0.mk (below_step HB.out hd.below); have hcw2 := (hd.below.cell (p := ⟨g, v, none⟩) (Nat.lt_of_lt_of_le hgl HB.out.size)).trans hcw; clear hd hcw) | fail)
      go_roundw
      case rel => exact ⟨3 + 1, by rw [HSU.out]; first | rfl | rw [hwn], by simp, by omega, HB2⟩
      case measure => simp [intOf]
    · go_wp2_with fail
      go_ret
      exact ⟨by simp, HB.out⟩
end Go.Proofs.YtijpnlmejphfhaaDoor.P

-- YtijpnlmejphfhaaDoorPSEdge
namespace Go.Proofs.YtijpnlmejphfhaaDoor.P
open Go Go.Proofs Go.RowKit Go.Proofs.YtijpnlmejphfhaaDoorW.PrintWords Go.Proofs.YtijpnlmejphfhaaDoorW.PrintLast Go.Proofs.YtijpnlmejphfhaaDoorW.PrintMore
set_option linter.unusedVariables false

def par (n : Nat) : Nat := (n % 2 + n / 2 % 2 + n / 4 % 2 + n / 8 % 2 + n / 16 % 2 + n / 32 % 2 + n / 64 % 2) % 2
def tapN : Nat → Nat
  | 0 => 79
  | 1 => 87
  | 2 => 109
  | _ => 121
/-- What stream j tells of state s and bit i. -/
def ob (s i j : Nat) : Int := (par ((i * 64 + s) &&& tapN j) : Nat)
theorem ob_bit (s i j : Nat) : ob s i j = 0 ∨ ob s i j = 1 := by
  unfold ob par
  generalize (((i * 64 + s) &&& tapN j) % 2 + ((i * 64 + s) &&& tapN j) / 2 % 2 + ((i * 64 + s) &&& tapN j) / 4 % 2 + ((i * 64 + s) &&& tapN j) / 8 % 2 + ((i * 64 + s) &&& tapN j) / 16 % 2 + ((i * 64 + s) &&& tapN j) / 32 % 2 + ((i * 64 + s) &&& tapN j) / 64 % 2) = m
  omega
def outIs (n : Nat) : Bool := decide (conv_out.f (n : Int) = some (ob (n % 64) (n / 64) 0, ob (n % 64) (n / 64) 1, ob (n % 64) (n / 64) 2, ob (n % 64) (n / 64) 3))
theorem out_all : (List.range 128).all outIs = true := by decide +kernel
def wordIs (n : Nat) : Bool := decide (conv_word.f ((n % 64 : Nat) : Int) ((n / 64 : Nat) : Int) = some (n : Int))
theorem word_all : (List.range 128).all wordIs = true := by decide +kernel
theorem edge_f (s i : Nat) (hs : s < 64) (hi : i < 2) : trellis_edge.f (s : Int) (i : Int) = some ((s : Int), ((32 * i + s / 2 : Nat) : Int), (i : Int), ob s i 0, ob s i 1, ob s i 2, ob s i 3, 0) := by
  have hn : 64 * i + s < 128 := by omega
  have e1 := of_decide_eq_true (List.all_eq_true.1 out_all (64 * i + s) (List.mem_range.2 hn))
  have e2 := of_decide_eq_true (List.all_eq_true.1 word_all (64 * i + s) (List.mem_range.2 hn))
  have q1 : (64 * i + s) % 64 = s := by omega
  have q2 : (64 * i + s) / 64 = i := by omega
  rw [q1, q2] at e1 e2
  have e3 : conv_right.f (s : Int) (i : Int) = some true := by
    unfold conv_right.f
    rw [if_pos (by omega), if_pos (by omega), decide_eq_true (by omega)]
  have e4 : wrap64 (((64 * i + s : Nat) : Int) / 2) = ((32 * i + s / 2 : Nat) : Int) := by unfold wrap64; omega
  unfold trellis_edge.f conv_Out.f conv_Next.f
  rw [e3]
  simp only [Option.bind_some, if_true, e2, e1, e4]
theorem from_f (s : Nat) (h : s < 64) : trellis_From.f (s : Int) = some ((s : Int), ((s / 2 : Nat) : Int), 0, ob s 0 0, ob s 0 1, ob s 0 2, ob s 0 3, (s : Int), ((32 + s / 2 : Nat) : Int), 1, ob s 1 0, ob s 1 1, ob s 1 2, ob s 1 3, 0) := by
  have e0 := edge_f s 0 h (by decide)
  have e1 := edge_f s 1 h (by decide)
  have f0 : trellis_edge.f (s : Int) 0 = some ((s : Int), ((s / 2 : Nat) : Int), 0, ob s 0 0, ob s 0 1, ob s 0 2, ob s 0 3, 0) := by
    have q : (32 * 0 + s / 2 : Nat) = s / 2 := by omega
    rw [← q]; exact e0
  have f1 : trellis_edge.f (s : Int) 1 = some ((s : Int), ((32 + s / 2 : Nat) : Int), 1, ob s 1 0, ob s 1 1, ob s 1 2, ob s 1 3, 0) := by
    have q : (32 * 1 + s / 2 : Nat) = 32 + s / 2 := by omega
    rw [← q]; exact e1
  unfold trellis_From.f trellis_two.f
  rw [f0, f1]
  simp only [Option.bind_some, if_true]
theorem o4_ob (s i : Nat) : ∀ j, o4 (ob s i 0) (ob s i 1) (ob s i 2) (ob s i 3) j = 0 ∨ o4 (ob s i 0) (ob s i 1) (ob s i 2) (ob s i 3) j = 1 := by
  intro j
  match j with
  | 0 => exact ob_bit s i 0
  | 1 => exact ob_bit s i 1
  | 2 => exact ob_bit s i 2
  | j + 3 => exact ob_bit s i 3
/-- What the edge of state s and bit i weighs at a step. -/
def ew (W : Nat → Int) (s i t : Nat) : Int := wsum W (o4 (ob s i 0) (ob s i 1) (ob s i 2) (ob s i 3)) t 4
theorem ew_in {W : Nat → Int} (hW : ∀ v, v < 4 → 0 ≤ W v ∧ W v ≤ 7) (s i t : Nat) : 0 ≤ ew W s i t ∧ ew W s i t ≤ 28 := by
  have := wsum_in hW (o4_ob s i) t 4
  unfold ew; omega
end Go.Proofs.YtijpnlmejphfhaaDoor.P
