/- Texts of this seat, one behind the other (merge.py): the walks of the functions that the law ShuttleAcks uses, and plain words on what they come to. No condition. -/
import Derived.Test.YtnphphlincbgmaaDoorProg
import Derived.Test.YtnphphlincbgmaaDoorWWords
import Derived.Test.YtnphphlincbgmaaDoorWMore
import Derived.Lib.SlBytesConst
import Derived.Lib.SliceRun
import Derived.ChangeKeysEq
import Derived.Laws.Tables
import Derived.Laws.CopyOwn
import Derived.Below
import Derived.Deep.Draws
import Derived.Deep.AppendLies
import Derived.Maps.AppendAt
import Derived.OwnWalk
import Derived.Laws.BytesArg
import Derived.Laws.MakeOwn
import Derived.Laws.OwnMore
import Derived.Deep.OwnRows
import Derived.Tactics
import Derived.Lib.ConvBytes
import Derived.Laws.Slices
import Derived.WalkKit
import Derived.KernelRfl
import Derived.RowKit3
import Derived.Deep.LoopGhost
import Derived.Deep.QuietTactic
import Derived.BigQuiet
import Derived.WideLaws
import Derived.Deep.DeepCutAuto
import Derived.Deep.CutBlock
import Derived.Deep.RegionHeld3
import Derived.Laws.Rows
import Derived.Lib.AppendStr
import Derived.ArgAppend
import Derived.Laws.IdiomCopy
import Derived.OrdersHeld
import Derived.Laws.BitsLemmas
import Derived.RowKit
import Derived.Test.YtnphphlincbgmaaDoorWLast
import Derived.Test.YtnphphlincbgmaaDoorWTab
import Derived.Test.YtnphphlincbgmaaDoorWFour
import Derived.Test.YtnphphlincbgmaaDoorWQPut
import Derived.Test.YtnphphlincbgmaaDoorWApart
import Derived.Test.YtnphphlincbgmaaDoorWArr
import Derived.Test.YtnphphlincbgmaaDoorWZeros
import Derived.Test.YtnphphlincbgmaaDoorWFoot
import Derived.Test.YtnphphlincbgmaaDoorWKept
import Derived.Test.YtnphphlincbgmaaDoorWShare
import Derived.Test.YtnphphlincbgmaaDoorWN
import Derived.Test.YtnphphlincbgmaaDoorWFootNe
import Derived.Test.YtnphphlincbgmaaDoorWAt
import Derived.Test.YtnphphlincbgmaaDoorWEqStruct
import Derived.Test.YtnphphlincbgmaaDoorWRepsOne
import Derived.Test.YtnphphlincbgmaaDoorWInv
import Derived.Test.YtnphphlincbgmaaDoorWInvWords
import Derived.Test.YtnphphlincbgmaaDoorWGuard
import Derived.Test.YtnphphlincbgmaaDoorWNEv
import Derived.Laws.BitsAllLaws
import Derived.OpenShut
import Derived.RangeFuncNested
import Derived.RangeFuncBound
import Derived.RangeFuncCalls
import Derived.RangeFuncLeaves
import Derived.RangeFuncBox
import Derived.Shelf.Abstract
import Derived.OwnWalkIn
import Derived.TacticsInMore
import Derived.LoopNIn
import Derived.LoopIn
import Derived.Deep.DrawnRows
-- YtnphphlincbgmaaDoorPExtra
namespace Go.Proofs.YtnphphlincbgmaaDoor.P
open Go.RowKit Go.Proofs.YtnphphlincbgmaaDoorW.PrintWords Go.Proofs.YtnphphlincbgmaaDoorW.PrintMore

/-- A row that was laid as a literal (marked or not) reads as its numbers. -/
theorem const_reads (w : World) (e : TypeId) (k : IntKind) (xs : List Int) (C : Array Value) (fr : Nat × Nat) (hC : C = (nums k xs).toArray) (hx : xs.length ≤ 9223372036854775807) :
    Kd.C (Kd.int k) (w.alloc (.cells C e fr)) (some ⟨w.heap.size, 0, none⟩) xs.length xs := by
  subst hC
  refine Kd.C_of_reads (d := (0 : Int)) (h1 := fun _ => rfl) ⟨rfl, hx, fun _ => ⟨_, rfl, fun j hj => ?_⟩⟩
  rw [add_plain, World.cell?_alloc_mark w _ e fr j]
  simp [nums, List.getD_eq_getElem?_getD, List.getElem?_eq_getElem hj]
/-- A region that draws its order stands here (a cheap look ahead of a dear step). -/
theorem gate_quiet {P : Program} {n : Nat} {ops : Array Oper} {Q : Exit → Act → World → Prop} {a : Act} {w : World} (h : Code.wp P (.region n ops true) Q a w) : Code.wp P (.region n ops true) Q a w := h
theorem reads_len {α : Type} {R : α → List Value → Prop} {size : Nat} {w : World} {A : Option Addr} {n n' : Nat} {ps : List α} (e : n = n') (h : ReadsRow R size w A n ps) : ReadsRow R size w A n' ps := e ▸ h
theorem nil_of_none {α : Type} {d : Kd α} {w : World} {l : List α} (h : Kd.C d w none l.length l) : l = [] := by
  cases l with
  | nil => rfl
  | cons x xs =>
    obtain ⟨_, _, h3⟩ := h
    obtain ⟨ad, e, _⟩ := h3 (by simp)
    cases e

section
variable {P : Program} {d : Nat} {xs ys : Array Value} {e c n i : Nat} {is : List Nat} {a b : Value} {r s : Bool} {w : World}
/-- '==' of arrays, element by element. -/
theorem eqi_last (ha : (part e xs (i * c)).run P w = .ok a w) (hb : (part e ys (i * c)).run P w = .ok b w) (he : (Op.equalIn d e a b).run P w = .ok r w) : (Op.eqItems d e c xs ys [i]).run P w = .ok r w := by
  simp only [Op.eqItems, Sem.run_bind, ha, hb, he, Result.andThen_ok]
  cases r <;> simp
theorem eqi_cons (ha : (part e xs (i * c)).run P w = .ok a w) (hb : (part e ys (i * c)).run P w = .ok b w) (he : (Op.equalIn d e a b).run P w = .ok r w) (hr : (Op.eqItems d e c xs ys is).run P w = .ok s w) : (Op.eqItems d e c xs ys (i :: is)).run P w = .ok (r && s) w := by
  rw [Op.eqItems]
  simp only [Sem.run_bind, ha, hb, he, Result.andThen_ok]
  cases r
  · simp
  · simpa using hr
theorem eqAr_of {t : TypeId} (hu : P.underlying t = some (.array n e)) (hi : (P.info? e).isSome = true) (hc : P.cellsOf e = c) (his : List.range n = is) (h : (Op.eqItems d e c xs ys is).run P w = .ok r w) : (Op.equalIn (d + 1) t (.agg xs) (.agg ys)).run P w = .ok r w := by
  obtain ⟨j, hj⟩ := Option.isSome_iff_exists.mp hi
  rw [run_equalIn_array w d xs ys hu hj, hc, his]
  exact h
end

/-- 'a[i]' of an array by value. -/
theorem run_index_arr {P : Program} (w : World) (t : TypeId) (cs : Array Value) (k : IntKind) (i : Int) (h : P.underlying t = some (.array (P.arrayLen t) (P.elem t))) :
    (Instr.index t (.agg cs) (.int k i)).run P w = if 0 ≤ i ∧ i < P.arrayLen t then ((sizeOf (P.elem t)).run P w).andThen fun s w => (part (P.elem t) cs (i.toNat * s)).run P w else (boundsPanic k i (P.arrayLen t) .index).run P w := by
  by_cases hi : 0 ≤ i ∧ i < (P.arrayLen t : Int)
  · simp [Instr.index, run_underlying h, asIntOf, hi]
  · simp [Instr.index, run_underlying h, asIntOf, hi]
/-- A value built whose cells are known. -/
theorem wpList_build_to {P : Program} {ops : Array Oper} {rest : List Oper} {o : Oper} {a : Act} {w : World} {Q : Exit → Act → World → Prop} (hg : o.guard = none) (t : TypeId) (parts : Array (Nat × Operand)) (ho : o.op = .build t parts) (cells : Array Value)
    (hc : P.built t (parts.map fun (i, x) => (i, a.eval x)).toList = some cells) (h : wpList P ops Q rest (a.put o.dst (.agg cells)) w) : wpList P ops Q (o :: rest) a w :=
  wpList_build hg t parts ho (by rw [hc]; rfl) (by rw [hc]; exact h)
/-- An array's cells, read as a row. -/
theorem C_of_blk {k : IntKind} {w : World} {g : Nat} {t : TypeId} {cs : Array Value} {xs : List Int} {n : Nat} (h : w.heap[g]? = some (.cells cs t (0, 0))) (hC : cs = (nums k xs).toArray) (hn : n = xs.length ∧ xs.length ≤ 9223372036854775807) :
    Kd.C (Kd.int k) w (some ⟨g, 0, none⟩) n xs := by
  subst hC
  obtain ⟨rfl, hx⟩ := hn
  refine Kd.C_of_reads (d := (0 : Int)) (h1 := fun _ => rfl) ⟨rfl, hx, fun _ => ⟨_, rfl, fun j hj => ?_⟩⟩
  rw [add_plain, blk_cell h]
  simp [nums, List.getD_eq_getElem?_getD, List.getElem?_eq_getElem hj]
/-- What a listed table's cells hold (conv.taps: the first package-level variable). -/
structure TP (w : World) : Prop where
  c0 : w.cell? ⟨0, 0, none⟩ = some (.int .u64 79)
  c1 : w.cell? ⟨0, 1, none⟩ = some (.int .u64 87)
  c2 : w.cell? ⟨0, 2, none⟩ = some (.int .u64 109)
  c3 : w.cell? ⟨0, 3, none⟩ = some (.int .u64 121)
theorem TP.lt {w : World} (h : TP w) : 0 < w.heap.size := World.block_lt_of_cell? w _ h.c0
theorem TP_of {w w' : World} (h : TP w) (hb : Below w.heap.size w w') : TP w' :=
  have e : ∀ i, w'.cell? ⟨0, i, none⟩ = w.cell? ⟨0, i, none⟩ := fun _ => hb.cell h.lt
  ⟨(e 0).trans h.c0, (e 1).trans h.c1, (e 2).trans h.c2, (e 3).trans h.c3⟩

end Go.Proofs.YtnphphlincbgmaaDoor.P

-- YtnphphlincbgmaaDoorP0
namespace Go.Proofs.YtnphphlincbgmaaDoor.P
open Go.RowKit Go.Proofs.YtnphphlincbgmaaDoorW.PrintWords Go.Proofs.YtnphphlincbgmaaDoorW.PrintLast Go.Proofs.YtnphphlincbgmaaDoorW.PrintMore
attribute [local go_sem] max2_int min2_int max_two min_two max_three min_three max_four min_four   -- for this text's walks alone
set_option linter.unusedVariables false
set_option linter.unusedSimpArgs false



def errW : Option Int → Value
  | none => .nilIface
  | some c => .iface 0 (.int .i64 c)
theorem errW_none : errW none = .nilIface := rfl
theorem errW_some (c : Int) : errW (some c) = .iface 0 (.int .i64 c) := rfl

theorem info5 : (Tryd.prog.info? 5).map (fun i => (i.zero, i.size, i.bytes)) = some (some (.int .u8 0), 1, 1) := by kernel_rfl
theorem info27 : (Tryd.prog.info? 27).map (fun i => (i.zero, i.size, i.bytes)) = some (some (.int .u16 0), 1, 2) := by kernel_rfl
-- the values' own types
def rd_L2 (xs : List (List Int)) (i : Int) : (List Int) := xs.getD i.toNat ([] : List Int)
theorem at_L2 {w : World} {A : Option Addr} {n : Nat} {xs : List (List Int)} (h : Kd.C (Kd.slice 5 (Kd.int .u8)) w A n xs) (i : Int) (h0 : 0 ≤ i) (h1 : i < n) : ∃ ad A0 c0, A = some ad ∧ w.cell? (ad.add i.toNat) = some (.slice A0 (rd_L2 xs i).length c0) ∧ (rd_L2 xs i).length ≤ c0 ∧ (Kd.int .u8).C w A0 (rd_L2 xs i).length (rd_L2 xs i) := by
  obtain ⟨ad, c, e, _, hK, hc0⟩ := Kd.C_get h ([] : List Int) i h0 h1
  have hc : ∀ j u, c[j]? = some u → w.cell? (ad.add (i.toNat * 1 + j)) = some u := hc0
  obtain ⟨A0, c0, rfl, l0, g0⟩ := hK
  exact ⟨ad, A0, c0, e, by have hq := hc 0 _ rfl; rwa [Nat.mul_one, Nat.add_zero] at hq, l0, g0⟩

/-! #### struct type 49 -/
structure S49 where
  f0 : Int
  f1 : Int
def z49 : S49 := ⟨(0 : Int), (0 : Int)⟩
def k49 : Kd S49 := Kd.iso (Kd.pair (Kd.int .i64) (Kd.int .i64)) (fun x : S49 => (x.f0, x.f1))
theorem k49_open {w : World} {x : S49} {cs : List Value} (h : k49.K w x cs) : cs = [.int .i64 x.f0, .int .i64 x.f1] := by
  obtain ⟨_, _, rfl, rfl, rfl⟩ := h
  exact rfl
theorem k49_openM {w : World} {base : Nat} {ok : Nat → Prop} {x : S49} {cs : List Value} (h : k49.M w base ok x cs) : cs = [.int .i64 x.f0, .int .i64 x.f1] := by
  obtain ⟨_, _, rfl, rfl, rfl⟩ := h
  exact rfl
theorem k49_mk (w : World) (x : S49)  : k49.K w x [.int .i64 x.f0, .int .i64 x.f1] := ⟨[.int .i64 x.f0], [.int .i64 x.f1], rfl, rfl, rfl⟩
theorem k49_mkM (w : World) (base : Nat) (ok : Nat → Prop) (x : S49)  : k49.M w base ok x [.int .i64 x.f0, .int .i64 x.f1] := ⟨[.int .i64 x.f0], [.int .i64 x.f1], rfl, rfl, rfl⟩
def rd_T49 (xs : List S49) (i : Int) : S49 := xs.getD i.toNat z49
theorem at_T49 {w : World} {A : Option Addr} {n : Nat} {xs : List S49} (h : Kd.C k49 w A n xs) (i : Int) (h0 : 0 ≤ i) (h1 : i < n) : ∃ ad , A = some ad ∧ w.cell? (ad.add (i.toNat * 2)) = some (.int .i64 (rd_T49 xs i).f0) ∧ w.cell? ⟨(ad.add (i.toNat * 2)).block, (ad.add (i.toNat * 2)).off + 1, none⟩ = some (.int .i64 (rd_T49 xs i).f1) := by
  obtain ⟨ad, c, e, _, hK, hc0⟩ := Kd.C_get h z49 i h0 h1
  have hc : ∀ j u, c[j]? = some u → w.cell? (ad.add (i.toNat * 2 + j)) = some u := hc0
  obtain rfl := k49_open hK
  exact ⟨ad, e, hc 0 _ rfl, by rw [← add_field _ _ 1 (by omega)]; exact hc 1 _ rfl⟩

end Go.Proofs.YtnphphlincbgmaaDoor.P

-- YtnphphlincbgmaaDoorPPlain
namespace Go.Proofs.YtnphphlincbgmaaDoor.P
open Go.RowKit Go.Proofs.YtnphphlincbgmaaDoorW.PrintWords Go.Proofs.YtnphphlincbgmaaDoorW.PrintLast Go.Proofs.YtnphphlincbgmaaDoorW.PrintMore
set_option linter.unusedVariables false

theorem rd_get (l : List Int) (i : Nat) (h : i < l.length) : rd l (i : Int) = l[i] := by
  unfold rd
  simp [List.getD_eq_getElem?_getD, h]
theorem rd_getD (l : List Int) (i : Nat) : rd l (i : Int) = l.getD i 0 := by
  unfold rd; simp
theorem wrap_in {n : Int} (h0 : -9223372036854775808 ≤ n) (h1 : n ≤ 9223372036854775807) : wrap64 n = n := by
  unfold wrap64; omega
theorem wrap_succ (i : Nat) (h : (i : Int) < 9223372036854775807) : wrap64 ((i : Int) + 1) = ((i + 1 : Nat) : Int) := by
  rw [wrap_in (by omega) (by omega)]; omega
theorem u8_of_wf {l : List Int} (h : ∀ x ∈ l, (Lit.int .u8 x).wf = true) : ∀ x ∈ l, 0 ≤ x ∧ x ≤ 255 := fun x hx => Go.bounds_u8 (h x hx)
theorem i64_of_wf {l : List Int} (h : ∀ x ∈ l, (Lit.int .i64 x).wf = true) : ∀ x ∈ l, -9223372036854775808 ≤ x ∧ x ≤ 9223372036854775807 := fun x hx => Go.bounds_i64 (h x hx)
theorem pred {k d : Nat} (h : d < k) : ∃ m, k = m + 1 := ⟨k - 1, by omega⟩
theorem drop_cons {α : Type} (l : List α) (i : Nat) (h : i < l.length) : l.drop i = l[i] :: l.drop (i + 1) := List.drop_eq_getElem_cons h
theorem take_snoc {α : Type} (l : List α) (i : Nat) (h : i < l.length) : l.take (i + 1) = l.take i ++ [l[i]] := by
  rw [List.take_succ_eq_append_getElem h]
/-- f, so many times. -/
def it {α : Type} (f : α → α) : Nat → α → α
  | 0, x => x
  | n + 1, x => it f n (f x)
theorem it_succ {α : Type} (f : α → α) (n : Nat) (x : α) : it f (n + 1) x = it f n (f x) := rfl
theorem it_add {α : Type} (f : α → α) (m n : Nat) : ∀ x : α, it f (m + n) x = it f n (it f m x) := by
  induction m with
  | zero => intro x; simp [it]
  | succ m ih => intro x; rw [show m + 1 + n = (m + n) + 1 from by omega, it_succ, ih, it_succ]
theorem it_last {α : Type} (f : α → α) (n : Nat) (x : α) : it f (n + 1) x = f (it f n x) := by
  rw [it_add f n 1]; rfl

end Go.Proofs.YtnphphlincbgmaaDoor.P

-- YtnphphlincbgmaaDoorP11
namespace Go.Proofs.YtnphphlincbgmaaDoor.P
open Go.RowKit Go.Proofs.YtnphphlincbgmaaDoorW.PrintWords Go.Proofs.YtnphphlincbgmaaDoorW.PrintLast Go.Proofs.YtnphphlincbgmaaDoorW.PrintMore
attribute [local go_sem] max2_int min2_int max_two min_two max_three min_three max_four min_four   -- for this text's walks alone
set_option linter.unusedVariables false
set_option linter.unusedSimpArgs false

/-! ### bits_Right_1: function 37 -/
def bits_Right_1.f (a0 : Int) : Option (Bool) := some (decide (a0 > 1))
set_option maxHeartbeats 8000000 in
set_option maxRecDepth 100000 in
theorem bits_Right_1.calls (a0 : Int) (r : Bool) (w : World) (h : bits_Right_1.f a0 = some r) :
    Calls Tryd.prog 37 #[.int .u8 a0] w fun e w' => e = .returned (.bool r) ∧ Drawn0 w w' := by
  have H : (some (decide (a0 > 1))) = some r := h
  clear h
  obtain rfl := Option.some.inj H
  go_enter Tryd.func37, Tryd.ntmps37
  go_wp2
  go_ret
  exact ⟨by first | rfl | (simp; done) | (simp [*]; done), by repeat (first | exact Drawn0.refl _ | apply Drawn0.step)⟩

end Go.Proofs.YtnphphlincbgmaaDoor.P

-- YtnphphlincbgmaaDoorP12
namespace Go.Proofs.YtnphphlincbgmaaDoor.P
open Go.RowKit Go.Proofs.YtnphphlincbgmaaDoorW.PrintWords Go.Proofs.YtnphphlincbgmaaDoorW.PrintLast Go.Proofs.YtnphphlincbgmaaDoorW.PrintMore
attribute [local go_sem] max2_int min2_int max_two min_two max_three min_three max_four min_four   -- for this text's walks alone
set_option linter.unusedVariables false
set_option linter.unusedSimpArgs false

/-! ### slices_IndexFunc_byte_byte: function 52 -/
def slices_IndexFunc_byte_byte.l0 : Nat → List Int → Int → Int → Option (Int)
  | 0, _, _, _ => none
  | k + 1, x0, x7, x8 => if x8 < x7 then (if 0 ≤ x8 then (if x8 < (x0.length : Int) then ((bits_Right_1.f (rd x0 x8)).bind fun t121 => (if t121 = true then (some x8) else (slices_IndexFunc_byte_byte.l0 k x0 x7 (wrap64 (x8 + 1))))) else (none)) else (none)) else (some (-1))
def slices_IndexFunc_byte_byte.f (k : Nat) (l0 : List Int)  : Option (Int) := slices_IndexFunc_byte_byte.l0 k l0 (l0.length : Int) 0
theorem slices_IndexFunc_byte_byte.mono_l : ∀ k, (∀ y0 y1 y2, LeO (slices_IndexFunc_byte_byte.l0 k y0 y1 y2) (slices_IndexFunc_byte_byte.l0 (k + 1) y0 y1 y2))
  | 0 => fun _ _ _ r h => by simp [slices_IndexFunc_byte_byte.l0] at h
  | k + 1 => by
    have ih0 := slices_IndexFunc_byte_byte.mono_l k
    · intro y0 y1 y2
      unfold slices_IndexFunc_byte_byte.l0
      repeat' first
      | (with_reducible exact ih0 _ _ _)
      | (with_reducible exact LeO.refl _)
      | (with_reducible exact LeO.none _)
      | (with_reducible refine LeO.ite ?_ ?_)
      | (with_reducible refine LeO.bind ?_ (fun _ => ?_))
      | exact ih0 _ _ _
      | exact LeO.none _
      | refine LeO.ite ?_ ?_
      | refine LeO.bind ?_ (fun _ => ?_)
theorem slices_IndexFunc_byte_byte.mono : ∀ a0 k, LeO (slices_IndexFunc_byte_byte.f k a0) (slices_IndexFunc_byte_byte.f (k + 1) a0) := by
  intro a0 k
  have ih0 := slices_IndexFunc_byte_byte.mono_l k
  unfold slices_IndexFunc_byte_byte.f
  repeat' first
      | (with_reducible exact ih0 _ _ _)
      | (with_reducible exact LeO.refl _)
      | (with_reducible exact LeO.none _)
      | (with_reducible refine LeO.ite ?_ ?_)
      | (with_reducible refine LeO.bind ?_ (fun _ => ?_))
      | exact ih0 _ _ _
      | exact LeO.none _
      | refine LeO.ite ?_ ?_
      | refine LeO.bind ?_ (fun _ => ?_)
set_option maxHeartbeats 8000000 in
set_option maxRecDepth 100000 in
theorem slices_IndexFunc_byte_byte.calls (k : Nat) (A0 : Option Addr) (c0 : Nat) (l0 : List Int)  (r : Int) (w : World) (hr0 : Kd.C (Kd.int .u8) w A0 l0.length l0) (hc0 : l0.length ≤ c0) (h : slices_IndexFunc_byte_byte.f k l0 = some r) :
    Calls Tryd.prog 52 #[.slice A0 l0.length c0, .func (.func 37) #[] #[]] w fun e w' => e = .returned (.int .i64 r) ∧ Drawn0 w w' := by
  have HR0 := Aside0.mk hr0
  have HC0 := Aside0.mk hc0
  clear hr0 hc0
  have H : (slices_IndexFunc_byte_byte.l0 k l0 (l0.length : Int) 0) = some r := h
  clear h
  have H' := Aside0.mk H
  clear H
  go_enter Tryd.func52, Tryd.ntmps52
  go_wp2
  go_loopg [8] k (fun kq v8 w' => ∃ (x8_1 : Int), v8 = .int .i64 x8_1 ∧ Aside0 (slices_IndexFunc_byte_byte.l0 kq l0 (l0.length : Int) x8_1 = some r) ∧ Aside0 (kq ≤ k) ∧ Drawn0 w w')
  case atStart => exact ⟨(0), (by first | rfl | (simp; done) | (simp [*]; done)), H', ⟨Nat.le_refl _⟩, by repeat (first | exact Drawn0.refl _ | apply Drawn0.step)⟩
  case round =>
    clear H'
    try clear p2
    obtain ⟨x8_1, rfl, HA, HK1, ⟨m1, rfl⟩⟩ := hrel
    cases gk with
    | zero => exact absurd HA.out (by simp [slices_IndexFunc_byte_byte.l0])
    | succ k1 =>
      have H := HA.out
      clear HA
      simp only [slices_IndexFunc_byte_byte.l0] at H
      by_cases c3 : x8_1 < (l0.length : Int)
      · rw [if_pos c3] at H
        have c3b0 : decide (x8_1 < (l0.length : Int)) = true := decide_eq_true c3
        clear c3
        by_cases c4 : 0 ≤ x8_1
        · rw [if_pos c4] at H
          have c4b0 : decide (0 ≤ x8_1) = true := decide_eq_true c4
          clear c4
          by_cases c5 : x8_1 < (l0.length : Int)
          · rw [if_pos c5] at H
            have c5b0 : decide (x8_1 < (l0.length : Int)) = true := decide_eq_true c5
            clear c5
            replace H := Option.bind_eq_some_iff.mp H
            obtain ⟨t121, A60, H⟩ := H
            replace H : (if t121 = true then (some x8_1) else (slices_IndexFunc_byte_byte.l0 k1 l0 (l0.length : Int) (wrap64 (x8_1 + 1)))) = some r := H
            have A6 := Aside0.mk A60
            clear A60
            by_cases c7 : t121 = true
            · subst c7
              have H1 : (some x8_1) = some r := by rw [if_pos rfl] at H; exact H
              clear H
              have H := H1
              clear H1
              obtain rfl := Option.some.inj H
              have p120 : 0 ≤ (x8_1 : Int) := of_decide_eq_true (by first | (with_reducible assumption) | assumption)
              have q120 : x8_1 < (l0.length : Int) := of_decide_eq_true (by first | (with_reducible assumption) | assumption)
              obtain ⟨ad120, e120, hx120_0⟩ := Kd.at_int HR0.out x8_1 p120 q120
              cases e120
              replace p120 := eq_true p120
              replace q120 := eq_true q120
              go_wp2_with (first | (go_at_call 37; (with_reducible refine (bits_Right_1.calls (rd l0 x8_1) true _ A6.out).mono ?_); rintro e w' ⟨rfl, ⟨nd, rfl⟩⟩))
              go_ret
              exact ⟨by first | rfl | (simp; done) | (simp [*]; done), by repeat (first | exact Drawn0.refl _ | apply Drawn0.step)⟩
            · replace c7 := Bool.eq_false_iff.mpr c7
              subst c7
              have H1 : (slices_IndexFunc_byte_byte.l0 k1 l0 (l0.length : Int) (wrap64 (x8_1 + 1))) = some r := by rw [if_neg (show ¬ (false = true) by decide)] at H; exact H
              clear H
              have H := H1
              clear H1
              have H' := Aside0.mk H
              clear H
              have p120 : 0 ≤ (x8_1 : Int) := of_decide_eq_true (by first | (with_reducible assumption) | assumption)
              have q120 : x8_1 < (l0.length : Int) := of_decide_eq_true (by first | (with_reducible assumption) | assumption)
              obtain ⟨ad120, e120, hx120_0⟩ := Kd.at_int HR0.out x8_1 p120 q120
              cases e120
              replace p120 := eq_true p120
              replace q120 := eq_true q120
              go_wp2_with (first | (go_at_call 37; (with_reducible refine (bits_Right_1.calls (rd l0 x8_1) false _ A6.out).mono ?_); rintro e w' ⟨rfl, ⟨nd, rfl⟩⟩))
              go_roundg k1
              case measure => have := HK1.out; omega
              case rel => exact ⟨(wrap64 (x8_1 + 1)), (by first | rfl | (simp; done) | (simp [*]; done)), H', ⟨by have := HK1.out; omega⟩, by repeat (first | exact Drawn0.refl _ | apply Drawn0.step)⟩
          · rw [if_neg c5] at H
            exact absurd H (by simp)
        · rw [if_neg c4] at H
          exact absurd H (by simp)
      · rw [if_neg c3] at H
        have c3b0 : decide (x8_1 < (l0.length : Int)) = false := decide_eq_false c3
        clear c3
        obtain rfl := Option.some.inj H
        go_wp2
        go_ret
        exact ⟨by first | rfl | (simp; done) | (simp [*]; done), by repeat (first | exact Drawn0.refl _ | apply Drawn0.step)⟩

end Go.Proofs.YtnphphlincbgmaaDoor.P

-- YtnphphlincbgmaaDoorP13
namespace Go.Proofs.YtnphphlincbgmaaDoor.P
open Go.RowKit Go.Proofs.YtnphphlincbgmaaDoorW.PrintWords Go.Proofs.YtnphphlincbgmaaDoorW.PrintLast Go.Proofs.YtnphphlincbgmaaDoorW.PrintMore
attribute [local go_sem] max2_int min2_int max_two min_two max_three min_three max_four min_four   -- for this text's walks alone
set_option linter.unusedVariables false
set_option linter.unusedSimpArgs false

/-! ### slices_ContainsFunc_byte_byte: function 36 -/
def slices_ContainsFunc_byte_byte.f (k : Nat) (l0 : List Int)  : Option (Bool) := (slices_IndexFunc_byte_byte.f k l0).bind fun t122 => (some (decide (t122 ≥ 0)))
theorem slices_ContainsFunc_byte_byte.mono : ∀ a0 k, LeO (slices_ContainsFunc_byte_byte.f k a0) (slices_ContainsFunc_byte_byte.f (k + 1) a0) := by
  intro a0 k
  unfold slices_ContainsFunc_byte_byte.f
  repeat' first
      | (with_reducible exact slices_IndexFunc_byte_byte.mono _ _)
      | (with_reducible exact LeO.refl _)
      | (with_reducible exact LeO.none _)
      | (with_reducible refine LeO.ite ?_ ?_)
      | (with_reducible refine LeO.bind ?_ (fun _ => ?_))
      | exact slices_IndexFunc_byte_byte.mono _ _
      | exact LeO.none _
      | refine LeO.ite ?_ ?_
      | refine LeO.bind ?_ (fun _ => ?_)
set_option maxHeartbeats 8000000 in
set_option maxRecDepth 100000 in
theorem slices_ContainsFunc_byte_byte.calls (k : Nat) (A0 : Option Addr) (c0 : Nat) (l0 : List Int)  (r : Bool) (w : World) (hr0 : Kd.C (Kd.int .u8) w A0 l0.length l0) (hc0 : l0.length ≤ c0) (h : slices_ContainsFunc_byte_byte.f k l0 = some r) :
    Calls Tryd.prog 36 #[.slice A0 l0.length c0, .func (.func 37) #[] #[]] w fun e w' => e = .returned (.bool r) ∧ Drawn0 w w' := by
  have HR0 := Aside0.mk hr0
  have HC0 := Aside0.mk hc0
  clear hr0 hc0
  have H : ((slices_IndexFunc_byte_byte.f k l0).bind fun t122 => (some (decide (t122 ≥ 0)))) = some r := h
  clear h
  replace H := Option.bind_eq_some_iff.mp H
  obtain ⟨t122, A30, H⟩ := H
  replace H : (some (decide (t122 ≥ 0))) = some r := H
  have A3 := Aside0.mk A30
  clear A30
  obtain rfl := Option.some.inj H
  go_enter Tryd.func36, Tryd.ntmps36
  go_wp2_with (first | ((with_reducible refine gate_callee (f := 52) rfl ?_); refine goesL_ (some 7) rfl rfl Tryd.func52 (by kernel_rfl) rfl #[.slice A0 l0.length c0, .func (.func 37) #[] #[]] rfl (by (try simp only [List.map_toArray, List.map_cons, List.map_nil]); first | done | rfl | (simp only [List.length_drop, List.length_take]; rfl)) ?_; (with_reducible refine (slices_IndexFunc_byte_byte.calls k _ _ l0  t122 _ ?side1 ?side2 A3.out).mono ?_); (case side1 => repeat (first | exact HR0.out | (with_reducible refine Kd.C_alloc ?_ _) | (with_reducible refine Kd.C_drewN ?_ _) | (with_reducible refine Kd.C_drew ?_))); (case side2 => exact HC0.out); rintro e w' ⟨rfl, ⟨nd, rfl⟩⟩; refine ⟨_, rfl, ?_⟩))
  go_ret
  exact ⟨by first | rfl | (simp; done) | (simp [*]; done), by repeat (first | exact Drawn0.refl _ | apply Drawn0.step)⟩

end Go.Proofs.YtnphphlincbgmaaDoor.P

-- YtnphphlincbgmaaDoorP14
namespace Go.Proofs.YtnphphlincbgmaaDoor.P
open Go.RowKit Go.Proofs.YtnphphlincbgmaaDoorW.PrintWords Go.Proofs.YtnphphlincbgmaaDoorW.PrintLast Go.Proofs.YtnphphlincbgmaaDoorW.PrintMore
attribute [local go_sem] max2_int min2_int max_two min_two max_three min_three max_four min_four   -- for this text's walks alone
set_option linter.unusedVariables false
set_option linter.unusedSimpArgs false

/-! ### bits_Right: function 18 -/
def bits_Right.f (k : Nat) (l0 : List Int) : Option (Bool) := (slices_ContainsFunc_byte_byte.f k l0).bind fun t123 => (some (!t123))
theorem bits_Right.mono : ∀ a0 k, LeO (bits_Right.f k a0) (bits_Right.f (k + 1) a0) := by
  intro a0 k
  unfold bits_Right.f
  repeat' first
      | (with_reducible exact slices_ContainsFunc_byte_byte.mono _ _)
      | (with_reducible exact LeO.refl _)
      | (with_reducible exact LeO.none _)
      | (with_reducible refine LeO.ite ?_ ?_)
      | (with_reducible refine LeO.bind ?_ (fun _ => ?_))
      | exact slices_ContainsFunc_byte_byte.mono _ _
      | exact LeO.none _
      | refine LeO.ite ?_ ?_
      | refine LeO.bind ?_ (fun _ => ?_)
set_option maxHeartbeats 8000000 in
set_option maxRecDepth 100000 in
theorem bits_Right.calls (k : Nat) (A0 : Option Addr) (c0 : Nat) (l0 : List Int) (r : Bool) (w : World) (hr0 : Kd.C (Kd.int .u8) w A0 l0.length l0) (hc0 : l0.length ≤ c0) (h : bits_Right.f k l0 = some r) :
    Calls Tryd.prog 18 #[.slice A0 l0.length c0] w fun e w' => e = .returned (.bool r) ∧ Drawn0 w w' := by
  have HR0 := Aside0.mk hr0
  have HC0 := Aside0.mk hc0
  clear hr0 hc0
  have H : ((slices_ContainsFunc_byte_byte.f k l0).bind fun t123 => (some (!t123))) = some r := h
  clear h
  replace H := Option.bind_eq_some_iff.mp H
  obtain ⟨t123, A20, H⟩ := H
  replace H : (some (!t123)) = some r := H
  have A2 := Aside0.mk A20
  clear A20
  obtain rfl := Option.some.inj H
  go_enter Tryd.func18, Tryd.ntmps18
  go_wp2_with (first | ((with_reducible refine gate_callee (f := 36) rfl ?_); refine goesL_ (some 4) rfl rfl Tryd.func36 (by kernel_rfl) rfl #[.slice A0 l0.length c0, .func (.func 37) #[] #[]] rfl (by (try simp only [List.map_toArray, List.map_cons, List.map_nil]); first | done | rfl | (simp only [List.length_drop, List.length_take]; rfl)) ?_; (with_reducible refine (slices_ContainsFunc_byte_byte.calls k _ _ l0  t123 _ ?side1 ?side2 A2.out).mono ?_); (case side1 => repeat (first | exact HR0.out | (with_reducible refine Kd.C_alloc ?_ _) | (with_reducible refine Kd.C_drewN ?_ _) | (with_reducible refine Kd.C_drew ?_))); (case side2 => exact HC0.out); rintro e w' ⟨rfl, ⟨nd, rfl⟩⟩; refine ⟨_, rfl, ?_⟩))
  go_ret
  exact ⟨by first | rfl | (simp; done) | (simp [*]; done), by repeat (first | exact Drawn0.refl _ | apply Drawn0.step)⟩

end Go.Proofs.YtnphphlincbgmaaDoor.P

-- YtnphphlincbgmaaDoorPChunk
namespace Go.Proofs.YtnphphlincbgmaaDoor.P
open Go Go.Proofs Go.RowKit Go.Shelf Go.Proofs.YtnphphlincbgmaaDoorW.PrintWords Go.Proofs.YtnphphlincbgmaaDoorW.PrintLast Go.Proofs.YtnphphlincbgmaaDoorW.PrintMore
set_option linter.unusedVariables false
attribute [local go_sem] Oper.semAt_some

/-- The parts, by their numbers. -/
abbrev Part (len : Nat) := { x : Nat // 8 * x < len }
def partV (ad : Addr) (len : Nat) (x : Part len) : Value := .slice (some (ad.add (8 * x.1))) (min 8 (len - 8 * x.1)) (min 8 (len - 8 * x.1))

set_option maxRecDepth 100000 in
set_option maxHeartbeats 2000000 in
theorem chunk1_in (F : Fence) (n : Nat) (h7 : F.fn 54) (hro : F.round = none) (hn : 1 ≤ n) (l Bs Bn : Nat) (ad : Addr) (len cap : Nat) (hlen : len < 140737488355328) (hcap : len ≤ cap)
    (Kp : World → World → Prop) (hKs : ∀ A B, Kp A B → A.cell? ⟨Bs, 0, none⟩ = some (.slice (some ad) len cap) → B.cell? ⟨Bs, 0, none⟩ = some (.slice (some ad) len cap)) (hKn : ∀ A B, Kp A B → A.cell? ⟨Bn, 0, none⟩ = some (.int .i64 8) → B.cell? ⟨Bn, 0, none⟩ = some (.int .i64 8)) (J Jx : List (Part len) → World → Prop)
    (hY : ∀ pre (x : Part len) W, J pre W → pre.length < len → YieldAt F (n - 1) Tryd.prog l #[partV ad len x] W fun e W' =>
      (e = .returned (.bool true) ∧ J (pre ++ [x]) W' ∧ Kp W W') ∨ (e = .returned (.bool false) ∧ Jx (pre ++ [x]) W'))
    (hJd : ∀ pre W, J pre W → J pre W.drew)
    (W : World) (hcs : W.cell? ⟨Bs, 0, none⟩ = some (.slice (some ad) len cap)) (hcn : W.cell? ⟨Bn, 0, none⟩ = some (.int .i64 8)) (h0 : J [] W) :
    CallsIn F n Tryd.prog 54 #[.func (.yield l) #[] #[], .pointer (some ⟨Bs, 0, none⟩), .pointer (some ⟨Bn, 0, none⟩)] W fun e W' => (∃ v, e = .returned v) ∧
      ((∃ ys, ys.map (·.1) = List.range ((len + 7) / 8) ∧ J ys W') ∨ (∃ pre, Jx pre W')) := by
  refine callsIn_of_wp Tryd.func54 rfl h7 ?_ hro
  simp only [Tryd.ntmps54, List.size_toArray, List.length_cons, List.length_nil, Nat.reduceAdd, Nat.reduceSub, Array.replicate_succ, Array.replicate_zero, List.push_toArray, List.append_toArray, List.nil_append, List.cons_append]
  gi_wp2
  gi_loopw [4] (fun i wr => ∃ (k : Nat) (pre : List (Part len)), 8 * k < len + 8 ∧ i = .int .i64 ((8 * k : Nat) : Int) ∧ pre.map (·.1) = List.range k ∧ J pre wr ∧ wr.cell? ⟨Bs, 0, none⟩ = some (.slice (some ad) len cap) ∧ wr.cell? ⟨Bn, 0, none⟩ = some (.int .i64 8))
    (fun i _ => len + 8 - (intOf i).toNat)
  case atStart => exact ⟨0, [], by omega, rfl, rfl, h0, hcs, hcn⟩
  case round =>
    obtain ⟨k, pre, hk, rfl, hpre, hJs, hcs', hcn'⟩ := hrel
    have hpl : pre.length = k := by have := congrArg List.length hpre; simpa using this
    by_cases hlt : 8 * k < len
    · have hcs2 : wr.drew.cell? ⟨Bs, 0, none⟩ = some (.slice (some ad) len cap) := hcs'
      have hcn2 : wr.drew.cell? ⟨Bn, 0, none⟩ = some (.int .i64 8) := hcn'
      obtain ⟨j, hj⟩ : ∃ j : Nat, min 8 (len - 8 * k) = j := ⟨_, rfl⟩
      have hif : (if ((len - 8 * k : Nat) : Int) < 8 then ((len - 8 * k : Nat) : Int) else 8) = (j : Int) := by split <;> omega
      have hj1 : j ≤ 8 := by omega
      have hj2 : 8 * k + j ≤ len := by omega
      obtain ⟨fn, tmps, assign, body, hy, hR⟩ := hY pre ⟨k, hlt⟩ wr.drew (hJd _ _ hJs) (by omega)
      simp only [partV, hj] at hy
      clear hY
      gi_wp2
      gi_region
      all_goals (clear hcs' hcn')
      all_goals
        gi_wp2
        refine hR.mono ?_
        rintro e W3 (⟨rfl, hJ3, hk3⟩ | ⟨rfl, hJx3⟩)
        · have hcs3 := hKs _ _ hk3 hcs2
          have hcn3 := hKn _ _ hk3 hcn2
          clear hR hy hk3
          gi_wp2
          go_roundw
          case rel => exact ⟨k + 1, pre ++ [⟨k, hlt⟩], by omega, by first | rfl | (congr 1; omega) | simp, by rw [List.map_append, hpre, List.range_succ]; rfl, hJ3, hcs3, hcn3⟩
          case measure => simp [intOf]; omega
        · clear hR hy
          gi_wp2
          refine bodyPost_ret (results_none rfl _ _ _) rfl ?_
          exact ⟨⟨_, rfl⟩, .inr ⟨_, hJx3⟩⟩
    · gi_wp2
      go_end0
      exact ⟨⟨_, rfl⟩, .inl ⟨pre, by rw [hpre]; congr 1; omega, hJs⟩⟩

set_option maxRecDepth 100000 in
set_option maxHeartbeats 1000000 in
theorem chunk1_nil_in (F : Fence) (n : Nat) (h7 : F.fn 54) (hro : F.round = none) (l Bs Bn : Nat) (A : Option Addr) (cap : Nat) (J : World → Prop) (W : World)
    (hcs : W.cell? ⟨Bs, 0, none⟩ = some (.slice A 0 cap)) (h0 : J W) :
    CallsIn F n Tryd.prog 54 #[.func (.yield l) #[] #[], .pointer (some ⟨Bs, 0, none⟩), .pointer (some ⟨Bn, 0, none⟩)] W fun e W' => (∃ v, e = .returned v) ∧ J W' := by
  refine callsIn_of_wp Tryd.func54 rfl h7 ?_ hro
  simp only [Tryd.ntmps54, List.size_toArray, List.length_cons, List.length_nil, Nat.reduceAdd, Nat.reduceSub, Array.replicate_succ, Array.replicate_zero, List.push_toArray, List.append_toArray, List.nil_append, List.cons_append]
  gi_wp2
  gi_loopw [4] (fun i wr => i = .int .i64 0 ∧ J wr ∧ wr.cell? ⟨Bs, 0, none⟩ = some (.slice A 0 cap)) (fun _ _ => 0)
  case atStart => exact ⟨rfl, h0, hcs⟩
  case round =>
    obtain ⟨rfl, hJs, hcs'⟩ := hrel
    gi_wp2
    go_end0
    exact ⟨⟨_, rfl⟩, hJs⟩

set_option maxHeartbeats 1000000 in
theorem chunk_in (F : Fence) (n : Nat) (h5 : F.fn 39) (hro : F.round = none) (A : Option Addr) (len cap : Nat) (w : World) :
    CallsIn F n Tryd.prog 39 #[.slice A len cap, .int .i64 8] w fun e w' => e = .returned (.func (.func 54) #[] #[.pointer (some ⟨w.heap.size, 0, none⟩), .pointer (some ⟨w.heap.size + 1, 0, none⟩)]) ∧
      w' = (w.alloc (.cells #[.slice A len cap] 35)).alloc (.cells #[.int .i64 8] 3) := by
  refine callsIn_of_wp Tryd.func39 rfl h5 ?_ hro
  simp only [Tryd.ntmps39, List.size_toArray, List.length_cons, List.length_nil, Nat.reduceAdd, Nat.reduceSub, Array.replicate_succ, Array.replicate_zero, List.push_toArray, List.append_toArray, List.nil_append, List.cons_append]
  gi_wp2
  go_ret
  exact ⟨by simp, rfl⟩
end Go.Proofs.YtnphphlincbgmaaDoor.P

-- YtnphphlincbgmaaDoorP16
namespace Go.Proofs.YtnphphlincbgmaaDoor.P
open Go.RowKit Go.Proofs.YtnphphlincbgmaaDoorW.PrintWords Go.Proofs.YtnphphlincbgmaaDoorW.PrintLast Go.Proofs.YtnphphlincbgmaaDoorW.PrintMore
attribute [local go_sem] max2_int min2_int max_two min_two max_three min_three max_four min_four   -- for this text's walks alone
set_option linter.unusedVariables false
set_option linter.unusedSimpArgs false

/-! ### bits_Bytes: function 21 -/
open Go Go.Proofs Go.Shelf
attribute [local go_sem] Oper.semAt_some

def byOf (l : List Int) (x : Nat) : Nat → Int
  | 0 => 0
  | k + 1 => Go.bits .or .u8 (byOf l x k) (shl .u8 (l.getD (8 * x + k) 0) (7 - (k : Int)))
def byte (l : List Int) (x : Nat) : Int := byOf l x (min 8 (l.length - 8 * x))
def bits_Bytes.f (k : Nat) (l0 : List Int) : Option (List Int × Int) := (bits_Right.f k l0).bind fun t => if t = true then (if l0.length < 140737488355328 then some ((List.range ((l0.length + 7) / 8)).map (byte l0), 0) else none) else some ([], 5)
theorem bits_Bytes.mono : ∀ a0 k, LeO (bits_Bytes.f k a0) (bits_Bytes.f (k + 1) a0) := by
  intro a0 k
  unfold bits_Bytes.f
  exact LeO.bind (bits_Right.mono a0 k) (fun _ => LeO.refl _)

theorem bytes_info : (Tryd.prog.info? 5).map (fun i => (i.zero, i.size, i.bytes)) = some (some (.int .u8 0), 1, 1) := by kernel_rfl
def keepsK (Bs Bn n₀ : Nat) (A B : World) : Prop := Below n₀ A B ∧ B.heap[Bs]? = A.heap[Bs]? ∧ B.heap[Bn]? = A.heap[Bn]?
theorem keepsK_t {Bs Bn n₀ : Nat} {A B C : World} (h : keepsK Bs Bn n₀ A B) (k : keepsK Bs Bn n₀ B C) : keepsK Bs Bn n₀ A C := ⟨h.1.trans k.1, k.2.1.trans h.2.1, k.2.2.trans h.2.2⟩
theorem keepsK_b {Bs Bn n₀ : Nat} {w : World} (hn : n₀ ≤ w.heap.size) (hs : Bs < w.heap.size) (hn' : Bn < w.heap.size) (W : World) (l : Nat) (o o' : Obj) (hl : w.heap.size ≤ l) (h : W.heap[l]? = some o) (h1 : o.isCells = false) (h2 : o.isWalk = false) : keepsK Bs Bn n₀ W (W.putObj l o') := by
  have hlt := (Array.getElem?_eq_some_iff.1 h).1
  exact ⟨belowK_b hn W l o o' hl h h1 h2, (grownBy_putObj' W l o').block Bs (by omega) (fun e => by cases e; omega), (grownBy_putObj' W l o').block Bn (by omega) (fun e => by cases e; omega)⟩
theorem keepsK_cell {Bs Bn n₀ : Nat} {A B : World} (h : keepsK Bs Bn n₀ A B) : B.cell? ⟨Bs, 0, none⟩ = A.cell? ⟨Bs, 0, none⟩ ∧ B.cell? ⟨Bn, 0, none⟩ = A.cell? ⟨Bn, 0, none⟩ := by
  unfold World.cell?
  exact ⟨by simp only [h.2.1], by simp only [h.2.2]⟩
theorem abides_drew {α : Type} {B : Nat} {J : List α → World → Prop} (h : AbidesFrom B J) (pre : List α) (W : World) (hj : J pre W) : J pre W.drew :=
  h pre W W.drew none hj ⟨rfl, rfl, rfl, Nat.le_refl _, fun _ _ _ => rfl⟩ (fun _ e => by cases e)
theorem reps_u8 (w : World) (base : Nat) (ok : Nat → Prop) : ∀ ps : List Int, Reps ((Kd.int .u8).M w base ok) 1 ps (ps.map (Value.int .u8))
  | [] => Reps.none _ _
  | p :: ps => Reps.one rfl (reps_u8 w base ok ps)
theorem chunk_stops (F : Fence) (n : Nat) (h7 : F.fn 54) (hro : F.round = none) (hn : 1 ≤ n) (Bs Bn n₀ : Nat) (A : Option Addr) (ad : Addr) (len cap : Nat) (hA : 0 < len → A = some ad) (hlen : len < 140737488355328) (hcap : len ≤ cap) (w : World)
    (hs : Bs < w.heap.size) (hb : Bn < w.heap.size)
    (hcs : w.cell? ⟨Bs, 0, none⟩ = some (.slice A len cap)) (hcn : w.cell? ⟨Bn, 0, none⟩ = some (.int .i64 8)) :
    SeqStopsK F n Tryd.prog 54 #[.pointer (some ⟨Bs, 0, none⟩), .pointer (some ⟨Bn, 0, none⟩)] (fun x : Part len => #[partV ad len x]) (keepsK Bs Bn n₀) (fun ys => ys.map (·.1) = List.range ((len + 7) / 8)) (fun _ => True) len w := fun l J Jx W hW hJ _ hY h0 => by
  have hcs' := (hW.cell (p := ⟨Bs, 0, none⟩) hs).trans hcs
  have hcn' := (hW.cell (p := ⟨Bn, 0, none⟩) hb).trans hcn
  by_cases h : 0 < len
  · obtain rfl := hA h
    refine (chunk1_in F n h7 hro hn l Bs Bn ad len cap hlen hcap (keepsK Bs Bn n₀) (fun X Y k e => (keepsK_cell k).1.trans e) (fun X Y k e => (keepsK_cell k).2.trans e) J Jx hY (abides_drew hJ) W hcs' hcn' h0).mono ?_
    rintro e W' ⟨he, ⟨ys, hys, hj⟩ | ⟨pre, hj⟩⟩
    · exact ⟨he, .inl ⟨ys, hys, hj⟩⟩
    · exact ⟨he, .inr ⟨pre, trivial, hj⟩⟩
  · obtain rfl : len = 0 := by omega
    exact (chunk1_nil_in F n h7 hro l Bs Bn A cap (J []) W hcs' h0).mono fun e W' ⟨he, hj⟩ => ⟨he, .inl ⟨[], rfl, hj⟩⟩

set_option maxRecDepth 100000 in
set_option maxHeartbeats 4000000 in
theorem bits_Bytes.calls (k : Nat) (A0 : Option Addr) (c0 : Nat) (l0 : List Int) (r1 : List Int) (r2 : Int) (w : World) (hr0 : Kd.C (Kd.int .u8) w A0 l0.length l0) (hc0 : l0.length ≤ c0) (h : bits_Bytes.f k l0 = some (r1, r2)) :
    Calls Tryd.prog 21 #[.slice A0 l0.length c0] w fun e w' => ∃ v0_ : Value, e = .returned (.tuple #[v0_, .int .i64 r2]) ∧ Kd.R (Kd.int .u8) 5 w' w.heap.size (fun _ => True) v0_ r1 ∧ Below w.heap.size w w' := by
  unfold bits_Bytes.f at h
  obtain ⟨t, ht, h⟩ := Option.bind_eq_some_iff.mp h
  refine (callsIn_wide (n := 5)).1 ?_
  have hro : Fence.wide.round = none := rfl
  refine callsIn_of_wp_marks Tryd.func21 rfl trivial ?_ hro
  simp only [Tryd.ntmps21, List.size_toArray, List.length_cons, List.length_nil, Nat.reduceAdd, Nat.reduceSub, Array.replicate_succ, Array.replicate_zero, List.push_toArray, List.append_toArray, List.nil_append, List.cons_append]
  have hR := (callsIn_wide (n := 4)).2 (bits_Right.calls k A0 c0 l0 t w hr0 hc0 ht)
  cases t with
  | false =>
    rw [if_neg (by decide)] at h
    cases h
    gi_wp2_with (first | (gi_at_call 18; refine hR.mono ?_; rintro e w' ⟨rfl, ⟨m, rfl⟩⟩) | (refine ⟨trivial, ?_⟩; gi_at_call 18; refine hR.mono ?_; rintro e w' ⟨rfl, ⟨m, rfl⟩⟩))
    exact ⟨_, results_tmp2 rfl _ _ _, _, rfl, Kd.R_nil _ _ _ _ _, pw_below_drewN (Below.refl _ _) m⟩
  | true =>
    rw [if_pos rfl] at h
    by_cases hl : l0.length < 140737488355328
    · rw [if_pos hl] at h
      cases h
      gi_wp2_with (first | (gi_at_call 18; refine hR.mono ?_; rintro e w' ⟨rfl, ⟨m, rfl⟩⟩) | (refine ⟨trivial, ?_⟩; gi_at_call 18; refine hR.mono ?_; rintro e w' ⟨rfl, ⟨m, rfl⟩⟩))
      obtain ⟨w1, hw1⟩ : ∃ w1, w.drewN m = w1 := ⟨_, rfl⟩
      have hB1 : Below w.heap.size w w1 := by rw [← hw1]; exact pw_below_drewN (Below.refl _ _) m
      have hs1 : w1.heap.size = w.heap.size := by rw [← hw1]; rfl
      have hC1 := Kd.C_below hr0 hB1
      simp only [hw1, ← hs1]
      refine ⟨trivial, (chunk_in Fence.wide 4 trivial hro _ _ _ _).mono ?_⟩
      rintro e w2' ⟨rfl, rfl⟩
      gi_wp2
      obtain ⟨ad, hA⟩ : ∃ ad, 0 < l0.length → A0 = some ad := by
        by_cases hp : 0 < l0.length
        · obtain ⟨ad, ha, _⟩ := hC1.2.2 hp; exact ⟨ad, fun _ => ha⟩
        · exact ⟨⟨0, 0, none⟩, fun h => absurd h hp⟩
      have bO := Boxed.new w1 35 (.slice none 0 0)
      have bS := Boxed.new (w1.alloc (.cells #[.slice none 0 0] 35)) 35 (.slice A0 l0.length c0)
      have bN := Boxed.new ((w1.alloc (.cells #[.slice none 0 0] 35)).alloc (.cells #[.slice A0 l0.length c0] 35)) 3 (.int .i64 8)
      simp only [World.size_alloc] at bS bN
      have hB2 : Below w1.heap.size w1 (((w1.alloc (.cells #[.slice none 0 0] 35)).alloc (.cells #[.slice A0 l0.length c0] 35)).alloc (.cells #[.int .i64 8] 3)) :=
        (((Below.refl _ w1).alloc (Nat.le_refl _) _).alloc (by simp) _).alloc (by first | (simp; done) | (simp; omega)) _
      obtain ⟨i0, hi, hz0, hz1, hz2⟩ := info_parts bytes_info
      rw [← hs1]
      have HS := Aside0.mk hs1
      clear hs1
      refine wpIn_rangeFunc_ownG hro (by omega) (gf := 54) (lb := #[.pointer (some ⟨w1.heap.size + 1, 0, none⟩), .pointer (some ⟨w1.heap.size + 1 + 1, 0, none⟩)]) rfl trivial (enters_of Tryd.func54 (by kernel_rfl) rfl)
        (chunk_stops Fence.wide 4 trivial hro (by omega) (w1.heap.size + 1) (w1.heap.size + 1 + 1) w1.heap.size A0 ad l0.length c0 hA hl hc0 _ (by first | (simp; done) | (simp; omega)) (by simp) (bS.alloc _).cell bN.cell) keepsK_t (keepsK_b (by first | (simp; done) | (simp; omega)) (by first | (simp; done) | (simp; omega)) (by simp)) (Below.refl _ _) (fun _ => rfl)
        (fun pre W => (∃ v, Boxed W w1.heap.size 35 v ∧ W.ownsRow w1.heap.size 5 1 v pre.length (pre.map fun x => Value.int .u8 (byte l0 x.1)) ∧ True) ∧ Boxed W (w1.heap.size + 1) 35 (.slice A0 l0.length c0) ∧ Boxed W (w1.heap.size + 1 + 1) 3 (.int .i64 8) ∧ Below w1.heap.size w1 W)
        (fun _ _ _ => False)
        (OwnFrom.and (Own.from (holdsRow_own w1.heap.size w1.heap.size 35 5 1 (fun pre : List (Part l0.length) => pre.length) (fun pre : List (Part l0.length) => pre.map fun x => Value.int .u8 (byte l0 x.1)) (fun (pre : List (Part l0.length)) v => True)) _)
          (OwnFrom.and (Own.from (boxed_own _ _ (fun _ => _)) _) (OwnFrom.and (Own.from (boxed_own _ _ (fun _ => _)) _) (ownFrom_below (Nat.le_refl _) (by simp; omega)))))
        (fun _ _ _ _ _ hs _ _ => hs)
        ⟨⟨_, (bO.alloc _).alloc _, World.ownsRow_nil _ _ _ _, trivial⟩, bS.alloc _, bN, hB2⟩
        (fun x => { tmps := #[.slice A0 l0.length c0, undef, .slice none 0 0, .int .i64 0, .pointer (some ⟨w1.heap.size, 0, none⟩), partV ad l0.length x, undef, undef, undef, .slice A0 l0.length c0, .bool true, .bool false, .slice A0 l0.length c0,
          .func (.func 54) #[] #[.pointer (some ⟨w1.heap.size + 1, 0, none⟩), .pointer (some ⟨w1.heap.size + 1 + 1, 0, none⟩)], partV ad l0.length x, undef, undef, undef, undef, undef, undef, undef, undef, undef, undef, undef, undef, undef, undef, undef, undef, undef, undef, undef], defers := [] }) ?assign ?body ?done ?stop
      case assign =>
        intro l x W K hK
        gi_wp2
        exact hK
      case body =>
        rintro l pre x W ⟨⟨v, hv, hrow, _⟩, hbs, hbn, hB⟩ hlt
        have hcC := Kd.C_below hC1 hB
        obtain ⟨j, hj⟩ : ∃ j : Nat, min 8 (l0.length - 8 * x.1) = j := ⟨_, rfl⟩
        have hxl := x.2
        have hcell : ∀ i, i < j → W.cell? ((ad.add (8 * x.1)).add i) = some (.int .u8 (l0.getD (8 * x.1 + i) 0)) := by
          intro i hi
          have hlt8 : 8 * x.1 + i < l0.length := by omega
          obtain ⟨ad', ea, hcs⟩ := hcC.2.2 (by omega)
          obtain rfl : ad' = ad := by
            have := hA (by omega)
            rw [ea] at this
            exact Option.some.inj this
          obtain ⟨c, h1, h2, h3⟩ := hcs (8 * x.1 + i) _ (List.getElem?_eq_getElem hlt8)
          have h2' : c = [Value.int .u8 l0[8 * x.1 + i]] := h2
          subst h2'
          have h4 := h3 0 _ rfl
          rw [Addr.add_add, List.getD_eq_getElem?_getD, List.getElem?_eq_getElem hlt8]
          simpa [Kd.int, Kd.scalar] using h4
        simp only [partV, hj]
        gi_wp2
        gi_loop [6, 17] (fun c i => ∃ q : Nat, q ≤ j ∧ c = .int .u8 (byOf l0 x.1 q) ∧ i = .int .i64 q) (fun _ i => j - (intOf i).toNat)
        case atStart => exact ⟨0, by omega, rfl, rfl⟩
        case round =>
          obtain ⟨q, hq, rfl, rfl⟩ := hrel
          by_cases hqj : q < j
          · have hcq := hcell q hqj
            gi_wp2
            have hsh : shl .u8 (l0.getD (8 * x.1 + q) 0) (7 - (q : Int)) = l0[8 * x.1 + q]?.getD 0 * 2 ^ (7 - q) % 256 := by
              unfold shl
              rw [show min (7 - (q : Int)).toNat IntKind.u8.bits = 7 - q from by show min _ 8 = _; omega, List.getD_eq_getElem?_getD]
              rfl
            refine ⟨⟨q + 1, by omega, ?_, by simp⟩, by simp [intOf]; omega⟩
            show _ = Value.int .u8 (Go.bits .or .u8 _ (shl _ _ _))
            rw [hsh]
          · obtain rfl : q = j := by omega
            have hc := hv.cell
            have hbyte : byte l0 x.1 = byOf l0 x.1 q := by unfold byte; rw [hj]
            gi_wp2_with (gi_at_builtin; refine wpListIn_append_own _ rfl _ _ 35 rfl w1.heap.size 5 i0 (.int .u8 0) 1 1 Tryd.underlying35 hi hz0 hz1 hz2 rfl (by decide) _ _ _ rfl (hrow.alloc _) ⟨W.heap.size, 0, none⟩ 1 1 [.int .u8 (byOf l0 x.1 q)] rfl rfl (cell_one_new _ _ _) (by simp [Value.oneCell']) (by unfold maxLen; omega) (by omega) (by have := hB.size; simp; omega) ?_; intro v' w2 hown' hgrow _; obtain ⟨g', cap', rfl⟩ := ownsRow_succ hown'; obtain ⟨hv1, hv2, hr2, hk2, hb2⟩ := hv.appended (by decide) hrow hB.size (Nat.le_refl _) hown' hgrow; have hc1 := hv1.cell; have hf1 := hv1.frozen)
            have hbs' := ((hbs.alloc _).kept hgrow (hbs.not_row (by decide) hrow)).other (B' := w1.heap.size) (by omega)
            have hbn' := ((hbn.alloc _).kept hgrow (hbn.not_row (by decide) hrow)).other (B' := w1.heap.size) (by omega)
            exact ⟨hk2.from _, ⟨hb2, (hbs' _).trans hbs.symm, (hbn' _).trans hbn.symm⟩, ⟨_, hv2, by simpa [hbyte] using hr2⟩, hbs' _, hbn' _, hB.trans hb2⟩
      case done =>
        rintro D ys W hD hS ⟨⟨v, hv, hrow, _⟩, hbs, hbn, hB⟩ hK
        have hc := hv.cell
        gi_wp2
        refine ⟨by simp, .inl ⟨_, _, rfl, run_takeDeferred hK, ?_⟩⟩
        have hb' := hB.trans (belowK_b (w := w1) (Nat.le_refl _) W D _ (.deferred none) (by simp at hD; omega) hK rfl rfl)
        refine ⟨_, results_tmp2 rfl _ _ _, v, rfl, ⟨fun _ _ => trivial, _, ?_, reps_u8 _ _ _ ((List.range ((l0.length + 7) / 8)).map (byte l0))⟩, ?_⟩
        · have ho := ownsRow_putObj hrow (.deferred none) hK rfl
          rw [show (ys.map fun x => Value.int .u8 (byte l0 x.1)) = ((List.range ((l0.length + 7) / 8)).map (byte l0)).map (Value.int .u8) from by rw [← hS]; simp,
            show ys.length = ((List.range ((l0.length + 7) / 8)).map (byte l0)).length from by rw [← hS]; simp] at ho
          rw [HS.out] at ho
          exact ho
        · rw [HS.out] at hb'
          exact hB1.trans hb'
      case stop =>
        rintro D c pre W _ _ h _
        exact h.elim
    · rw [if_neg hl] at h; cases h

end Go.Proofs.YtnphphlincbgmaaDoor.P

-- YtnphphlincbgmaaDoorP25
namespace Go.Proofs.YtnphphlincbgmaaDoor.P
open Go.RowKit Go.Proofs.YtnphphlincbgmaaDoorW.PrintWords Go.Proofs.YtnphphlincbgmaaDoorW.PrintLast Go.Proofs.YtnphphlincbgmaaDoorW.PrintMore
attribute [local go_sem] max2_int min2_int max_two min_two max_three min_three max_four min_four   -- for this text's walks alone
set_option linter.unusedVariables false
set_option linter.unusedSimpArgs false

/-! ### bits_Of: function 43 -/
mutual
def bits_Of.l0 : Nat → List Int → List Int → Int → Int → Option (List Int)
  | 0, _, _, _, _ => none
  | k + 1, x3, x7, x8, x9 => if x9 < x8 then (if 0 ≤ x9 then (if x9 < (x7.length : Int) then (bits_Of.l1 k x3 (rd x7 x9) x7 x8 x9 0) else (none)) else (none)) else (some x3)
def bits_Of.l1 : Nat → List Int → Int → List Int → Int → Int → Int → Option (List Int)
  | 0, _, _, _, _, _, _ => none
  | k + 1, x3, x5, x7, x8, x9, x13 => if x13 < 8 then (if 0 ≤ (wrap64 (7 - x13)) then (if x3.length < 140737488355328 then (bits_Of.l1 k (x3 ++ [Go.bits .and .u8 (shr .u8 x5 (wrap64 (7 - x13))) 1]) x5 x7 x8 x9 (wrap64 (x13 + 1))) else (none)) else (none)) else (bits_Of.l0 k x3 x7 x8 (wrap64 (x9 + 1)))
end
def bits_Of.f (k : Nat) (l0 : List Int) : Option (List Int) := bits_Of.l0 k ([] : List Int) l0 (l0.length : Int) 0
theorem bits_Of.mono_l : ∀ k, (∀ y0 y1 y2 y3, LeO (bits_Of.l0 k y0 y1 y2 y3) (bits_Of.l0 (k + 1) y0 y1 y2 y3)) ∧ (∀ y0 y1 y2 y3 y4 y5, LeO (bits_Of.l1 k y0 y1 y2 y3 y4 y5) (bits_Of.l1 (k + 1) y0 y1 y2 y3 y4 y5))
  | 0 => ⟨fun _ _ _ _ r h => by simp [bits_Of.l0] at h, fun _ _ _ _ _ _ r h => by simp [bits_Of.l1] at h⟩
  | k + 1 => by
    obtain ⟨ih0, ih1⟩ := bits_Of.mono_l k
    refine ⟨?_, ?_⟩
    · intro y0 y1 y2 y3
      unfold bits_Of.l0
      repeat' first
      | (with_reducible exact ih0 _ _ _ _)
      | (with_reducible exact ih1 _ _ _ _ _ _)
      | (with_reducible exact LeO.refl _)
      | (with_reducible exact LeO.none _)
      | (with_reducible refine LeO.ite ?_ ?_)
      | (with_reducible refine LeO.bind ?_ (fun _ => ?_))
      | exact ih0 _ _ _ _
      | exact ih1 _ _ _ _ _ _
      | exact LeO.none _
      | refine LeO.ite ?_ ?_
      | refine LeO.bind ?_ (fun _ => ?_)
    · intro y0 y1 y2 y3 y4 y5
      unfold bits_Of.l1
      repeat' first
      | (with_reducible exact ih0 _ _ _ _)
      | (with_reducible exact ih1 _ _ _ _ _ _)
      | (with_reducible exact LeO.refl _)
      | (with_reducible exact LeO.none _)
      | (with_reducible refine LeO.ite ?_ ?_)
      | (with_reducible refine LeO.bind ?_ (fun _ => ?_))
      | exact ih0 _ _ _ _
      | exact ih1 _ _ _ _ _ _
      | exact LeO.none _
      | refine LeO.ite ?_ ?_
      | refine LeO.bind ?_ (fun _ => ?_)
theorem bits_Of.mono : ∀ a0 k, LeO (bits_Of.f k a0) (bits_Of.f (k + 1) a0) := by
  intro a0 k
  obtain ⟨ih0, ih1⟩ := bits_Of.mono_l k
  unfold bits_Of.f
  repeat' first
      | (with_reducible exact ih0 _ _ _ _)
      | (with_reducible exact ih1 _ _ _ _ _ _)
      | (with_reducible exact LeO.refl _)
      | (with_reducible exact LeO.none _)
      | (with_reducible refine LeO.ite ?_ ?_)
      | (with_reducible refine LeO.bind ?_ (fun _ => ?_))
      | exact ih0 _ _ _ _
      | exact ih1 _ _ _ _ _ _
      | exact LeO.none _
      | refine LeO.ite ?_ ?_
      | refine LeO.bind ?_ (fun _ => ?_)
set_option maxHeartbeats 8000000 in
set_option maxRecDepth 100000 in
theorem bits_Of.calls (k : Nat) (A0 : Option Addr) (c0 : Nat) (l0 : List Int) (r : List Int) (w : World) (hr0 : Kd.C (Kd.int .u8) w A0 l0.length l0) (hc0 : l0.length ≤ c0) (h : bits_Of.f k l0 = some r) :
    Calls Tryd.prog 43 #[.slice A0 l0.length c0] w fun e w' => ∃ v0_ : Value, e = .returned (v0_) ∧ Kd.R (Kd.int .u8) 5 w' w.heap.size (fun _ => True) v0_ r ∧ Below w.heap.size w w' := by
  have HR0 := Aside0.mk hr0
  have HC0 := Aside0.mk hc0
  clear hr0 hc0
  have HB := Aside0.mk (Below.refl w.heap.size w)
  have H : (bits_Of.l0 k ([] : List Int) l0 (l0.length : Int) 0) = some r := h
  clear h
  have H' := Aside0.mk H
  clear H
  go_enter Tryd.func43, Tryd.ntmps43
  go_wp2
  go_loopg [3, 9] k (fun kq v3 v9 w' => ∃ (x3_1 : List Int) (x9_1 : Int), v9 = .int .i64 x9_1 ∧ Aside0 (bits_Of.l0 kq x3_1 l0 (l0.length : Int) x9_1 = some r) ∧ Aside0 (kq ≤ k) ∧ Aside0 (Kd.R (Kd.int .u8) 5 w' w.heap.size (fun _ => True) v3 x3_1) ∧ Aside0 (Below w.heap.size w w'))
  case atStart => exact ⟨(([] : List Int)), (0), (by first | rfl | (simp; done) | (simp [*]; done)), H', ⟨Nat.le_refl _⟩, ⟨by first | exact Kd.R_nil _ _ _ _ _ | exact Kd.N_nil _ _ _ _ _ | exact Kd.V_nil _ _ _ _ _ | exact Kd.Q_nil _ _ _ _ _ | exact Kd.S_nil _ _ _ _ _⟩, ⟨by repeat (first | (with_reducible first | exact HB.out | apply below_alloc | apply pw_below_drewN | apply below_drew1) | exact HB.out)⟩⟩
  case round =>
    clear H'
    obtain ⟨x3_1, x9_1, rfl, HA, HK1, HO_3, HB⟩ := hrel
    cases gk with
    | zero => exact absurd HA.out (by simp [bits_Of.l0])
    | succ k1 =>
      have H := HA.out
      clear HA
      simp only [bits_Of.l0] at H
      by_cases c2 : x9_1 < (l0.length : Int)
      · rw [if_pos c2] at H
        have c2b0 : decide (x9_1 < (l0.length : Int)) = true := decide_eq_true c2
        clear c2
        by_cases c3 : 0 ≤ x9_1
        · rw [if_pos c3] at H
          have c3b0 : decide (0 ≤ x9_1) = true := decide_eq_true c3
          clear c3
          by_cases c4 : x9_1 < (l0.length : Int)
          · rw [if_pos c4] at H
            have c4b0 : decide (x9_1 < (l0.length : Int)) = true := decide_eq_true c4
            clear c4
            have H' := Aside0.mk H
            clear H
            have p146 : 0 ≤ (x9_1 : Int) := of_decide_eq_true (by first | (with_reducible assumption) | assumption)
            have q146 : x9_1 < (l0.length : Int) := of_decide_eq_true (by first | (with_reducible assumption) | assumption)
            obtain ⟨ad146, e146, hx146_0⟩ := Kd.at_int HR0.out x9_1 p146 q146
            cases e146
            replace hx146_0 := (HB.out.cell (World.block_lt_of_cell? w _ hx146_0)).trans hx146_0
            replace p146 := eq_true p146
            replace q146 := eq_true q146
            go_wp2
            go_loopg [3, 13] k1 (fun kq v3 v13 w' => ∃ (x3_2 : List Int) (x13_2 : Int), v13 = .int .i64 x13_2 ∧ Aside0 (bits_Of.l1 kq x3_2 (rd l0 x9_1) l0 (l0.length : Int) x9_1 x13_2 = some r) ∧ Aside0 (kq ≤ k1) ∧ Aside0 (Kd.R (Kd.int .u8) 5 w' w.heap.size (fun _ => True) v3 x3_2) ∧ Aside0 (Below w.heap.size w w'))
            case atStart => exact ⟨(x3_1), (0), (by first | rfl | (simp; done) | (simp [*]; done)), H', ⟨Nat.le_refl _⟩, ⟨by (with_reducible repeat (first | apply Kd.R_alloc | apply Kd.R_drewN | apply Kd.R_drew)); exact HO_3.out⟩, ⟨by repeat (first | (with_reducible first | exact HB.out | apply below_alloc | apply pw_below_drewN | apply below_drew1) | exact HB.out)⟩⟩
            case round =>
              clear H'
              try clear p1
              try clear q1
              try clear hx1
              try clear c2
              try clear c2b0
              try clear p2
              try clear c3
              try clear c3b0
              try clear c4
              try clear c4b0
              try clear hx146_0
              try clear p146
              try clear q146
              obtain ⟨x3_2, x13_2, rfl, HA, HK2, HO_3, HB⟩ := hrel
              cases gk with
              | zero => exact absurd HA.out (by simp [bits_Of.l1])
              | succ k2 =>
                have H := HA.out
                clear HA
                simp only [bits_Of.l1] at H
                by_cases c5 : x13_2 < 8
                · rw [if_pos c5] at H
                  have c5b0 : decide (x13_2 < 8) = true := decide_eq_true c5
                  clear c5
                  obtain ⟨ji6, hji6⟩ : ∃ j_ : Int, (wrap64 (7 - x13_2)) = j_ := ⟨_, rfl⟩
                  replace H : (if 0 ≤ (ji6) then (if x3_2.length < 140737488355328 then (bits_Of.l1 k2 (x3_2 ++ [Go.bits .and .u8 (shr .u8 (rd l0 x9_1) (ji6)) 1]) (rd l0 x9_1) l0 (l0.length : Int) x9_1 (wrap64 (x13_2 + 1))) else (none)) else (none)) = some r := by first | (rw [hji6] at H; exact H) | (simp only [hji6] at H ⊢; exact H)
                  have hji6w : (IntKind.i64.wrap (7 - x13_2)) = ji6 := (i64_w _).trans hji6
                  by_cases c7 : 0 ≤ (ji6)
                  · rw [if_pos c7] at H
                    have c7b0 := eq_true c7
                    have c7b1 : decide (0 ≤ (ji6)) = true := decide_eq_true c7
                    clear c7
                    obtain ⟨ji8, hji8⟩ : ∃ j_ : Int, (shr .u8 (rd l0 x9_1) (ji6)) = j_ := ⟨_, rfl⟩
                    replace H : (if x3_2.length < 140737488355328 then (bits_Of.l1 k2 (x3_2 ++ [Go.bits .and .u8 (ji8) 1]) (rd l0 x9_1) l0 (l0.length : Int) x9_1 (wrap64 (x13_2 + 1))) else (none)) = some r := by first | (rw [hji8] at H; exact H) | (simp only [hji8] at H ⊢; exact H)
                    have hji8_ : ((rd l0 x9_1) / 2 ^ min (ji6).toNat 8) = ji8 := hji8
                    have hji8z : (ji6) ≤ 8 → ((rd l0 x9_1) / 2 ^ (ji6).toNat) = ji8 := shr_small hji8
                    by_cases c9 : x3_2.length < 140737488355328
                    · rw [if_pos c9] at H
                      have LMc9 := Aside0.mk c9
                      clear c9
                      obtain ⟨y147, hy147⟩ : ∃ y_ : List Int, y_ = (x3_2 ++ [Go.bits .and .u8 (ji8) 1]) := ⟨_, rfl⟩
                      replace H : (bits_Of.l1 k2 y147 (rd l0 x9_1) l0 (l0.length : Int) x9_1 (wrap64 (x13_2 + 1))) = some r := by first | (rw [hy147]; with_reducible exact H) | (have H2_ := (Option.bind_some _ _).symm.trans H; rw [hy147]; with_reducible exact H2_) | (have H2_ := (Option.bind_some _ _).symm.trans H; with_reducible exact H2_) | with_reducible exact H | (rw [hy147]; exact H) | exact H
                      have Ny147 := Aside0.mk hy147
                      clear hy147
                      have H' := Aside0.mk H
                      clear H
                      go_wp2_with (first | ((with_reducible refine gate_builtin (b := .append) (xs := #[.tmp 16, .tmp 22]) rfl ?_); at_builtin; refine Kd.R_append (Kd.int .u8) (w0 := w) w.heap.size rfl (.tmp 16) (.tmp 22) 35 5 (.int .u8 0) 1 rfl Tryd.underlying35 info5 rfl (by decide) (by omega) u3 x3_2 (Go.bits .and .u8 (ji8) 1) [.int .u8 (Go.bits .and .u8 (ji8) 1)] (fun _ => True) (fun _ => False) rfl rfl ?aP (fun _ hk => hk.elim) ?aF ?aO ?aB ?aS ?aL ?_; (case aP => exact rfl); (case aB => exact (by repeat (first | (with_reducible first | exact HB.out | apply below_alloc | apply pw_below_drewN | apply below_drew1) | exact HB.out))); (case aF => exact (fun _ _ => trivial)); (case aO => exact (by (with_reducible repeat (first | apply Kd.R_alloc | apply Kd.R_drewN | apply Kd.R_drew)); exact HO_3.out)); (case aS => exact (below_size (by repeat (first | (with_reducible first | exact HB.out | apply below_alloc | apply pw_below_drewN | apply below_drew1) | exact HB.out)))); (case aL => have := LMc9.out; omega); intro v148 w10 ho hb hg hat; rw [← Ny147.out] at ho; have n0_ := Aside0.mk (hb); have n1_ := Aside0.mk (ho); clear HB; clear HO_3; have HB := n0_; have HO149 := n1_; clear n0_ n1_; clear ho hb hg hat))
                      go_roundg k2
                      case measure => have := HK1.out; have := HK2.out; omega
                      case rel => exact ⟨(y147), (wrap64 (x13_2 + 1)), (by first | rfl | (simp; done) | (simp [*]; done)), H', ⟨by have := HK1.out; have := HK2.out; omega⟩, ⟨by (with_reducible repeat (first | apply Kd.R_alloc | apply Kd.R_drewN | apply Kd.R_drew)); exact HO149.out⟩, ⟨by repeat (first | (with_reducible first | exact HB.out | apply below_alloc | apply pw_below_drewN | apply below_drew1) | exact HB.out)⟩⟩
                    · rw [if_neg c9] at H
                      exact absurd H (by simp)
                  · rw [if_neg c7] at H
                    exact absurd H (by simp)
                · rw [if_neg c5] at H
                  have c5b0 : decide (x13_2 < 8) = false := decide_eq_false c5
                  clear c5
                  have H' := Aside0.mk H
                  clear H
                  go_wp2
                  go_roundg k2
                  case measure => have := HK1.out; have := HK2.out; omega
                  case rel => exact ⟨(x3_2), (wrap64 (x9_1 + 1)), (by first | rfl | (simp; done) | (simp [*]; done)), H', ⟨by have := HK1.out; have := HK2.out; omega⟩, ⟨by (with_reducible repeat (first | apply Kd.R_alloc | apply Kd.R_drewN | apply Kd.R_drew)); exact HO_3.out⟩, ⟨by repeat (first | (with_reducible first | exact HB.out | apply below_alloc | apply pw_below_drewN | apply below_drew1) | exact HB.out)⟩⟩
          · rw [if_neg c4] at H
            exact absurd H (by simp)
        · rw [if_neg c3] at H
          exact absurd H (by simp)
      · rw [if_neg c2] at H
        have c2b0 : decide (x9_1 < (l0.length : Int)) = false := decide_eq_false c2
        clear c2
        obtain rfl := Option.some.inj H
        go_wp2
        go_ret
        exact ⟨_, by first | rfl | (simp [errW_none, errW_some] <;> rfl) | (simp [*, errW_none, errW_some] <;> rfl), by (with_reducible repeat (first | apply Kd.R_alloc | apply Kd.R_drewN | apply Kd.R_drew)); exact HO_3.out, by repeat (first | (with_reducible first | exact HB.out | apply below_alloc | apply pw_below_drewN | apply below_drew1) | exact HB.out)⟩

end Go.Proofs.YtnphphlincbgmaaDoor.P

-- YtnphphlincbgmaaDoorPAkBit
namespace Go.Proofs.YtnphphlincbgmaaDoor.P
open Go Go.RowKit Go.Proofs.YtnphphlincbgmaaDoorW.PrintWords Go.Proofs.YtnphphlincbgmaaDoorW.PrintLast Go.Proofs.YtnphphlincbgmaaDoorW.PrintMore
set_option linter.unusedVariables false
set_option linter.unusedSimpArgs false
attribute [local go_sem ↓] Go.wp_at_zero Go.wp_at_succ

/-- But for block g and v's own row nothing has turned. -/
structure Fr (g : Nat) (v : Value) (w w' : World) : Prop where
  os : w'.os = w.os
  tape : w'.tape = w.tape
  output : w'.output = w.output
  size : w.heap.size ≤ w'.heap.size
  block : ∀ k, k < w.heap.size → k ≠ g → some k ≠ v.ownBlock → w'.heap[k]? = w.heap[k]?
theorem Fr.refl (g : Nat) (v : Value) (w : World) : Fr g v w w := ⟨rfl, rfl, rfl, Nat.le_refl _, fun _ _ _ _ => rfl⟩
/-- v' is v's row, or a newer one. -/
def Newer (w : World) (v v' : Value) : Prop := v'.ownBlock = v.ownBlock ∨ ∀ b, v'.ownBlock = some b → w.heap.size ≤ b
theorem Newer.refl (w : World) (v : Value) : Newer w v v := .inl rfl
theorem Newer.trans {w w1 : World} {v v1 v2 : Value} (h : Newer w v v1) (hs : w.heap.size ≤ w1.heap.size) (k : Newer w1 v1 v2) : Newer w v v2 := by
  rcases k with k | k
  · rcases h with h | h
    · exact .inl (k.trans h)
    · exact .inr fun b hb => h b (k ▸ hb)
  · exact .inr fun b hb => Nat.le_trans hs (k b hb)
theorem Fr.trans {g : Nat} {v v1 : Value} {w w1 w2 : World} (h : Fr g v w w1) (hn : Newer w v v1) (k : Fr g v1 w1 w2) : Fr g v w w2 :=
  ⟨k.os.trans h.os, k.tape.trans h.tape, k.output.trans h.output, Nat.le_trans h.size k.size, fun i hi hg hv => by
    rw [k.block i (Nat.lt_of_lt_of_le hi h.size) hg ?_, h.block i hi hg hv]
    rcases hn with hn | hn
    · rw [hn]; exact hv
    · intro e; have := hn i e.symm; omega⟩
theorem Fr.below {g : Nat} {v : Value} {w w' : World} (h : Fr g v w w') {B : Nat} (hB : B ≤ w.heap.size) (hg : B ≤ g) (hv : ∀ b, v.ownBlock = some b → B ≤ b) : Below B w w' :=
  ⟨h.os, h.tape, h.output, h.size, fun k hk => h.block k (by omega) (by omega) (fun e => by have := hv k e.symm; omega)⟩
/-- The writer at block g holds xs. -/
structure WS (w : World) (n₀ g : Nat) (v : Value) (xs : List Int) : Prop where
  box : Boxed w g 64 v
  low : n₀ ≤ g
  row : w.ownsRow n₀ 5 1 v xs.length (nums .u8 xs)
theorem WS.kept {w w' : World} {n₀ g : Nat} {v : Value} {xs : List Int} (h : WS w n₀ g v xs) (hg : w'.heap[g]? = w.heap[g]?) (hr : ∀ b, v.ownBlock = some b → w'.heap[b]? = w.heap[b]?) : WS w' n₀ g v xs := by
  refine ⟨hg.trans h.box, h.low, h.row.1, ?_⟩
  rcases h.row.2 with hn | ⟨b, cap, cur, rfl, hb, hc, rest⟩
  · exact .inl hn
  · exact .inr ⟨b, cap, cur, rfl, hb, (hr b rfl).trans hc, rest⟩
theorem WS.ne {w : World} {n₀ g : Nat} {v : Value} {xs : List Int} (h : WS w n₀ g v xs) : some g ≠ v.ownBlock := h.box.not_row (by decide) h.row
theorem WS.lt {w : World} {n₀ g : Nat} {v : Value} {xs : List Int} (h : WS w n₀ g v xs) : g < w.heap.size := h.box.lt
theorem WS.far {w w' : World} {n₀ g g' : Nat} {v v' : Value} {xs : List Int} (h : WS w n₀ g v xs) (hf : Fr g' v' w w') (hgg : g ≠ g') (h1 : some g ≠ v'.ownBlock) (h2 : ∀ b, v.ownBlock = some b → b ≠ g' ∧ some b ≠ v'.ownBlock) : WS w' n₀ g v xs :=
  h.kept (hf.block g h.lt hgg h1) fun b hb => hf.block b (h.row.lt b hb).2 (h2 b hb).1 (h2 b hb).2
theorem WS.below {w w' : World} {n₀ g : Nat} {v : Value} {xs : List Int} (h : WS w n₀ g v xs) (hb : Below w.heap.size w w') : WS w' n₀ g v xs :=
  h.kept (hb.block g h.lt) fun b e => hb.block b (h.row.lt b e).2

def bitioWidthF (n : Int) : Bool := decide (1 ≤ n) && decide (n ≤ 32)
set_option maxRecDepth 100000 in
set_option maxHeartbeats 4000000 in
theorem bitioWidth_calls (n : Int) (w : World) : Calls Tryd.prog 40 #[.int .i64 n] w fun e w' => e = .returned (.bool (bitioWidthF n)) ∧ Below w.heap.size w w' := by
  unfold bitioWidthF
  go_enter Tryd.func40, Tryd.ntmps40
  by_cases h1 : 1 ≤ n
  · by_cases h2 : n ≤ 32
    · have h1' : decide (1 ≤ n) = true := decide_eq_true h1
      have h2' : decide (n ≤ 32) = true := decide_eq_true h2
      go_wp2
      go_ret
      exact ⟨by simp [*], by repeat (first | (with_reducible first | exact Below.refl _ _ | apply below_drew1) | exact Below.refl _ _)⟩
    · have h1' : decide (1 ≤ n) = true := decide_eq_true h1
      have h2' : decide (n ≤ 32) = false := decide_eq_false h2
      go_wp2
      go_ret
      exact ⟨by simp [*], by repeat (first | (with_reducible first | exact Below.refl _ _ | apply below_drew1) | exact Below.refl _ _)⟩
  · have h1' : decide (1 ≤ n) = false := decide_eq_false h1
    go_wp2
    go_ret
    exact ⟨by simp [*], by repeat (first | (with_reducible first | exact Below.refl _ _ | apply below_drew1) | exact Below.refl _ _)⟩
theorem u8_info : (Tryd.prog.info? 5).map (fun i => (i.zero, i.size, i.bytes)) = some (some (.int .u8 0), 1, 1) := by kernel_rfl
def bitv (n : Int) (i : Nat) : Int := IntKind.u8.wrap (Go.bits .and .i64 (n / 2 ^ i) 1)
def putE (n wide : Int) : Int := if bitioWidthF wide = true then (if n < 0 then 5 else if n / 2 ^ wide.toNat = 0 then 0 else 5) else 1
def bitL (n : Int) (W r : Nat) : List Int := (List.range (W - r)).map fun j => bitv n (W - 1 - j)
def putL (n wide : Int) : List Int := if putE n wide = 0 then bitL n wide.toNat 0 else []
theorem Fr.of_below {g : Nat} {v : Value} {w w' : World} (h : Below w.heap.size w w') : Fr g v w w' := ⟨h.os, h.tape, h.output, h.size, fun k hk _ _ => h.block k hk⟩
theorem WS.appended {w w2 : World} {n₀ g gg cap : Nat} {v : Value} {xs : List Int} {x : Int} {o : Obj} (h : WS w n₀ g v xs)
    (hown : w2.ownsRow n₀ 5 1 (.slice (some ⟨gg, 0, none⟩) (xs.length + 1) cap) (xs.length + 1) (nums .u8 xs ++ [.int .u8 x]))
    (hgrow : (w.alloc o).drew.grownBy w2 v.ownBlock) (hat : v.ownBlock = some gg ∨ gg = w.heap.size + 1) :
    WS (w2.setCell ⟨g, 0, none⟩ (.slice (some ⟨gg, 0, none⟩) (xs.length + 1) cap)) n₀ g (.slice (some ⟨gg, 0, none⟩) (xs.length + 1) cap) (xs ++ [x]) ∧
      Fr g v w (w2.setCell ⟨g, 0, none⟩ (.slice (some ⟨gg, 0, none⟩) (xs.length + 1) cap)) ∧ Newer w v (.slice (some ⟨gg, 0, none⟩) (xs.length + 1) cap) := by
  have hgrow' : (w.alloc o).grownBy w2 v.ownBlock := ⟨hgrow.os, hgrow.tape, hgrow.output, hgrow.size, hgrow.block⟩
  have hb : Boxed w2 g 64 v := (h.box.alloc o).kept hgrow' h.ne
  have hs := grownBy_setCell' w2 g (.slice (some ⟨gg, 0, none⟩) (xs.length + 1) cap)
  refine ⟨⟨hb.set _, h.low, ?_⟩, ⟨hs.os.trans hgrow'.os, hs.tape.trans hgrow'.tape, hs.output.trans hgrow'.output, ?_, ?_⟩, ?_⟩
  · have := hown.kept hs (.inr (hb.not_row (by decide) hown).symm)
    rw [List.length_append, show [x].length = 1 from rfl, show nums .u8 (xs ++ [x]) = nums .u8 xs ++ [.int .u8 x] from by simp [nums]]
    exact this
  · have h1 := hgrow'.size
    have h2 := hs.size
    rw [World.size_alloc] at h1
    omega
  · intro k hk hkg hkv
    have h1 : (w.alloc o).heap[k]? = w.heap[k]? := Below.heap_alloc w o k hk
    rw [hs.block k (by have := hgrow'.size; rw [World.size_alloc] at this; omega) (fun e => hkg (by injection e)), hgrow'.block k (by rw [World.size_alloc]; omega) hkv, h1]
  · rcases hat with e | e
    · exact .inl e.symm
    · exact .inr fun b hb' => by
        have : b = gg := by simpa [Value.ownBlock] using hb'.symm
        omega
theorem bitL_succ (n : Int) (W r : Nat) (hr : r + 1 ≤ W) : bitL n W r = bitL n W (r + 1) ++ [bitv n r] := by
  unfold bitL
  rw [show W - r = (W - (r + 1)) + 1 by omega, List.range_succ, List.map_append]
  congr 1
  show [bitv n (W - 1 - (W - (r + 1)))] = _
  congr 2; omega
set_option maxRecDepth 100000 in
set_option maxHeartbeats 4000000 in
theorem bitioPut_calls (n₀ g : Nat) (v : Value) (xs : List Int) (n wide : Int) (w : World) (h : WS w n₀ g v xs) (hlen : xs.length ≤ 1000000) :
    Calls Tryd.prog 22 #[.pointer (some ⟨g, 0, none⟩), .int .i64 n, .int .i64 wide] w fun e w' => e = .returned (.int .i64 (putE n wide)) ∧ ∃ v', WS w' n₀ g v' (xs ++ putL n wide) ∧ Fr g v w w' ∧ Newer w v v' := by
  obtain ⟨i0, hi, hz0, hz1, hz2⟩ := info_parts u8_info
  cases hwd : bitioWidthF wide with
  | false =>
    have e1 : putE n wide = 1 := by unfold putE; rw [hwd]; rfl
    have e2 : putL n wide = [] := by unfold putL; rw [e1]; rfl
    rw [e1, e2, List.append_nil]
    go_enter Tryd.func22, Tryd.ntmps22
    go_wp2_with (go_at_call 40; refine (bitioWidth_calls wide _).mono ?_; rintro e w1 ⟨rfl, hb⟩; simp only [hwd])
    go_ret
    exact ⟨by simp, v, h.below hb, Fr.of_below hb, Newer.refl _ _⟩
  | true =>
    have hwide : 1 ≤ wide ∧ wide ≤ 32 := by simpa [bitioWidthF] using hwd
    by_cases hn : n < 0
    · have e1 : putE n wide = 5 := by unfold putE; rw [hwd, if_pos rfl, if_pos hn]
      have e2 : putL n wide = [] := by unfold putL; rw [e1]; rfl
      have hn' : decide (n < 0) = true := decide_eq_true hn
      rw [e1, e2, List.append_nil]
      go_enter Tryd.func22, Tryd.ntmps22
      go_wp2_with (go_at_call 40; refine (bitioWidth_calls wide _).mono ?_; rintro e w1 ⟨rfl, hb⟩; simp only [hwd])
      go_ret
      exact ⟨by simp, v, h.below hb, Fr.of_below hb, Newer.refl _ _⟩
    · have hn' : decide (n < 0) = false := decide_eq_false hn
      obtain ⟨W, rfl⟩ := Int.eq_ofNat_of_zero_le (show 0 ≤ wide by omega)
      by_cases hs : n / 2 ^ W = 0
      · have e1 : putE n (W : Int) = 0 := by unfold putE; rw [hwd, if_pos rfl, if_neg hn, Int.toNat_natCast, if_pos hs]
        have hs' : (n / 2 ^ W != 0) = false := by simp [hs]
        have e2 : putL n (W : Int) = bitL n W 0 := by unfold putL; rw [e1]; rfl
        rw [e1, e2]
        go_enter Tryd.func22, Tryd.ntmps22
        go_wp2_with (go_at_call 40; refine (bitioWidth_calls (W : Int) _).mono ?_; rintro e w1 ⟨rfl, hb⟩; simp only [hwd])
        have hW := hwide
        go_loopw [7] (fun v7 wr => ∃ r : Nat, r ≤ W ∧ v7 = .int .i64 ((r : Int) - 1) ∧ ∃ v', Aside0 (WS wr n₀ g v' (xs ++ bitL n W r)) ∧ Aside0 (Fr g v w wr) ∧ Aside0 (Newer w v v')) (fun v7 _ => (intOf v7 + 1).toNat)
        case atStart =>
          refine ⟨W, Nat.le_refl _, by simp, v, ⟨?_⟩, ⟨Fr.of_below hb⟩, ⟨Newer.refl _ _⟩⟩
          unfold bitL; rw [Nat.sub_self, List.range_zero, List.map_nil, List.append_nil]; exact h.below hb
        case round =>
          obtain ⟨r, hr, rfl, v1, HS, HF, HN⟩ := hrel
          cases r with
          | zero =>
            go_wp2
            go_ret
            exact ⟨by simp, v1, HS.out, HF.out, HN.out⟩
          | succ r =>
            have e8 : (((r + 1 : Nat) : Int) - 1) = (r : Int) := by omega
            rw [e8]
            have hc := HS.out.box.cell
            have hf := HS.out.box.frozen
            go_wp2
            have hne := HS.out.ne
            have hlt := HS.out.lt
            have hl1 : (xs ++ bitL n W (r + 1)).length ≤ 1000100 := by
              rw [List.length_append]; unfold bitL; rw [List.length_map, List.length_range]; omega
            go_region_law
              (refine step_append_lies _ (by rfl) _ _ _ (by rfl) n₀ 5 i0 _ 1 1 Tryd.underlying35 hi hz0 hz1 hz2 rfl (by omega) v1 _ (nums .u8 (xs ++ bitL n W (r + 1))) (by rfl) (((HS.out.row).alloc _).drew)
                    ⟨wr.heap.size, 0, none⟩ 1 1 [.int .u8 (bitv n r)] (by rfl) (by rfl) (World.news_of_block (cs := #[.int .u8 (bitv n r)]) (t := 5) (fr := (0, 0)) (heap_alloc_new wr _)) (by simp [Value.oneCell'])
                    (by omega) (by unfold maxLen; omega) (by omega) (by have := HS.out.low; simp; omega) (wr.heap.size + 1) (by simp) ?_; intro gg cap w2 hown1 hgrow hat hlt2; have hc2 : w2.cell? ⟨g, 0, none⟩ = some v1 := (hgrow.cell_far _ (by simp; omega) hne).trans (HS.out.box.alloc _).cell; have hf2 : w2.frozen? ⟨g, 0, none⟩ = false := (hgrow.frozen_far _ (by simp; omega) hne).trans (HS.out.box.alloc _).frozen)
            all_goals
              go_wp2
              obtain ⟨hS2, hF2, hN2⟩ := HS.out.appended hown1 hgrow hat
              rw [List.length_append] at hS2 hF2 hN2
              go_roundw
              case rel =>
                refine ⟨r, by omega, by simp, _, ⟨?_⟩, ⟨HF.out.trans HN.out hF2⟩, ⟨HN.out.trans HF.out.size hN2⟩⟩
                rw [bitL_succ n W r hr, ← List.append_assoc]
                exact hS2
              case measure => simp [intOf]
      · have e1 : putE n (W : Int) = 5 := by unfold putE; rw [hwd, if_pos rfl, if_neg hn, Int.toNat_natCast, if_neg hs]
        have hs' : (n / 2 ^ W != 0) = true := by simp [hs]
        have e2 : putL n (W : Int) = [] := by unfold putL; rw [e1]; rfl
        rw [e1, e2, List.append_nil]
        go_enter Tryd.func22, Tryd.ntmps22
        go_wp2_with (go_at_call 40; refine (bitioWidth_calls (W : Int) _).mono ?_; rintro e w1 ⟨rfl, hb⟩; simp only [hwd])
        go_ret
        exact ⟨by simp, v, h.below hb, Fr.of_below hb, Newer.refl _ _⟩
theorem WS.R {w : World} {n₀ g : Nat} {v : Value} {xs : List Int} (h : WS w n₀ g v xs) : Kd.R (Kd.int .u8) 5 w n₀ (fun _ => True) v xs := ⟨fun _ _ => trivial, _, h.row, reps_u8 _ _ _ xs⟩
set_option maxRecDepth 100000 in
set_option maxHeartbeats 4000000 in
theorem bitioBytes_calls (n₀ g : Nat) (v : Value) (xs : List Int) (w : World) (h : WS w n₀ g v xs) (k : Nat) (bs : List Int) (r : Int) (hb : bits_Bytes.f k xs = some (bs, r)) :
    Calls Tryd.prog 24 #[.pointer (some ⟨g, 0, none⟩)] w fun e w' => ∃ u, e = .returned u ∧ Kd.R (Kd.int .u8) 5 w' w.heap.size (fun _ => True) u bs ∧ Below w.heap.size w w' := by
  obtain ⟨A, c, rfl⟩ := Kd.R_slice h.R
  have hR := Kd.R_reads' h.R
  have hc := h.box.cell
  go_enter Tryd.func24, Tryd.ntmps24
  go_wp2_with (go_at_call 21; refine (bits_Bytes.calls k _ _ xs bs r _ hR.2.2 hR.2.1 hb).mono ?_; rintro e w1 ⟨u, rfl, hu, hB⟩)
  go_ret
  exact ⟨u, by simp, hu, hB⟩
/-- But for block g nothing has turned. -/
abbrev Fg (g : Nat) (w w' : World) : Prop := Fr g (.slice none 0 0) w w'
theorem Fg.trans {g : Nat} {w w1 w2 : World} (h : Fg g w w1) (k : Fg g w1 w2) : Fg g w w2 := Fr.trans h (Newer.refl _ _) k
theorem Fg.at {g : Nat} {w w' : World} (h : Fg g w w') (k : Nat) (hk : k < w.heap.size) (hg : k ≠ g) : w'.heap[k]? = w.heap[k]? := h.block k hk hg (by simp [Value.ownBlock])
/-- The reader at block g has xs left; its row lies in lo ... g. -/
structure RS (w : World) (lo g : Nat) (v : Value) (xs : List Int) : Prop where
  box : Boxed w g 93 v
  row : Kd.V (Kd.int .u8) 5 w 0 (fun k => lo ≤ k ∧ k < g) v xs
theorem RS.kept {w w' : World} {lo g : Nat} {v : Value} {xs : List Int} (h : RS w lo g v xs) (hk : ∀ k, lo ≤ k → k ≤ g → w'.heap[k]? = w.heap[k]?) (hl : lo ≤ g) : RS w' lo g v xs :=
  ⟨(hk g hl (Nat.le_refl _)).trans h.box, Kd.V_step h.row (fun k ok _ => hk k ok.1 (Nat.le_of_lt ok.2))⟩
theorem RS.lt {w : World} {lo g : Nat} {v : Value} {xs : List Int} (h : RS w lo g v xs) : g < w.heap.size := h.box.lt
theorem RS.below {w w' : World} {lo g : Nat} {v : Value} {xs : List Int} (h : RS w lo g v xs) (hb : Below w.heap.size w w') (hl : lo ≤ g) : RS w' lo g v xs :=
  h.kept (fun k _ hk => hb.block k (by have := h.lt; omega)) hl
theorem RS.set {w : World} {lo g : Nat} {v v' : Value} {xs xs' : List Int} (h : RS w lo g v xs) (hv : Kd.V (Kd.int .u8) 5 w 0 (fun k => lo ≤ k ∧ k < g) v' xs') : RS (w.setCell ⟨g, 0, none⟩ v') lo g v' xs' :=
  ⟨h.box.set v', Kd.V_far hv (fun k hk => by show k ≠ g; omega) v'⟩
theorem Fg.set {w : World} {g : Nat} (v' : Value) : Fg g w (w.setCell ⟨g, 0, none⟩ v') := by
  have hs := grownBy_setCell' w g v'
  exact ⟨hs.os, hs.tape, hs.output, hs.size, fun k hk hg _ => hs.block k hk (fun e => hg (by injection e))⟩
theorem Fg.of_below {g : Nat} {w w' : World} (h : Below w.heap.size w w') : Fg g w w' := Fr.of_below h
set_option maxRecDepth 100000 in
set_option maxHeartbeats 4000000 in
theorem bitioOf_calls (A : Option Addr) (c : Nat) (l : List Int) (w : World) (hr : Kd.C (Kd.int .u8) w A l.length l) (hc : l.length ≤ c) (k : Nat) (bs : List Int) (hb : bits_Of.f k l = some bs) :
    Calls Tryd.prog 25 #[.slice A l.length c] w fun e w' => ∃ g v, e = .returned (.pointer (some ⟨g, 0, none⟩)) ∧ w.heap.size ≤ g ∧ RS w' w.heap.size g v bs ∧ Below w.heap.size w w' := by
  go_enter Tryd.func25, Tryd.ntmps25
  go_wp2_with (go_at_call 43; refine (bits_Of.calls k _ _ l bs _ hr hc hb).mono ?_; rintro e w1 ⟨u, rfl, hu, hB⟩; obtain ⟨A1, c1, rfl⟩ := Kd.R_slice hu)
  go_ret
  have hs : w.heap.size ≤ w1.heap.size := hB.size
  refine ⟨w1.heap.size, _, by simp, hs, ⟨Boxed.new w1 93 _, ?_⟩, below_alloc hB _⟩
  refine Kd.V_alloc ?_ _
  have hv : Kd.V (Kd.int .u8) 5 w1 0 (fun k => True ∧ w.heap.size ≤ k ∧ k < w1.heap.size ∧ ∃ q, q ∈ 5 :: (Kd.int .u8).E ∧ ∃ cells, w1.heap[k]? = some (.cells cells q (0, 0))) _ bs := Kd.R_V (Kd.R_bound hu)
  exact Kd.V_mono hv (fun k hk => ⟨hk.2.1, hk.2.2.1⟩)
def tkE (xs : List Int) (wide : Int) : Int := if bitioWidthF wide = true then (if (xs.length : Int) < wide then 2 else 0) else 1
def tkS (n b : Int) : Int := Go.bits .or .i64 (wrap64 (n * 2)) (wrap64 b)
def tkN (xs : List Int) (wide : Int) : Int := if tkE xs wide = 0 then (xs.take wide.toNat).foldl tkS 0 else 0
def tkL (xs : List Int) (wide : Int) : List Int := if tkE xs wide = 0 then xs.drop wide.toNat else xs
set_option maxRecDepth 100000 in
set_option maxHeartbeats 4000000 in
theorem bitioTake_calls (lo g : Nat) (v : Value) (xs : List Int) (wide : Int) (w : World) (h : RS w lo g v xs) (hlo : lo ≤ g) :
    Calls Tryd.prog 44 #[.pointer (some ⟨g, 0, none⟩), .int .i64 wide] w fun e w' => e = .returned (.tuple #[.int .i64 (tkN xs wide), .int .i64 (tkE xs wide)]) ∧ (∃ v', RS w' lo g v' (tkL xs wide)) ∧ Fg g w w' := by
  obtain ⟨i0, hi, hz0, hz1, hz2⟩ := info_parts u8_info
  obtain ⟨A, c, rfl⟩ := Kd.V_slice h.row
  have hC := Kd.V_reads' h.row
  cases hwd : bitioWidthF wide with
  | false =>
    have e1 : tkE xs wide = 1 := by unfold tkE; rw [hwd]; rfl
    have e2 : tkN xs wide = 0 := by unfold tkN; rw [e1]; rfl
    have e3 : tkL xs wide = xs := by unfold tkL; rw [e1]; rfl
    rw [e1, e2, e3]
    go_enter Tryd.func44, Tryd.ntmps44
    go_wp2_with (go_at_call 40; refine (bitioWidth_calls wide _).mono ?_; rintro e w1 ⟨rfl, hb⟩; simp only [hwd])
    go_ret2
    exact ⟨by simp, ⟨_, h.below hb hlo⟩, Fg.of_below hb⟩
  | true =>
    have hwide : 1 ≤ wide ∧ wide ≤ 32 := by simpa [bitioWidthF] using hwd
    have hc := h.box.cell
    have hf := h.box.frozen
    by_cases hs : (xs.length : Int) < wide
    · have e1 : tkE xs wide = 2 := by unfold tkE; rw [hwd, if_pos rfl, if_pos hs]
      have e2 : tkN xs wide = 0 := by unfold tkN; rw [e1]; rfl
      have e3 : tkL xs wide = xs := by unfold tkL; rw [e1]; rfl
      have hs' : decide ((xs.length : Int) < wide) = true := decide_eq_true hs
      rw [e1, e2, e3]
      go_enter Tryd.func44, Tryd.ntmps44
      go_wp2_with (go_at_call 40; refine (bitioWidth_calls wide _).mono ?_; rintro e w1 ⟨rfl, hb⟩; simp only [hwd]; have hc1 := (h.below hb hlo).box.cell)
      go_ret2
      exact ⟨by simp, ⟨_, h.below hb hlo⟩, Fg.of_below hb⟩
    · have e1 : tkE xs wide = 0 := by unfold tkE; rw [hwd, if_pos rfl, if_neg hs]
      have hs' : decide ((xs.length : Int) < wide) = false := decide_eq_false hs
      obtain ⟨W, rfl⟩ := Int.eq_ofNat_of_zero_le (show 0 ≤ wide by omega)
      have e2 : tkN xs (W : Int) = (xs.take W).foldl tkS 0 := by unfold tkN; rw [e1]; rfl
      have e3 : tkL xs (W : Int) = xs.drop W := by unfold tkL; rw [e1]; rfl
      rw [e1, e2, e3]
      obtain ⟨hcut, hA, hCC⟩ := print_take_of (P := Tryd.prog) (Value.int .u8) 0 35 5 .i64 Tryd.underlying35 hi hz1 A c xs (W : Int) (by omega) (by omega) hC.2.1
      obtain ⟨A', hcut2, hA2, hC2⟩ := print_drop_of (P := Tryd.prog) (Value.int .u8) 0 35 5 .i64 Tryd.underlying35 hi hz1 A c xs (W : Int) (by omega) (by omega) hC.2.1
      go_enter Tryd.func44, Tryd.ntmps44
      go_wp2_with (go_at_call 40; refine (bitioWidth_calls (W : Int) _).mono ?_; rintro e w1 ⟨rfl, hb⟩; simp only [hwd]; have h1 := h.below hb hlo; have hc1 := h1.box.cell; have hf1 := h1.box.frozen)
      have hmin : min W xs.length = W := by omega
      rw [hmin]
      have hD := Kd.C_below hC.2.2 hb
      go_loopw [6, 32] (fun v6 v32 wr => ∃ r : Nat, r ≤ W ∧ v32 = .int .i64 (r : Int) ∧ v6 = .int .i64 ((xs.take r).foldl tkS 0) ∧ wr = w1) (fun v6 v32 _ => W - (intOf v32).toNat)
      case atStart => exact ⟨0, by omega, by simp, by simp, rfl⟩
      case round =>
        obtain ⟨r, hr, rfl, rfl, rfl⟩ := hrel
        by_cases hlt : r < W
        · obtain ⟨ad, rfl, hcell⟩ := ReadsOf.at_ (Kd.reads_of_C (d := (0 : Int)) hD) (r : Int) (by omega) (by omega)
          rw [Int.toNat_natCast] at hcell
          have hlt' : decide ((r : Int) < (W : Int)) = true := decide_eq_true (by omega)
          go_wp2
          have hx : xs.take (r + 1) = xs.take r ++ [rdOf 0 xs (r : Int)] := by
            have hl : r < xs.length := by omega
            rw [List.take_succ_eq_append_getElem hl]
            congr 2
            simp [rdOf, hl]
          go_roundw
          case rel => exact ⟨r + 1, by omega, by simp, by rw [hx, List.foldl_append]; rfl, trivial⟩
          case measure => simp [intOf]; omega
        · obtain rfl : r = W := by omega
          have hlt' : decide ((r : Int) < (r : Int)) = false := decide_eq_false (by omega)
          go_wp2
          go_ret2
          have hv : Kd.V (Kd.int .u8) 5 wr 0 (fun k => lo ≤ k ∧ k < g) (.slice A' (xs.drop r).length (c - r)) (xs.drop r) :=
            Kd.V_mk hC2 (Kd.F_imp (Kd.V_at h1.row).2.2 (fun w' hw => Kd.C_of_reads (hA2 w' (Kd.reads_of_C hw))))
          rw [List.length_drop] at hv
          exact ⟨by simp, ⟨_, h1.set hv⟩, Fg.trans (Fg.of_below hb) (Fg.set _)⟩
theorem WS.new (w : World) : WS (w.alloc (.cells #[.slice none 0 0] 64)) w.heap.size w.heap.size (.slice none 0 0) [] :=
  ⟨Boxed.new w 64 _, Nat.le_refl _, rfl, .inl ⟨rfl, rfl⟩⟩
theorem WS.own {w : World} {n₀ g : Nat} {v : Value} {xs : List Int} (h : WS w n₀ g v xs) : ∀ b, v.ownBlock = some b → n₀ ≤ b := fun b hb => (h.row.lt b hb).1
end Go.Proofs.YtnphphlincbgmaaDoor.P

-- YtnphphlincbgmaaDoorPAkTake
namespace Go.Proofs.YtnphphlincbgmaaDoor.P
open Go Go.RowKit Go.Proofs.YtnphphlincbgmaaDoorW.PrintWords Go.Proofs.YtnphphlincbgmaaDoorW.PrintLast Go.Proofs.YtnphphlincbgmaaDoorW.PrintMore
set_option linter.unusedVariables false
set_option linter.unusedSimpArgs false

/-- The parser at block g: no error, a reader at block gr that has xs left. -/
structure PP (w : World) (lo gr g : Nat) (v : Value) (xs : List Int) : Prop where
  box : w.heap[g]? = some (.cells #[.pointer (some ⟨gr, 0, none⟩), .nilIface] 72 (0, 0))
  rd : RS w lo gr v xs
  low : lo ≤ gr
  lt : gr < g
theorem PP.size {w : World} {lo gr g : Nat} {v : Value} {xs : List Int} (h : PP w lo gr g v xs) : g < w.heap.size := blk_lt h.box
theorem PP.step {w w' : World} {lo gr g : Nat} {v v' : Value} {xs xs' : List Int} (h : PP w lo gr g v xs) (hr : RS w' lo gr v' xs') (hf : Fg gr w w') : PP w' lo gr g v' xs' :=
  ⟨(hf.at g h.size (by have := h.lt; omega)).trans h.box, hr, h.low, h.lt⟩
theorem PP.below {w w' : World} {lo gr g : Nat} {v : Value} {xs : List Int} (h : PP w lo gr g v xs) (hb : Below w.heap.size w w') : PP w' lo gr g v xs :=
  h.step (h.rd.below hb h.low) (Fg.of_below hb)
set_option maxRecDepth 100000 in
set_option maxHeartbeats 4000000 in
theorem ptake_calls {w : World} {lo gr g : Nat} {v : Value} {xs : List Int} (h : PP w lo gr g v xs) (s : ByteArray) (wide : Int) (hE : tkE xs wide = 0) :
    Calls Tryd.prog 26 #[.pointer (some ⟨g, 0, none⟩), .string s, .int .i64 wide] w fun e w' => e = .returned (.int .i64 (tkN xs wide)) ∧ (∃ v', PP w' lo gr g v' (tkL xs wide)) ∧ Fg gr w w' := by
  have hc0 := blk_cell h.box 0
  have hc1 := blk_cell h.box 1
  go_enter Tryd.func26, Tryd.ntmps26
  go_wp2_with (first
    | (go_at_call 44; refine (bitioTake_calls lo gr v xs wide w h.rd h.low).mono ?_; rintro e w1 ⟨rfl, ⟨v', hv⟩, hf⟩; rw [hE])
    | fail)
  go_ret
  exact ⟨by simp, ⟨v', h.step hv hf⟩, hf⟩
set_option maxRecDepth 100000 in
set_option maxHeartbeats 4000000 in
theorem pneed_calls {w : World} {lo gr g : Nat} {v : Value} {xs : List Int} (h : PP w lo gr g v xs) (s : ByteArray) (e : Int) :
    Calls Tryd.prog 28 #[.pointer (some ⟨g, 0, none⟩), .bool true, .string s, .int .i64 e] w fun e w' => e = .returned (.tuple #[]) ∧ Below w.heap.size w w' := by
  have hc0 := blk_cell h.box 0
  have hc1 := blk_cell h.box 1
  go_enter Tryd.func28, Tryd.ntmps28
  go_wp2_with fail
  refine bodyPost_end (results_none rfl _ _ _) rfl ?_
  exact ⟨by simp, Below.refl _ _⟩
set_option maxRecDepth 100000 in
set_option maxHeartbeats 4000000 in
theorem told_nil (w : World) : Calls Tryd.prog 15 #[.nilIface] w fun e w' => e = .returned (.int .i64 0) ∧ Below w.heap.size w w' := by
  go_enter Tryd.func15, Tryd.ntmps15
  go_wp2_with fail
  go_ret
  exact ⟨by simp, below_alloc (Below.refl _ _) _⟩
end Go.Proofs.YtnphphlincbgmaaDoor.P

-- YtnphphlincbgmaaDoorP7
namespace Go.Proofs.YtnphphlincbgmaaDoor.P
open Go.RowKit Go.Proofs.YtnphphlincbgmaaDoorW.PrintWords Go.Proofs.YtnphphlincbgmaaDoorW.PrintLast Go.Proofs.YtnphphlincbgmaaDoorW.PrintMore
attribute [local go_sem] max2_int min2_int max_two min_two max_three min_three max_four min_four   -- for this text's walks alone
set_option linter.unusedVariables false
set_option linter.unusedSimpArgs false

/-! ### crc16_step: function 55 -/
def crc16_step.l0 : Nat → Int → Int → Option (Int)
  | 0, _, _ => none
  | k + 1, x0, x11 => if x11 < 8 then (if (Go.bits .and .u16 x0 32768) = 0 then (crc16_step.l0 k (IntKind.u16.wrap (x0 * 2)) (wrap64 (x11 + 1))) else (crc16_step.l0 k (Go.bits .xor .u16 (IntKind.u16.wrap (x0 * 2)) 4129) (wrap64 (x11 + 1)))) else (some x0)
def crc16_step.f (k : Nat) (a0 : Int) (a1 : Int) : Option (Int) := crc16_step.l0 k (Go.bits .xor .u16 a0 (IntKind.u16.wrap ((IntKind.u16.wrap (a1)) * 256))) 0
theorem crc16_step.mono_l : ∀ k, (∀ y0 y1, LeO (crc16_step.l0 k y0 y1) (crc16_step.l0 (k + 1) y0 y1))
  | 0 => fun _ _ r h => by simp [crc16_step.l0] at h
  | k + 1 => by
    have ih0 := crc16_step.mono_l k
    · intro y0 y1
      unfold crc16_step.l0
      repeat' first
      | (with_reducible exact ih0 _ _)
      | (with_reducible exact LeO.refl _)
      | (with_reducible exact LeO.none _)
      | (with_reducible refine LeO.ite ?_ ?_)
      | (with_reducible refine LeO.bind ?_ (fun _ => ?_))
      | exact ih0 _ _
      | exact LeO.none _
      | refine LeO.ite ?_ ?_
      | refine LeO.bind ?_ (fun _ => ?_)
theorem crc16_step.mono : ∀ a0 a1 k, LeO (crc16_step.f k a0 a1) (crc16_step.f (k + 1) a0 a1) := by
  intro a0 a1 k
  have ih0 := crc16_step.mono_l k
  unfold crc16_step.f
  repeat' first
      | (with_reducible exact ih0 _ _)
      | (with_reducible exact LeO.refl _)
      | (with_reducible exact LeO.none _)
      | (with_reducible refine LeO.ite ?_ ?_)
      | (with_reducible refine LeO.bind ?_ (fun _ => ?_))
      | exact ih0 _ _
      | exact LeO.none _
      | refine LeO.ite ?_ ?_
      | refine LeO.bind ?_ (fun _ => ?_)
set_option maxHeartbeats 8000000 in
set_option maxRecDepth 100000 in
theorem crc16_step.calls (k : Nat) (a0 : Int) (a1 : Int) (r : Int) (w : World) (h : crc16_step.f k a0 a1 = some r) :
    Calls Tryd.prog 55 #[.int .u16 a0, .int .u8 a1] w fun e w' => e = .returned (.int .u16 r) ∧ Drawn0 w w' := by
  have H : (crc16_step.l0 k (Go.bits .xor .u16 a0 (IntKind.u16.wrap ((IntKind.u16.wrap (a1)) * 256))) 0) = some r := h
  clear h
  have H' := Aside0.mk H
  clear H
  go_enter Tryd.func55, Tryd.ntmps55
  go_wp2
  go_loopg [0, 11] k (fun kq v0 v11 w' => ∃ (x0_1 : Int) (x11_1 : Int), v0 = .int .u16 x0_1 ∧ v11 = .int .i64 x11_1 ∧ Aside0 (crc16_step.l0 kq x0_1 x11_1 = some r) ∧ Aside0 (kq ≤ k) ∧ Drawn0 w w')
  case atStart => exact ⟨(Go.bits .xor .u16 a0 (IntKind.u16.wrap ((IntKind.u16.wrap (a1)) * 256))), (0), (by first | rfl | (simp; done) | (simp [*]; done)), (by first | rfl | (simp; done) | (simp [*]; done)), H', ⟨Nat.le_refl _⟩, by repeat (first | exact Drawn0.refl _ | apply Drawn0.step)⟩
  case round =>
    clear H'
    try clear c1
    try clear p2
    obtain ⟨x0_1, x11_1, rfl, rfl, HA, HK1, ⟨m1, rfl⟩⟩ := hrel
    cases gk with
    | zero => exact absurd HA.out (by simp [crc16_step.l0])
    | succ k1 =>
      have H := HA.out
      clear HA
      simp only [crc16_step.l0] at H
      by_cases c3 : x11_1 < 8
      · rw [if_pos c3] at H
        have c3b0 : decide (x11_1 < 8) = true := decide_eq_true c3
        clear c3
        by_cases c4 : (Go.bits .and .u16 x0_1 32768) = 0
        · rw [if_pos c4] at H
          have c4b0 : ((Go.bits .and .u16 x0_1 32768) == 0) = true := beq_iff_eq.mpr c4
          have c4b1 : ((Go.bits .and .u16 x0_1 32768) != 0) = false := bne_eq_false_iff_eq.mpr c4
          clear c4
          have H' := Aside0.mk H
          clear H
          go_wp2
          go_roundg k1
          case measure => have := HK1.out; omega
          case rel => exact ⟨(IntKind.u16.wrap (x0_1 * 2)), (wrap64 (x11_1 + 1)), (by first | rfl | (simp; done) | (simp [*]; done)), (by first | rfl | (simp; done) | (simp [*]; done)), H', ⟨by have := HK1.out; omega⟩, by repeat (first | exact Drawn0.refl _ | apply Drawn0.step)⟩
        · rw [if_neg c4] at H
          have c4b0 : ((Go.bits .and .u16 x0_1 32768) == 0) = false := beq_eq_false_iff_ne.mpr c4
          have c4b1 : ((Go.bits .and .u16 x0_1 32768) != 0) = true := bne_iff_ne.mpr c4
          have H' := Aside0.mk H
          clear H
          go_wp2
          go_roundg k1
          case measure => have := HK1.out; omega
          case rel => exact ⟨(Go.bits .xor .u16 (IntKind.u16.wrap (x0_1 * 2)) 4129), (wrap64 (x11_1 + 1)), (by first | rfl | (simp; done) | (simp [*]; done)), (by first | rfl | (simp; done) | (simp [*]; done)), H', ⟨by have := HK1.out; omega⟩, by repeat (first | exact Drawn0.refl _ | apply Drawn0.step)⟩
      · rw [if_neg c3] at H
        have c3b0 : decide (x11_1 < 8) = false := decide_eq_false c3
        clear c3
        obtain rfl := Option.some.inj H
        go_wp2
        go_ret
        exact ⟨by first | rfl | (simp; done) | (simp [*]; done), by repeat (first | exact Drawn0.refl _ | apply Drawn0.step)⟩

end Go.Proofs.YtnphphlincbgmaaDoor.P

-- YtnphphlincbgmaaDoorP8
namespace Go.Proofs.YtnphphlincbgmaaDoor.P
open Go.RowKit Go.Proofs.YtnphphlincbgmaaDoorW.PrintWords Go.Proofs.YtnphphlincbgmaaDoorW.PrintLast Go.Proofs.YtnphphlincbgmaaDoorW.PrintMore
attribute [local go_sem] max2_int min2_int max_two min_two max_three min_three max_four min_four   -- for this text's walks alone
set_option linter.unusedVariables false
set_option linter.unusedSimpArgs false

/-! ### crc16_Sum: function 41 -/
def crc16_Sum.l0 : Nat → Int → List Int → Int → Int → Option (Int)
  | 0, _, _, _, _ => none
  | k + 1, x3, x6, x7, x8 => if x8 < x7 then (if 0 ≤ x8 then (if x8 < (x6.length : Int) then ((crc16_step.f k x3 (rd x6 x8)).bind fun t109 => (crc16_Sum.l0 k t109 x6 x7 (wrap64 (x8 + 1)))) else (none)) else (none)) else (some x3)
def crc16_Sum.f (k : Nat) (l0 : List Int) : Option (Int) := crc16_Sum.l0 k 65535 l0 (l0.length : Int) 0
theorem crc16_Sum.mono_l : ∀ k, (∀ y0 y1 y2 y3, LeO (crc16_Sum.l0 k y0 y1 y2 y3) (crc16_Sum.l0 (k + 1) y0 y1 y2 y3))
  | 0 => fun _ _ _ _ r h => by simp [crc16_Sum.l0] at h
  | k + 1 => by
    have ih0 := crc16_Sum.mono_l k
    · intro y0 y1 y2 y3
      unfold crc16_Sum.l0
      repeat' first
      | (with_reducible exact ih0 _ _ _ _)
      | (with_reducible exact crc16_step.mono _ _ _)
      | (with_reducible exact LeO.refl _)
      | (with_reducible exact LeO.none _)
      | (with_reducible refine LeO.ite ?_ ?_)
      | (with_reducible refine LeO.bind ?_ (fun _ => ?_))
      | exact ih0 _ _ _ _
      | exact crc16_step.mono _ _ _
      | exact LeO.none _
      | refine LeO.ite ?_ ?_
      | refine LeO.bind ?_ (fun _ => ?_)
theorem crc16_Sum.mono : ∀ a0 k, LeO (crc16_Sum.f k a0) (crc16_Sum.f (k + 1) a0) := by
  intro a0 k
  have ih0 := crc16_Sum.mono_l k
  unfold crc16_Sum.f
  repeat' first
      | (with_reducible exact ih0 _ _ _ _)
      | (with_reducible exact crc16_step.mono _ _ _)
      | (with_reducible exact LeO.refl _)
      | (with_reducible exact LeO.none _)
      | (with_reducible refine LeO.ite ?_ ?_)
      | (with_reducible refine LeO.bind ?_ (fun _ => ?_))
      | exact ih0 _ _ _ _
      | exact crc16_step.mono _ _ _
      | exact LeO.none _
      | refine LeO.ite ?_ ?_
      | refine LeO.bind ?_ (fun _ => ?_)
set_option maxHeartbeats 8000000 in
set_option maxRecDepth 100000 in
theorem crc16_Sum.calls (k : Nat) (A0 : Option Addr) (c0 : Nat) (l0 : List Int) (r : Int) (w : World) (hr0 : Kd.C (Kd.int .u8) w A0 l0.length l0) (hc0 : l0.length ≤ c0) (h : crc16_Sum.f k l0 = some r) :
    Calls Tryd.prog 41 #[.slice A0 l0.length c0] w fun e w' => e = .returned (.int .u16 r) ∧ Drawn0 w w' := by
  have HR0 := Aside0.mk hr0
  have HC0 := Aside0.mk hc0
  clear hr0 hc0
  have H : (crc16_Sum.l0 k 65535 l0 (l0.length : Int) 0) = some r := h
  clear h
  have H' := Aside0.mk H
  clear H
  go_enter Tryd.func41, Tryd.ntmps41
  go_wp2
  go_loopg [3, 8] k (fun kq v3 v8 w' => ∃ (x3_1 : Int) (x8_1 : Int), v3 = .int .u16 x3_1 ∧ v8 = .int .i64 x8_1 ∧ Aside0 (crc16_Sum.l0 kq x3_1 l0 (l0.length : Int) x8_1 = some r) ∧ Aside0 (kq ≤ k) ∧ Drawn0 w w')
  case atStart => exact ⟨(65535), (0), (by first | rfl | (simp; done) | (simp [*]; done)), (by first | rfl | (simp; done) | (simp [*]; done)), H', ⟨Nat.le_refl _⟩, by repeat (first | exact Drawn0.refl _ | apply Drawn0.step)⟩
  case round =>
    clear H'
    try clear c1
    obtain ⟨x3_1, x8_1, rfl, rfl, HA, HK1, ⟨m1, rfl⟩⟩ := hrel
    cases gk with
    | zero => exact absurd HA.out (by simp [crc16_Sum.l0])
    | succ k1 =>
      have H := HA.out
      clear HA
      simp only [crc16_Sum.l0] at H
      by_cases c2 : x8_1 < (l0.length : Int)
      · rw [if_pos c2] at H
        have c2b0 : decide (x8_1 < (l0.length : Int)) = true := decide_eq_true c2
        clear c2
        by_cases c3 : 0 ≤ x8_1
        · rw [if_pos c3] at H
          have c3b0 : decide (0 ≤ x8_1) = true := decide_eq_true c3
          clear c3
          by_cases c4 : x8_1 < (l0.length : Int)
          · rw [if_pos c4] at H
            have c4b0 : decide (x8_1 < (l0.length : Int)) = true := decide_eq_true c4
            clear c4
            replace H := Option.bind_eq_some_iff.mp H
            obtain ⟨t109, A50, H⟩ := H
            replace H : (crc16_Sum.l0 k1 t109 l0 (l0.length : Int) (wrap64 (x8_1 + 1))) = some r := H
            have A5 := Aside0.mk A50
            clear A50
            have H' := Aside0.mk H
            clear H
            have p108 : 0 ≤ (x8_1 : Int) := of_decide_eq_true (by first | (with_reducible assumption) | assumption)
            have q108 : x8_1 < (l0.length : Int) := of_decide_eq_true (by first | (with_reducible assumption) | assumption)
            obtain ⟨ad108, e108, hx108_0⟩ := Kd.at_int HR0.out x8_1 p108 q108
            cases e108
            replace p108 := eq_true p108
            replace q108 := eq_true q108
            go_wp2_with (first | ((with_reducible refine gate_callee (f := 55) rfl ?_); refine goesL_ (some 14) rfl rfl Tryd.func55 (by kernel_rfl) rfl #[.int .u16 x3_1, .int .u8 (rd l0 x8_1)] rfl (by (try simp only [List.map_toArray, List.map_cons, List.map_nil]); first | done | rfl | (simp only [List.length_drop, List.length_take]; rfl)) ?_; (with_reducible refine (crc16_step.calls k1 x3_1 (rd l0 x8_1) t109 _ A5.out).mono ?_); rintro e w' ⟨rfl, ⟨nd, rfl⟩⟩; refine ⟨_, rfl, ?_⟩))
            go_roundg k1
            case measure => have := HK1.out; omega
            case rel => exact ⟨(t109), (wrap64 (x8_1 + 1)), (by first | rfl | (simp; done) | (simp [*]; done)), (by first | rfl | (simp; done) | (simp [*]; done)), H', ⟨by have := HK1.out; omega⟩, by repeat (first | exact Drawn0.refl _ | apply Drawn0.step)⟩
          · rw [if_neg c4] at H
            exact absurd H (by simp)
        · rw [if_neg c3] at H
          exact absurd H (by simp)
      · rw [if_neg c2] at H
        have c2b0 : decide (x8_1 < (l0.length : Int)) = false := decide_eq_false c2
        clear c2
        obtain rfl := Option.some.inj H
        go_wp2
        go_ret
        exact ⟨by first | rfl | (simp; done) | (simp [*]; done), by repeat (first | exact Drawn0.refl _ | apply Drawn0.step)⟩

end Go.Proofs.YtnphphlincbgmaaDoor.P

-- YtnphphlincbgmaaDoorP9
namespace Go.Proofs.YtnphphlincbgmaaDoor.P
open Go.RowKit Go.Proofs.YtnphphlincbgmaaDoorW.PrintWords Go.Proofs.YtnphphlincbgmaaDoorW.PrintLast Go.Proofs.YtnphphlincbgmaaDoorW.PrintMore
attribute [local go_sem] max2_int min2_int max_two min_two max_three min_three max_four min_four   -- for this text's walks alone
set_option linter.unusedVariables false
set_option linter.unusedSimpArgs false

/-! ### slices_Clone_byte_byte: function 42 -/
def slices_Clone_byte_byte.f (l0 : List Int) : Option (List Int) := if l0.length < 140737488355328 then some l0 else none
set_option maxHeartbeats 8000000 in
set_option maxRecDepth 100000 in
theorem slices_Clone_byte_byte.calls (A0 : Option Addr) (c0 : Nat) (l0 : List Int) (r : List Int) (w : World) (hr0 : Kd.C (Kd.int .u8) w A0 l0.length l0) (hc0 : l0.length ≤ c0) (h : slices_Clone_byte_byte.f l0 = some r) :
    Calls Tryd.prog 42 #[.slice A0 l0.length c0] w fun e w' => ∃ v0_ : Value, e = .returned (v0_) ∧ Kd.R (Kd.int .u8) 5 w' w.heap.size (fun _ => True) v0_ r ∧ Below w.heap.size w w' := by
  have HR0 := Aside0.mk hr0
  have HC0 := Aside0.mk hc0
  have HB := Aside0.mk (Below.refl w.heap.size w)
  unfold slices_Clone_byte_byte.f at h
  by_cases c3 : l0.length < 140737488355328
  · rw [if_pos c3] at h
    obtain rfl := Option.some.inj h
    clear h
    cases A0 with
    | none =>
      have hl : l0 = [] := nil_of_none hr0
      subst hl
      have heq := fun wx => Lib.run_eql_slice_nil (P := Tryd.prog) wx 35 5 none 0 c0 0 0 Tryd.underlying35
      clear hr0 hc0
      go_enter Tryd.func42, Tryd.ntmps42
      go_wp2
      go_ret
      exact ⟨_, rfl, Kd.R_nil _ _ _ _ _, HB.out⟩
    | some a =>
      obtain ⟨y1, hy1⟩ : ∃ y_ : List Int, y_ = (([] : List Int)) := ⟨_, rfl⟩
      have Ny1 := Aside0.mk hy1
      have hr : l0 = y1 ++ l0 := by rw [hy1]; rfl
      have Nr := Aside0.mk hr
      have LM := Aside0.mk c3
      have hlen : y1.length = 0 := by rw [hy1]; rfl
      have NL := Aside0.mk hlen
      have heq := fun wx => Lib.run_eql_slice_nil (P := Tryd.prog) wx 35 5 (some a) l0.length c0 0 0 Tryd.underlying35
      clear hr0 hc0 hy1 hr c3 hlen
      go_enter Tryd.func42, Tryd.ntmps42
      go_wp2_with (first | ((with_reducible refine gate_dst (N := 5) rfl ?_); refine Kd.R_lit (Kd.int .u8) _ 5 ?hg (N := 5) ?hd (xs := ([] : List Int)) (inner := []) (ok := fun _ => True) (okp := fun _ => True) ?hr ?hp (fun _ hk => hk) trivial (Below.refl _ _) (Nat.le_refl _) (by simp) ?_; (case hd => rfl); (case hg => rfl); (case hr => first | (go_simp; done) | (go_simp; rfl)); (case hp => exact (Reps.none _ _)); intro v1 w5 ho6 hb hg_ hnew_; clear hg_ hnew_; rw [← Ny1.out] at ho6; have n0_ := Aside0.mk (Kd.R_lower ho6 (below_size (by repeat (first | (with_reducible first | exact HB.out | apply below_alloc | apply pw_below_drewN | apply below_drew1) | exact HB.out)))); have n1_ := Aside0.mk (below_step (by repeat (first | (with_reducible first | exact HB.out | apply below_alloc | apply pw_below_drewN | apply below_drew1) | exact HB.out)) hb); clear HB; have HO1 := n0_; have HB := n1_; clear n0_ n1_; clear hb ho6) | ((with_reducible refine gate_builtin (b := .append) (xs := #[.tmp 5, .tmp 6]) rfl ?_); at_builtin; refine Kd.R_append_rows (Kd.int .u8) (w0 := w) w.heap.size rfl (.tmp 5) (.tmp 6) 35 5 (.int .u8 0) 1 rfl Tryd.underlying35 info5 rfl (by decide) (by omega) v1 y1 l0 _ _ _ (fun _ => True) (fun _ => False) rfl rfl ?aO ?aR (fun _ _ h => h) (fun _ h => h.elim) ?aF ?aB ?aS ?aL ?_; (case aR => repeat (first | exact (Kd.C_below HR0.out HB.out) | (with_reducible refine Kd.C_alloc ?_ _) | (with_reducible refine Kd.C_drewN ?_ _) | (with_reducible refine Kd.C_drew ?_))); (case aB => exact (by repeat (first | (with_reducible first | exact HB.out | apply below_alloc | apply pw_below_drewN | apply below_drew1) | exact HB.out))); (case aF => exact (fun _ _ => trivial)); (case aO => exact (by (with_reducible repeat (first | apply Kd.R_alloc | apply Kd.R_drewN | apply Kd.R_drew)); exact HO1.out)); (case aS => exact (below_size (by repeat (first | (with_reducible first | exact HB.out | apply below_alloc | apply pw_below_drewN | apply below_drew1) | exact HB.out)))); (case aL => have := LM.out; have := NL.out; omega); intro v114 w7 ho hb hg hat; rw [← Nr.out] at ho; have n0_ := Aside0.mk (hb); have n1_ := Aside0.mk (ho); clear HB; clear HO1; have HB := n0_; have HO115 := n1_; clear n0_ n1_; clear ho hb hg hat))
      go_ret
      exact ⟨_, rfl, HO115.out, HB.out⟩
  · rw [if_neg c3] at h
    exact absurd h (by simp)

end Go.Proofs.YtnphphlincbgmaaDoor.P

-- YtnphphlincbgmaaDoorP10
namespace Go.Proofs.YtnphphlincbgmaaDoor.P
open Go.RowKit Go.Proofs.YtnphphlincbgmaaDoorW.PrintWords Go.Proofs.YtnphphlincbgmaaDoorW.PrintLast Go.Proofs.YtnphphlincbgmaaDoorW.PrintMore
attribute [local go_sem] max2_int min2_int max_two min_two max_three min_three max_four min_four   -- for this text's walks alone
set_option linter.unusedVariables false
set_option linter.unusedSimpArgs false

/-! ### crc16_Seal: function 23 -/
def crc16_Seal.f (k : Nat) (l0 : List Int) : Option (List Int) := (crc16_Sum.f k l0).bind fun t110 => ((slices_Clone_byte_byte.f l0).bind fun t111 => ((some (([(t110 / 256) % 256, (t110) % 256] : List Int) : List Int)).bind fun y114 => (if t111.length + y114.length < 140737488355328 then (some (t111 ++ y114)) else (none))))
theorem crc16_Seal.mono : ∀ a0 k, LeO (crc16_Seal.f k a0) (crc16_Seal.f (k + 1) a0) := by
  intro a0 k
  unfold crc16_Seal.f
  repeat' first
      | (with_reducible exact crc16_Sum.mono _ _)
      | (with_reducible exact LeO.refl _)
      | (with_reducible exact LeO.none _)
      | (with_reducible refine LeO.ite ?_ ?_)
      | (with_reducible refine LeO.bind ?_ (fun _ => ?_))
      | exact crc16_Sum.mono _ _
      | exact LeO.none _
      | refine LeO.ite ?_ ?_
      | refine LeO.bind ?_ (fun _ => ?_)
set_option maxHeartbeats 8000000 in
set_option maxRecDepth 100000 in
theorem crc16_Seal.calls (k : Nat) (A0 : Option Addr) (c0 : Nat) (l0 : List Int) (r : List Int) (w : World) (hr0 : Kd.C (Kd.int .u8) w A0 l0.length l0) (hc0 : l0.length ≤ c0) (h : crc16_Seal.f k l0 = some r) :
    Calls Tryd.prog 23 #[.slice A0 l0.length c0] w fun e w' => ∃ v0_ : Value, e = .returned (v0_) ∧ Kd.R (Kd.int .u8) 5 w' w.heap.size (fun _ => True) v0_ r ∧ Below w.heap.size w w' := by
  have HR0 := Aside0.mk hr0
  have HC0 := Aside0.mk hc0
  clear hr0 hc0
  have HB := Aside0.mk (Below.refl w.heap.size w)
  have H : ((crc16_Sum.f k l0).bind fun t110 => ((slices_Clone_byte_byte.f l0).bind fun t111 => ((some (([(t110 / 256) % 256, (t110) % 256] : List Int) : List Int)).bind fun y114 => (if t111.length + y114.length < 140737488355328 then (some (t111 ++ y114)) else (none))))) = some r := h
  clear h
  replace H := Option.bind_eq_some_iff.mp H
  obtain ⟨t110, A20, H⟩ := H
  replace H : ((slices_Clone_byte_byte.f l0).bind fun t111 => ((some (([(t110 / 256) % 256, (t110) % 256] : List Int) : List Int)).bind fun y114 => (if t111.length + y114.length < 140737488355328 then (some (t111 ++ y114)) else (none)))) = some r := H
  have A2 := Aside0.mk A20
  clear A20
  replace H := Option.bind_eq_some_iff.mp H
  obtain ⟨t111, A30, H⟩ := H
  replace H : ((some (([(t110 / 256) % 256, (t110) % 256] : List Int) : List Int)).bind fun y114 => (if t111.length + y114.length < 140737488355328 then (some (t111 ++ y114)) else (none))) = some r := H
  have A3 := Aside0.mk A30
  clear A30
  obtain ⟨y114, hy114⟩ : ∃ y_ : List Int, y_ = (([(t110 / 256) % 256, (t110) % 256] : List Int)) := ⟨_, rfl⟩
  replace H : (if t111.length + y114.length < 140737488355328 then (some (t111 ++ y114)) else (none)) = some r := by first | (rw [hy114]; with_reducible exact H) | (have H2_ := (Option.bind_some _ _).symm.trans H; rw [hy114]; with_reducible exact H2_) | (have H2_ := (Option.bind_some _ _).symm.trans H; with_reducible exact H2_) | with_reducible exact H | (rw [hy114]; exact H) | exact H
  have Ny114 := Aside0.mk hy114
  clear hy114
  by_cases c4 : t111.length + y114.length < 140737488355328
  · rw [if_pos c4] at H
    have LMc4 := Aside0.mk c4
    clear c4
    obtain ⟨y117, hy117⟩ : ∃ y_ : List Int, y_ = (t111 ++ y114) := ⟨_, rfl⟩
    replace H : (some y117) = some r := by first | (rw [hy117]; with_reducible exact H) | (have H2_ := (Option.bind_some _ _).symm.trans H; rw [hy117]; with_reducible exact H2_) | (have H2_ := (Option.bind_some _ _).symm.trans H; with_reducible exact H2_) | with_reducible exact H | (rw [hy117]; exact H) | exact H
    have Ny117 := Aside0.mk hy117
    clear hy117
    obtain rfl := Option.some.inj H
    go_enter Tryd.func23, Tryd.ntmps23
    go_wp2_with (first | ((with_reducible refine gate_callee (f := 41) rfl ?_); refine goesL_ (some 5) rfl rfl Tryd.func41 (by kernel_rfl) rfl #[.slice A0 l0.length c0] rfl (by (try simp only [List.map_toArray, List.map_cons, List.map_nil]); first | done | rfl | (simp only [List.length_drop, List.length_take]; rfl)) ?_; (with_reducible refine (crc16_Sum.calls k _ _ l0 t110 _ ?side1 ?side2 A2.out).mono ?_); (case side1 => repeat (first | exact HR0.out | (with_reducible refine Kd.C_alloc ?_ _) | (with_reducible refine Kd.C_drewN ?_ _) | (with_reducible refine Kd.C_drew ?_))); (case side2 => exact HC0.out); rintro e w' ⟨rfl, ⟨nd, rfl⟩⟩; refine ⟨_, rfl, ?_⟩) | ((with_reducible refine gate_callee (f := 42) rfl ?_); refine goesL_ (some 7) rfl rfl Tryd.func42 (by kernel_rfl) rfl #[.slice A0 l0.length c0] rfl (by (try simp only [List.map_toArray, List.map_cons, List.map_nil]); first | done | rfl | (simp only [List.length_drop, List.length_take]; rfl)) ?_; (with_reducible refine (slices_Clone_byte_byte.calls _ _ l0 t111 _ ?side1 ?side2 A3.out).mono ?_); (case side1 => repeat (first | exact HR0.out | (with_reducible refine Kd.C_alloc ?_ _) | (with_reducible refine Kd.C_drewN ?_ _) | (with_reducible refine Kd.C_drew ?_))); (case side2 => exact HC0.out); rintro e w5 ⟨v112, rfl, ho0, hb⟩; refine ⟨_, rfl, ?_⟩; have n0_ := Aside0.mk (Kd.R_lower ho0 (below_size (by repeat (first | (with_reducible first | exact HB.out | apply below_alloc | apply pw_below_drewN | apply below_drew1) | exact HB.out)))); have n1_ := Aside0.mk (below_step (by repeat (first | (with_reducible first | exact HB.out | apply below_alloc | apply pw_below_drewN | apply below_drew1) | exact HB.out)) hb); clear HB; have HO113 := n0_; have HB := n1_; clear n0_ n1_; (try clear hb); (try clear hb2); (try clear hk); (try clear hi); (try clear ho0)) | ((with_reducible refine gate_dst (N := 13) rfl ?_); refine Kd.R_lit (Kd.int .u8) _ 5 ?hg (N := 13) ?hd (xs := ([(t110 / 256) % 256, (t110) % 256] : List Int)) (inner := [.int .u8 ((t110 / 256) % 256), .int .u8 ((t110) % 256)]) (ok := fun _ => True) (okp := fun _ => True) ?hr ?hp (fun _ hk => hk) trivial (Below.refl _ _) (Nat.le_refl _) (by simp) ?_; (case hd => rfl); (case hg => rfl); (case hr => first | (go_simp; done) | (go_simp; rfl)); (case hp => exact (Reps.one (show Kd.M (Kd.int .u8) _ _ _ ((t110 / 256) % 256) [.int .u8 ((t110 / 256) % 256)] from rfl) (Reps.one (show Kd.M (Kd.int .u8) _ _ _ ((t110) % 256) [.int .u8 ((t110) % 256)] from rfl) (Reps.none _ _)))); intro v115 w6 ho7 hb hg_ hnew_; clear hg_ hnew_; (first | rw [← Ny114.out] at ho7 | (simp only [Int.reduceToNat] at ho7; rw [← Ny114.out] at ho7)); have n0_ := Aside0.mk (Kd.R_elder' (by (with_reducible repeat (first | apply Kd.R_alloc | apply Kd.R_drewN | apply Kd.R_drew)); exact HO113.out) (Kd.R_base ho7) hb); have n1_ := Aside0.mk (Kd.R_lower (Kd.R_new' ho7 (Kd.R_lt (by (with_reducible repeat (first | apply Kd.R_alloc | apply Kd.R_drewN | apply Kd.R_drew)); exact HO113.out))) (below_size (by repeat (first | (with_reducible first | exact HB.out | apply below_alloc | apply pw_below_drewN | apply below_drew1) | exact HB.out)))); have n2_ := Aside0.mk (below_step (by repeat (first | (with_reducible first | exact HB.out | apply below_alloc | apply pw_below_drewN | apply below_drew1) | exact HB.out)) hb); clear HO113; clear HB; have HO113 := n0_; have HO116 := n1_; have HB := n2_; clear n0_ n1_ n2_; clear hb ho7; obtain ⟨Ao9, co9, eo9⟩ := Kd.R_slice HO116.out; subst eo9) | ((with_reducible refine gate_builtin (b := .append) (xs := #[.tmp 7, .tmp 13]) rfl ?_); at_builtin; refine Kd.R_append_rows (Kd.int .u8) (w0 := w) w.heap.size rfl (.tmp 7) (.tmp 13) 35 5 (.int .u8 0) 1 rfl Tryd.underlying35 info5 rfl (by decide) (by omega) v112 t111 y114 _ _ _ (fun k_ => some k_ ≠ (.slice Ao9 y114.length co9 : Value).ownBlock) (fun _ => False) rfl rfl ?aO ?aR (fun _ _ h => h) (fun _ h => h.elim) ?aF ?aB ?aS ?aL ?_; (case aR => repeat (first | exact (Kd.R_reads' HO116.out).2.2 | (with_reducible refine Kd.C_alloc ?_ _) | (with_reducible refine Kd.C_drewN ?_ _) | (with_reducible refine Kd.C_drew ?_))); (case aB => exact (by repeat (first | (with_reducible first | exact HB.out | apply below_alloc | apply pw_below_drewN | apply below_drew1) | exact HB.out))); (case aF => exact (fun k_ hk => Kd.fresh' (Kd.R_lt (by (with_reducible repeat (first | apply Kd.R_alloc | apply Kd.R_drewN | apply Kd.R_drew)); exact HO116.out)) k_ hk)); (case aO => exact (by (with_reducible repeat (first | apply Kd.R_alloc | apply Kd.R_drewN | apply Kd.R_drew)); exact Kd.R_mono HO113.out (fun _ hk => hk.2))); (case aS => exact (below_size (by repeat (first | (with_reducible first | exact HB.out | apply below_alloc | apply pw_below_drewN | apply below_drew1) | exact HB.out)))); (case aL => have := LMc4.out; omega); intro v118 w8 ho hb hg hat; rw [← Ny117.out] at ho; have n0_ := Aside0.mk (Kd.R_after (ok := (fun _ => True)) (by (with_reducible repeat (first | apply Kd.R_alloc | apply Kd.R_drewN | apply Kd.R_drew)); exact HO116.out) hg hat); have n1_ := Aside0.mk (hb); have n2_ := Aside0.mk (ho); clear HO116; clear HB; clear HO113; have HO116 := n0_; have HB := n1_; have HO119 := n2_; clear n0_ n1_ n2_; clear ho hb hg hat))
    go_ret
    exact ⟨_, by first | rfl | (simp [errW_none, errW_some] <;> rfl) | (simp [*, errW_none, errW_some] <;> rfl), by (with_reducible repeat (first | apply Kd.R_alloc | apply Kd.R_drewN | apply Kd.R_drew)); exact Kd.R_mono HO119.out (fun _ hk => trivial), by repeat (first | (with_reducible first | exact HB.out | apply below_alloc | apply pw_below_drewN | apply below_drew1) | exact HB.out)⟩
  · rw [if_neg c4] at H
    exact absurd H (by simp)

end Go.Proofs.YtnphphlincbgmaaDoor.P

-- YtnphphlincbgmaaDoorPAkPack
namespace Go.Proofs.YtnphphlincbgmaaDoor.P
open Go Go.RowKit Go.Proofs.YtnphphlincbgmaaDoorW.PrintWords Go.Proofs.YtnphphlincbgmaaDoorW.PrintLast Go.Proofs.YtnphphlincbgmaaDoorW.PrintMore
set_option linter.unusedVariables false
set_option linter.unusedSimpArgs false

/-- The bits of an ack's first fields. -/
def pk (x y : Int) : Nat → List Int
  | 0 => []
  | 1 => putL 2 4
  | 2 => putL 2 4 ++ putL 0 4
  | 3 => putL 2 4 ++ putL 0 4 ++ putL x 16
  | _ => putL 2 4 ++ putL 0 4 ++ putL x 16 ++ putL y 32
theorem putL_le (n wd : Int) : (putL n wd).length ≤ 32 := by
  unfold putL
  by_cases h : putE n wd = 0
  · rw [if_pos h]
    have hw : bitioWidthF wd = true := by
      cases e : bitioWidthF wd
      · unfold putE at h; rw [e] at h; cases h
      · rfl
    unfold bitioWidthF at hw
    rw [Bool.and_eq_true, decide_eq_true_eq, decide_eq_true_eq] at hw
    unfold bitL
    rw [List.length_map, List.length_range]; omega
  · rw [if_neg h]; simp
theorem pk_le (x y : Int) (j : Nat) : (pk x y j).length ≤ 1000 := by
  have h1 := putL_le 2 4
  have h2 := putL_le 0 4
  have h3 := putL_le x 16
  have h4 := putL_le y 32
  unfold pk
  split <;> (first | omega | (simp only [List.length_append]; omega) | simp)
set_option maxRecDepth 100000 in
set_option maxHeartbeats 4000000 in
theorem pack_calls {w : World} {b : Nat} (x y : Int) (hb : w.heap[b]? = some (.cells #[.int .i64 2, .int .i64 4, .int .i64 0, .int .i64 4, .int .i64 x, .int .i64 16, .int .i64 y, .int .i64 32] 49 (0, 0))) (bs B : List Int) (k : Nat)
    (h1 : bits_Bytes.f k (pk x y 4) = some (bs, 0)) (h2 : crc16_Seal.f k bs = some B) :
    Calls Tryd.prog 13 #[.slice (some ⟨b, 0, none⟩) 4 4] w fun e w' => ∃ v, e = .returned v ∧ Kd.R (Kd.int .u8) 5 w' w.heap.size (fun _ => True) v B ∧ Below w.heap.size w w' := by
  have HX0 := Aside0.mk hb
  have HBL := Aside0.mk (blk_lt hb)
  have H1 := Aside0.mk h1
  have H2 := Aside0.mk h2
  have HN := Aside0.mk (WS.new w)
  have HBA := Aside0.mk (below_alloc (Below.refl w.heap.size w) (.cells #[.slice none 0 0] 64))
  clear hb h1 h2
  go_enter Tryd.func13, Tryd.ntmps13
  go_wp2_with fail
  have HX1 := Aside0.mk ((HBA.out.block b HBL.out).trans HX0.out)
  go_loopw [10] (fun v10 wr => ∃ (j : Nat) (v : Value), v10 = .int .i64 (j : Int) ∧ j ≤ 4 ∧ Aside0 (WS wr w.heap.size w.heap.size v (pk x y j)) ∧ Aside0 (wr.heap[b]? = some (.cells #[.int .i64 2, .int .i64 4, .int .i64 0, .int .i64 4, .int .i64 x, .int .i64 16, .int .i64 y, .int .i64 32] 49 (0, 0))) ∧ Aside0 (Below w.heap.size w wr)) (fun v10 _ => 4 - (intOf v10).toNat)
  case atStart => exact ⟨0, _, by simp, by omega, HN, HX1, HBA⟩
  case round =>
    clear HX1 HN HBA
    obtain ⟨j, v, rfl, hj, HS, HX, HB⟩ := hrel
    have hcase : j = 0 ∨ j = 1 ∨ j = 2 ∨ j = 3 ∨ j = 4 := by omega
    rcases hcase with rfl | rfl | rfl | rfl | rfl
    · skip
      have hc0 := blk_cell HX.out 0
      have hc1 := blk_cell HX.out 1
      go_wp2_with (first
        | (go_at_call 22; refine Aside0.out ?_)
        | fail)
      refine Aside0.mk ?_
      have hba := below_alloc (Below.refl wr.heap.size wr) (.cells #[.int .i64 2, .int .i64 4] 49)
      have hS2 := HS.out.below hba
      refine (bitioPut_calls _ _ _ _ 2 4 _ hS2 (Nat.le_trans (pk_le x y 0) (by decide))).mono ?_
      rintro e w2 ⟨rfl, v2, hS3, hf, hn⟩
      have hb2 : Below w.heap.size w w2 := (below_step HB.out hba).trans (hf.below (Nat.le_trans HB.out.size hba.size) (Nat.le_refl _) (fun b hb => hS2.own b hb))
      have HS3 := Aside0.mk (show WS w2 w.heap.size w.heap.size v2 (pk x y (0 + 1)) from hS3)
      have HB3 := Aside0.mk hb2
      have HX3 := Aside0.mk ((hb2.block b HBL.out).trans HX0.out)
      clear hS2 hS3 hf hn hb2 hba hc0 hc1 HX HS HB
      go_wp2_with fail
      go_roundw
      case rel => exact ⟨0 + 1, v2, by simp, by omega, HS3, HX3, HB3⟩
      case measure => simp [intOf]
    · skip
      have hc0 := blk_cell HX.out 2
      have hc1 := blk_cell HX.out 3
      go_wp2_with (first
        | (go_at_call 22; refine Aside0.out ?_)
        | fail)
      refine Aside0.mk ?_
      have hba := below_alloc (Below.refl wr.heap.size wr) (.cells #[.int .i64 0, .int .i64 4] 49)
      have hS2 := HS.out.below hba
      refine (bitioPut_calls _ _ _ _ 0 4 _ hS2 (Nat.le_trans (pk_le x y 1) (by decide))).mono ?_
      rintro e w2 ⟨rfl, v2, hS3, hf, hn⟩
      have hb2 : Below w.heap.size w w2 := (below_step HB.out hba).trans (hf.below (Nat.le_trans HB.out.size hba.size) (Nat.le_refl _) (fun b hb => hS2.own b hb))
      have HS3 := Aside0.mk (show WS w2 w.heap.size w.heap.size v2 (pk x y (1 + 1)) from hS3)
      have HB3 := Aside0.mk hb2
      have HX3 := Aside0.mk ((hb2.block b HBL.out).trans HX0.out)
      clear hS2 hS3 hf hn hb2 hba hc0 hc1 HX HS HB
      go_wp2_with fail
      go_roundw
      case rel => exact ⟨1 + 1, v2, by simp, by omega, HS3, HX3, HB3⟩
      case measure => simp [intOf]
    · skip
      have hc0 := blk_cell HX.out 4
      have hc1 := blk_cell HX.out 5
      go_wp2_with (first
        | (go_at_call 22; refine Aside0.out ?_)
        | fail)
      refine Aside0.mk ?_
      have hba := below_alloc (Below.refl wr.heap.size wr) (.cells #[.int .i64 x, .int .i64 16] 49)
      have hS2 := HS.out.below hba
      refine (bitioPut_calls _ _ _ _ x 16 _ hS2 (Nat.le_trans (pk_le x y 2) (by decide))).mono ?_
      rintro e w2 ⟨rfl, v2, hS3, hf, hn⟩
      have hb2 : Below w.heap.size w w2 := (below_step HB.out hba).trans (hf.below (Nat.le_trans HB.out.size hba.size) (Nat.le_refl _) (fun b hb => hS2.own b hb))
      have HS3 := Aside0.mk (show WS w2 w.heap.size w.heap.size v2 (pk x y (2 + 1)) from hS3)
      have HB3 := Aside0.mk hb2
      have HX3 := Aside0.mk ((hb2.block b HBL.out).trans HX0.out)
      clear hS2 hS3 hf hn hb2 hba hc0 hc1 HX HS HB
      go_wp2_with fail
      go_roundw
      case rel => exact ⟨2 + 1, v2, by simp, by omega, HS3, HX3, HB3⟩
      case measure => simp [intOf]
    · skip
      have hc0 := blk_cell HX.out 6
      have hc1 := blk_cell HX.out 7
      go_wp2_with (first
        | (go_at_call 22; refine Aside0.out ?_)
        | fail)
      refine Aside0.mk ?_
      have hba := below_alloc (Below.refl wr.heap.size wr) (.cells #[.int .i64 y, .int .i64 32] 49)
      have hS2 := HS.out.below hba
      refine (bitioPut_calls _ _ _ _ y 32 _ hS2 (Nat.le_trans (pk_le x y 3) (by decide))).mono ?_
      rintro e w2 ⟨rfl, v2, hS3, hf, hn⟩
      have hb2 : Below w.heap.size w w2 := (below_step HB.out hba).trans (hf.below (Nat.le_trans HB.out.size hba.size) (Nat.le_refl _) (fun b hb => hS2.own b hb))
      have HS3 := Aside0.mk (show WS w2 w.heap.size w.heap.size v2 (pk x y (3 + 1)) from hS3)
      have HB3 := Aside0.mk hb2
      have HX3 := Aside0.mk ((hb2.block b HBL.out).trans HX0.out)
      clear hS2 hS3 hf hn hb2 hba hc0 hc1 HX HS HB
      go_wp2_with fail
      go_roundw
      case rel => exact ⟨3 + 1, v2, by simp, by omega, HS3, HX3, HB3⟩
      case measure => simp [intOf]
    · skip
      go_wp2_with (first
        | (go_at_call 24; refine (bitioBytes_calls _ _ _ _ wr HS.out k bs 0 H1.out).mono ?_; rintro e w2 ⟨u, rfl, hu, hb⟩; obtain ⟨A, c, rfl⟩ := Kd.R_slice hu; have HU := Aside0.mk hu; have HB2 := Aside0.mk (below_step HB.out hb); clear hu hb)
        | (go_at_call 23; refine (crc16_Seal.calls k _ _ bs B w2 (Kd.R_reads' HU.out).2.2 (Kd.R_reads' HU.out).2.1 H2.out).mono ?_; rintro e w3 ⟨u, rfl, hu, hb⟩; have HU3 := Aside0.mk (Kd.R_lower hu (HB2.out.size)); have HB3 := Aside0.mk (below_step HB2.out hb); clear hu hb)
        | fail)
      go_ret
      exact ⟨_, by simp, HU3.out, HB3.out⟩
set_option maxRecDepth 100000 in
set_option maxHeartbeats 4000000 in
theorem write_calls (x y : Int) (hx : 0 ≤ x ∧ x ≤ 65535) (hy : 0 ≤ y ∧ y ≤ 4294967295) (bs B : List Int) (k : Nat) (h1 : bits_Bytes.f k (pk x y 4) = some (bs, 0)) (h2 : crc16_Seal.f k bs = some B) (w : World) :
    Calls Tryd.prog 6 #[.agg #[.int .i64 2, .int .u16 0, .int .i64 0, .int .i64 0, .slice none 0 0, .int .u16 x, .int .u32 y]] w fun e w' => ∃ v, e = .returned (.tuple #[v, .int .i64 0]) ∧ Kd.R (Kd.int .u8) 5 w' w.heap.size (fun _ => True) v B ∧ Below w.heap.size w w' := by
  have hxc : IntKind.i64.wrap x = x := by rw [IntKind.wrap_i64]; omega
  have hyc : IntKind.i64.wrap y = y := by rw [IntKind.wrap_i64]; omega
  have hxw : wrap64 x = x := by unfold wrap64; omega
  have hyw : wrap64 y = y := by unfold wrap64; omega
  clear hx hy
  have H1 := Aside0.mk h1
  have H2 := Aside0.mk h2
  clear h1 h2
  go_enter Tryd.func6, Tryd.ntmps6
  go_wp2_with (first
    | (go_at_call 13; refine Aside0.out ?_)
    | fail)
  refine Aside0.mk ?_
  have hba := below_alloc (below_alloc (Below.refl w.heap.size w) (.cells #[.int .i64 2, .int .u16 0, .int .i64 0, .int .i64 0, .slice none 0 0, .int .u16 x, .int .u32 y] 39)) (.cells #[.int .i64 2, .int .i64 4, .int .i64 0, .int .i64 4, .int .i64 x, .int .i64 16, .int .i64 y, .int .i64 32] 49)
  have hbb := blk_new (w.alloc (.cells #[.int .i64 2, .int .u16 0, .int .i64 0, .int .i64 0, .slice none 0 0, .int .u16 x, .int .u32 y] 39)) (.cells #[.int .i64 2, .int .i64 4, .int .i64 0, .int .i64 4, .int .i64 x, .int .i64 16, .int .i64 y, .int .i64 32] 49)
  rw [World.size_alloc] at hbb
  refine (pack_calls x y hbb bs B k H1.out H2.out).mono ?_
  rintro e w2 ⟨v, rfl, hv, hb⟩
  have HV := Aside0.mk (Kd.R_lower hv hba.size)
  have HB := Aside0.mk (below_step hba hb)
  clear hv hb hba hbb
  go_wp2_with fail
  go_ret2
  exact ⟨v, by simp, HV.out, HB.out⟩
end Go.Proofs.YtnphphlincbgmaaDoor.P

-- YtnphphlincbgmaaDoorP29
namespace Go.Proofs.YtnphphlincbgmaaDoor.P
open Go.RowKit Go.Proofs.YtnphphlincbgmaaDoorW.PrintWords Go.Proofs.YtnphphlincbgmaaDoorW.PrintLast Go.Proofs.YtnphphlincbgmaaDoorW.PrintMore
attribute [local go_sem] max2_int min2_int max_two min_two max_three min_three max_four min_four   -- for this text's walks alone
set_option linter.unusedVariables false
set_option linter.unusedSimpArgs false

/-! ### frame_Head: function 27 -/
def frame_Head.f (a0 : Int) : Option (Int) := if a0 = 1 then (some 6) else (if a0 = 2 then (some 9) else (some 0))
set_option maxHeartbeats 8000000 in
set_option maxRecDepth 100000 in
theorem frame_Head.calls (a0 : Int) (r : Int) (w : World) (h : frame_Head.f a0 = some r) :
    Calls Tryd.prog 27 #[.int .i64 a0] w fun e w' => e = .returned (.int .i64 r) ∧ Drawn0 w w' := by
  have H : (if a0 = 1 then (some 6) else (if a0 = 2 then (some 9) else (some 0))) = some r := h
  clear h
  by_cases c2 : a0 = 1
  · rw [if_pos c2] at H
    have c2b0 : (a0 == 1) = true := beq_iff_eq.mpr c2
    have c2b1 : (a0 != 1) = false := bne_eq_false_iff_eq.mpr c2
    clear c2
    obtain rfl := Option.some.inj H
    go_enter Tryd.func27, Tryd.ntmps27
    go_wp2
    go_ret
    exact ⟨by first | rfl | (simp; done) | (simp [*]; done), by repeat (first | exact Drawn0.refl _ | apply Drawn0.step)⟩
  · rw [if_neg c2] at H
    have c2b0 : (a0 == 1) = false := beq_eq_false_iff_ne.mpr c2
    have c2b1 : (a0 != 1) = true := bne_iff_ne.mpr c2
    by_cases c3 : a0 = 2
    · rw [if_pos c3] at H
      have c3b0 : (a0 == 2) = true := beq_iff_eq.mpr c3
      have c3b1 : (a0 != 2) = false := bne_eq_false_iff_eq.mpr c3
      clear c3
      obtain rfl := Option.some.inj H
      go_enter Tryd.func27, Tryd.ntmps27
      go_wp2
      go_ret
      exact ⟨by first | rfl | (simp; done) | (simp [*]; done), by repeat (first | exact Drawn0.refl _ | apply Drawn0.step)⟩
    · rw [if_neg c3] at H
      have c3b0 : (a0 == 2) = false := beq_eq_false_iff_ne.mpr c3
      have c3b1 : (a0 != 2) = true := bne_iff_ne.mpr c3
      obtain rfl := Option.some.inj H
      go_enter Tryd.func27, Tryd.ntmps27
      go_wp2
      go_ret
      exact ⟨by first | rfl | (simp; done) | (simp [*]; done), by repeat (first | exact Drawn0.refl _ | apply Drawn0.step)⟩

end Go.Proofs.YtnphphlincbgmaaDoor.P

-- YtnphphlincbgmaaDoorP31
namespace Go.Proofs.YtnphphlincbgmaaDoor.P
open Go.RowKit Go.Proofs.YtnphphlincbgmaaDoorW.PrintWords Go.Proofs.YtnphphlincbgmaaDoorW.PrintLast Go.Proofs.YtnphphlincbgmaaDoorW.PrintMore
attribute [local go_sem] max2_int min2_int max_two min_two max_three min_three max_four min_four   -- for this text's walks alone
set_option linter.unusedVariables false
set_option linter.unusedSimpArgs false

/-! ### crc16_Right: function 29 -/
def crc16_Right.f (k : Nat) (l0 : List Int) : Option (Bool) := if (l0.length : Int) ≥ 2 then ((crc16_Sum.f k l0).bind fun t155 => (some (t155 == 0))) else (some false)
theorem crc16_Right.mono : ∀ a0 k, LeO (crc16_Right.f k a0) (crc16_Right.f (k + 1) a0) := by
  intro a0 k
  unfold crc16_Right.f
  repeat' first
      | (with_reducible exact crc16_Sum.mono _ _)
      | (with_reducible exact LeO.refl _)
      | (with_reducible exact LeO.none _)
      | (with_reducible refine LeO.ite ?_ ?_)
      | (with_reducible refine LeO.bind ?_ (fun _ => ?_))
      | exact crc16_Sum.mono _ _
      | exact LeO.none _
      | refine LeO.ite ?_ ?_
      | refine LeO.bind ?_ (fun _ => ?_)
set_option maxHeartbeats 8000000 in
set_option maxRecDepth 100000 in
theorem crc16_Right.calls (k : Nat) (A0 : Option Addr) (c0 : Nat) (l0 : List Int) (r : Bool) (w : World) (hr0 : Kd.C (Kd.int .u8) w A0 l0.length l0) (hc0 : l0.length ≤ c0) (h : crc16_Right.f k l0 = some r) :
    Calls Tryd.prog 29 #[.slice A0 l0.length c0] w fun e w' => e = .returned (.bool r) ∧ Drawn0 w w' := by
  have HR0 := Aside0.mk hr0
  have HC0 := Aside0.mk hc0
  clear hr0 hc0
  have H : (if (l0.length : Int) ≥ 2 then ((crc16_Sum.f k l0).bind fun t155 => (some (t155 == 0))) else (some false)) = some r := h
  clear h
  by_cases c2 : (l0.length : Int) ≥ 2
  · rw [if_pos c2] at H
    have c2b0 : decide (2 ≤ (l0.length : Int)) = true := decide_eq_true c2
    have c2b1 : decide (2 ≤ l0.length) = true := decide_eq_true (by omega)
    clear c2
    replace H := Option.bind_eq_some_iff.mp H
    obtain ⟨t155, A30, H⟩ := H
    replace H : (some (t155 == 0)) = some r := H
    have A3 := Aside0.mk A30
    clear A30
    obtain rfl := Option.some.inj H
    go_enter Tryd.func29, Tryd.ntmps29
    go_wp2_with (first | (go_at_call 41; (with_reducible refine (crc16_Sum.calls k _ _ l0 t155 _ ?side1 ?side2 A3.out).mono ?_); (case side1 => repeat (first | exact HR0.out | (with_reducible refine Kd.C_alloc ?_ _) | (with_reducible refine Kd.C_drewN ?_ _) | (with_reducible refine Kd.C_drew ?_))); (case side2 => exact HC0.out); rintro e w' ⟨rfl, ⟨nd, rfl⟩⟩))
    go_ret
    exact ⟨by first | rfl | (simp; done) | (simp [*]; done), by repeat (first | exact Drawn0.refl _ | apply Drawn0.step)⟩
  · rw [if_neg c2] at H
    have c2b0 : decide (2 ≤ (l0.length : Int)) = false := decide_eq_false c2
    have c2b1 : decide (2 ≤ l0.length) = false := decide_eq_false (by omega)
    clear c2
    obtain rfl := Option.some.inj H
    go_enter Tryd.func29, Tryd.ntmps29
    go_wp2
    go_ret
    exact ⟨by first | rfl | (simp; done) | (simp [*]; done), by repeat (first | exact Drawn0.refl _ | apply Drawn0.step)⟩

end Go.Proofs.YtnphphlincbgmaaDoor.P

-- YtnphphlincbgmaaDoorPAkRead
namespace Go.Proofs.YtnphphlincbgmaaDoor.P
open Go Go.RowKit Go.Proofs.YtnphphlincbgmaaDoorW.PrintWords Go.Proofs.YtnphphlincbgmaaDoorW.PrintLast Go.Proofs.YtnphphlincbgmaaDoorW.PrintMore
set_option linter.unusedVariables false
set_option linter.unusedSimpArgs false

/-- A frame's cells. -/
def frm (kind x y : Int) : Array Value := #[.int .i64 kind, .int .u16 0, .int .i64 0, .int .i64 0, .slice none 0 0, .int .u16 x, .int .u32 y]
theorem frm_one (k x y : Int) : (frm k x y).all (·.oneCell') = true := by simp [frm, Value.oneCell']
theorem frm_size : (Tryd.prog.info? 39).map (·.size) = some 7 := by kernel_rfl
theorem Fg.below_far {gr g : Nat} {w w' : World} {o : Obj} (h : Fg gr w w') (hg : w.heap[g]? = some o) (hne : g ≠ gr) : w'.heap[g]? = some o := (h.at g (blk_lt hg) hne).trans hg
/-- But for block gr and what is new nothing has turned: behind n₀. -/
theorem Fg.lower {gr : Nat} {w w1 w2 : World} (h : Below w.heap.size w w1) (k : Fg gr w1 w2) : Fg gr w w2 := Fg.trans (Fg.of_below h) k
/-- One block alone has turned. -/
structure Put1 (a : Nat) (w w' : World) : Prop where
  os : w'.os = w.os
  tape : w'.tape = w.tape
  output : w'.output = w.output
  size : w'.heap.size = w.heap.size
  block : ∀ k, k ≠ a → w'.heap[k]? = w.heap[k]?
theorem Put1.set (a i : Nat) (w : World) (x : Value) : Put1 a w (w.setCell ⟨a, i, none⟩ x) := ⟨rfl, rfl, rfl, by simp, fun k hk => Below.heap_setCell w ⟨a, i, none⟩ x k hk⟩
theorem Put1.row (a : Nat) (w : World) (cs : Array Value) : Put1 a w (w.setRow a cs) := ⟨rfl, rfl, rfl, by simp [World.setRow], fun k hk => setRow_other w a k cs (by omega)⟩
theorem Fg.put {gr a : Nat} {w w1 w2 : World} (h : Fg gr w w1) (p : Put1 a w1 w2) (ha : w.heap.size ≤ a) : Fg gr w w2 :=
  ⟨p.os.trans h.os, p.tape.trans h.tape, p.output.trans h.output, Nat.le_trans h.size (Nat.le_of_eq p.size.symm), fun k hk hg hv => (p.block k (by omega)).trans (h.block k hk hg hv)⟩
theorem PP.put {w w' : World} {lo gr g a : Nat} {v : Value} {xs : List Int} (h : PP w lo gr g v xs) (p : Put1 a w w') (ha : g < a) : PP w' lo gr g v xs :=
  ⟨(p.block g (by omega)).trans h.box, h.rd.kept (fun k _ hk => p.block k (by have := h.lt; omega)) h.low, h.low, h.lt⟩
set_option maxRecDepth 100000 in
set_option maxHeartbeats 8000000 in
theorem pack_read {w : World} {lo gr g : Nat} {v : Value} {xs : List Int} (h : PP w lo gr g v xs) (x y : Int) (hx : 0 ≤ x ∧ x ≤ 65535) (hy : 0 ≤ y ∧ y ≤ 4294967295) (h1 : tkE xs 4 = 0) (h2 : tkN xs 4 = 0) (h3 : tkE (tkL xs 4) 16 = 0) (h4 : tkN (tkL xs 4) 16 = x)
    (h5 : tkE (tkL (tkL xs 4) 16) 32 = 0) (h6 : tkN (tkL (tkL xs 4) 16) 32 = y) :
    Calls Tryd.prog 30 #[.pointer (some ⟨g, 0, none⟩), .int .i64 0] w fun e w' => e = .returned (.agg (frm 2 x y)) ∧ (∃ v' xs', PP w' lo gr g v' xs') ∧ Fg gr w w' := by
  have HH := Aside0.mk h
  have H1 := Aside0.mk h1
  have H3 := Aside0.mk h3
  have H5 := Aside0.mk h5
  have hxc : IntKind.u16.wrap x = x := by rw [IntKind.wrap_u16]; omega
  have hyc : IntKind.u32.wrap y = y := by rw [IntKind.wrap_u32]; omega
  clear h h1 h3 h5 hx hy
  go_enter Tryd.func30, Tryd.ntmps30
  go_wp2_with (first
    | (go_at_call 26; refine Aside0.out ?_)
    | fail)
  refine Aside0.mk ?_
  have hba := below_alloc (Below.refl w.heap.size w) (.cells #[.int .i64 0, .int .u16 0, .int .i64 0, .int .i64 0, .slice none 0 0, .int .u16 0, .int .u32 0] 39)
  have hbb := blk_new w (.cells #[.int .i64 0, .int .u16 0, .int .i64 0, .int .i64 0, .slice none 0 0, .int .u16 0, .int .u32 0] 39)
  obtain ⟨a4, ha4⟩ : ∃ a4, a4 = w.heap.size := ⟨_, rfl⟩
  have HW := Aside0.mk (show w.heap.size ≤ a4 by rw [ha4]; exact Nat.le_refl _)
  have HG := Aside0.mk (show gr < g ∧ g < a4 from ⟨HH.out.lt, by rw [ha4]; exact HH.out.size⟩)
  rw [← ha4] at hbb ⊢
  refine (ptake_calls (HH.out.below hba) _ 4 H1.out).mono ?_
  rintro e w1 ⟨rfl, ⟨v1, hp⟩, hf⟩
  have HP1 := Aside0.mk hp
  have HF1 := Aside0.mk (Fg.lower hba hf)
  have HA1 := Aside0.mk (hf.below_far hbb (by have := HG.out; omega))
  rw [h2]
  clear hba hbb ha4 hp hf h2
  go_wp2_with (first
    | (go_at_call 28; refine Aside0.out ?_)
    | fail)
  refine Aside0.mk ?_
  refine (pneed_calls HP1.out _ _).mono ?_
  rintro e w2 ⟨rfl, hb⟩
  have HP2 := Aside0.mk (HP1.out.below hb)
  have HF2 := Aside0.mk (Fg.trans HF1.out (Fg.of_below hb))
  have HA2 := Aside0.mk ((hb.block a4 (blk_lt HA1.out)).trans HA1.out)
  clear hb HP1 HF1 HA1
  go_wp2_with (first
    | (go_at_call 28; refine Aside0.out ?_)
    | fail)
  refine Aside0.mk ?_
  refine (pneed_calls HP2.out _ _).mono ?_
  rintro e w3 ⟨rfl, hb⟩
  have HP3 := Aside0.mk (HP2.out.below hb)
  have HF3 := Aside0.mk (Fg.trans HF2.out (Fg.of_below hb))
  have HA3 := Aside0.mk ((hb.block a4 (blk_lt HA2.out)).trans HA2.out)
  clear hb HP2 HF2 HA2
  go_wp2_with (first
    | (go_at_call 26; refine Aside0.out ?_)
    | fail)
  refine Aside0.mk ?_
  have hba := below_alloc (Below.refl w3.heap.size w3) (.cells #[.int .i64 2, .int .u16 0, .int .i64 0, .int .i64 0, .slice none 0 0, .int .u16 0, .int .u32 0] 39)
  have hbb := blk_new w3 (.cells #[.int .i64 2, .int .u16 0, .int .i64 0, .int .i64 0, .slice none 0 0, .int .u16 0, .int .u32 0] 39)
  obtain ⟨a5, ha5⟩ : ∃ a5, a5 = w3.heap.size := ⟨_, rfl⟩
  have HL := Aside0.mk (show a4 < a5 by rw [ha5]; exact blk_lt HA3.out)
  rw [← ha5] at hbb ⊢
  refine (ptake_calls (HP3.out.below hba) _ 16 H3.out).mono ?_
  rintro e w4 ⟨rfl, ⟨v4, hp⟩, hf⟩
  have HP4 := Aside0.mk hp
  have HF4 := Aside0.mk (Fg.trans HF3.out (Fg.lower hba hf))
  have HA4 := Aside0.mk (hf.below_far (blk_below HA3.out hba) (by have := HG.out; omega))
  have HB4 := Aside0.mk (hf.below_far hbb (by have := HG.out; have := HL.out; omega))
  rw [h4]
  clear hba hbb ha5 hp hf h4 HP3 HF3 HA3
  have hfz := blk_frozen HB4.out 5
  have hfc := blk_cell HB4.out 5
  go_wp2_with (first
    | (go_at_call 26; refine Aside0.out ?_)
    | fail)
  refine Aside0.mk ?_
  have hpt := Put1.set a5 5 w4 (.int .u16 x)
  have HB5 := Aside0.mk (show (w4.setCell ⟨a5, 5, none⟩ (.int .u16 x)).heap[a5]? = some (.cells #[.int .i64 2, .int .u16 0, .int .i64 0, .int .i64 0, .slice none 0 0, .int .u16 x, .int .u32 0] 39 (0, 0)) from blk_put HB4.out 5 _ rfl)
  have HA5 := Aside0.mk ((hpt.block a4 (by have := HL.out; omega)).trans HA4.out)
  have HP5 := Aside0.mk (HP4.out.put hpt (by have := HG.out; have := HL.out; omega))
  have HF5 := Aside0.mk (HF4.out.put hpt (by have := HL.out; have := HW.out; omega))
  obtain ⟨w5, hw5⟩ : ∃ w5, w5 = w4.setCell ⟨a5, 5, none⟩ (.int .u16 x) := ⟨_, rfl⟩
  rw [← hw5] at HB5 HA5 HP5 HF5 ⊢
  clear hpt hw5 hfz hfc HP4 HF4 HA4 HB4
  refine (ptake_calls HP5.out _ 32 H5.out).mono ?_
  rintro e w6 ⟨rfl, ⟨v6, hp⟩, hf⟩
  have HP6 := Aside0.mk hp
  have HF6 := Aside0.mk (Fg.trans HF5.out hf)
  have HA6 := Aside0.mk (hf.below_far HA5.out (by have := HG.out; omega))
  have HB6 := Aside0.mk (hf.below_far HB5.out (by have := HG.out; have := HL.out; omega))
  rw [h6]
  clear hp hf h6 HP5 HF5 HA5 HB5
  have hfz := blk_frozen HB6.out 6
  have hfc := blk_cell HB6.out 6
  go_wp2_with (first
    | ((with_reducible refine gate_ (.load 39 (.tmp 5)) rfl ?_); refine Aside0.out ?_)
    | fail)
  refine Aside0.mk ?_
  have hpt := Put1.set a5 6 w6 (.int .u32 y)
  have HB7 := Aside0.mk (show (w6.setCell ⟨a5, 6, none⟩ (.int .u32 y)).heap[a5]? = some (.cells (frm 2 x y) 39 (0, 0)) from blk_put HB6.out 6 _ rfl)
  have HA7 := Aside0.mk ((hpt.block a4 (by have := HL.out; omega)).trans HA6.out)
  have HP7 := Aside0.mk (HP6.out.put hpt (by have := HG.out; have := HL.out; omega))
  have HF7 := Aside0.mk (HF6.out.put hpt (by have := HL.out; have := HW.out; omega))
  obtain ⟨w7, hw7⟩ : ∃ w7, w7 = w6.setCell ⟨a5, 6, none⟩ (.int .u32 y) := ⟨_, rfl⟩
  rw [← hw7] at HB7 HA7 HP7 HF7 ⊢
  clear hpt hw7 hfz hfc HP6 HF6 HA6 HB6
  have hu39 := Tryd.underlying39
  go_wp2_with (first
    | (refine wpList_load_row rfl 39 (.tmp 5) rfl a5 rfl 39 (frm 2 x y) (0, 0) _ HB7.out hu39 rfl frm_size ?_)
    | (refine wpList_store_row rfl 39 (.tmp 4) (.tmp 26) rfl a4 (frm 2 x y) rfl rfl 39 _ HA7.out frm_size rfl (frm_one 2 x y) ?_)
    | fail)
  refine bodyPost_ret (results_cell_row rfl _ _ a4 39 (frm 2 x y) (0, 0) _ rfl (setRow_heap _ _ _ _ _ _ HA7.out) hu39 rfl frm_size) rfl ?_
  have hpr := Put1.row a4 w7 (frm 2 x y)
  exact ⟨rfl, ⟨_, _, HP7.out.put hpr HG.out.2⟩, HF7.out.put hpr HW.out⟩
end Go.Proofs.YtnphphlincbgmaaDoor.P

-- YtnphphlincbgmaaDoorPAkParse
namespace Go.Proofs.YtnphphlincbgmaaDoor.P
open Go Go.RowKit Go.Proofs.YtnphphlincbgmaaDoorW.PrintWords Go.Proofs.YtnphphlincbgmaaDoorW.PrintLast Go.Proofs.YtnphphlincbgmaaDoorW.PrintMore
set_option linter.unusedVariables false
set_option linter.unusedSimpArgs false

/-- Nothing older than n₀ has turned. -/
theorem Fg.to_below {gr n₀ : Nat} {w w' : World} (h : Fg gr w w') (hn : n₀ ≤ gr) (hs : n₀ ≤ w.heap.size) : Below n₀ w w' :=
  ⟨h.os, h.tape, h.output, h.size, fun k hk => h.at k (by omega) (by omega)⟩
set_option maxRecDepth 100000 in
set_option maxHeartbeats 8000000 in
theorem parse_calls {w : World} {A : Option Addr} {c : Nat} {l xs : List Int} (hr : Kd.C (Kd.int .u8) w A l.length l) (hc : l.length ≤ c) (hl : l.length = 9) (k : Nat) (hof : bits_Of.f k l = some xs) (hri : crc16_Right.f k l = some true)
    (x y : Int) (hx : 0 ≤ x ∧ x ≤ 65535) (hy : 0 ≤ y ∧ y ≤ 4294967295) (e0 : tkE xs 4 = 0) (e1 : tkN xs 4 = 2) (h1 : tkE (tkL xs 4) 4 = 0) (h2 : tkN (tkL xs 4) 4 = 0) (h3 : tkE (tkL (tkL xs 4) 4) 16 = 0) (h4 : tkN (tkL (tkL xs 4) 4) 16 = x)
    (h5 : tkE (tkL (tkL (tkL xs 4) 4) 16) 32 = 0) (h6 : tkN (tkL (tkL (tkL xs 4) 4) 16) 32 = y) :
    Calls Tryd.prog 14 #[.slice A 9 c] w fun e w' => e = .returned (.tuple #[.agg (frm 2 x y), .nilIface]) ∧ Below w.heap.size w w' := by
  have HR := Aside0.mk hr
  have HC := Aside0.mk hc
  have HOF := Aside0.mk hof
  have HRI := Aside0.mk hri
  have HK := Aside0.mk (And.intro hx hy)
  have HE := Aside0.mk e0
  have HQ := Aside0.mk (And.intro h1 (And.intro h2 (And.intro h3 (And.intro h4 (And.intro h5 h6)))))
  have HL := Aside0.mk hl
  clear hr hc hof hri hx hy e0 h1 h2 h3 h4 h5 h6 hl
  go_enter Tryd.func14, Tryd.ntmps14
  go_wp2_with (first
    | (go_at_call 25; refine Aside0.out ?_)
    | fail)
  refine Aside0.mk ?_
  have hba := below_alloc (Below.refl w.heap.size w) (.cells #[.int .i64 0, .int .u16 0, .int .i64 0, .int .i64 0, .slice none 0 0, .int .u16 0, .int .u32 0] 39)
  have hbb := blk_new w (.cells #[.int .i64 0, .int .u16 0, .int .i64 0, .int .i64 0, .slice none 0 0, .int .u16 0, .int .u32 0] 39)
  obtain ⟨w1, hw1⟩ : ∃ w1, w1 = w.alloc (.cells #[.int .i64 0, .int .u16 0, .int .i64 0, .int .i64 0, .slice none 0 0, .int .u16 0, .int .u32 0] 39) := ⟨_, rfl⟩
  obtain ⟨a2, ha2⟩ : ∃ a2, a2 = w.heap.size := ⟨_, rfl⟩
  have HA0 := Aside0.mk (show w.heap.size ≤ a2 by rw [ha2]; exact Nat.le_refl _)
  rw [← hw1] at hba hbb
  rw [← ha2] at hbb
  rw [← hw1, ← ha2]
  have hof := bitioOf_calls A c l w1 (Kd.C_below HR.out hba) HC.out k xs HOF.out
  rw [HL.out] at hof
  refine hof.mono ?_
  rintro e w2 ⟨gr, v, rfl, hgr, hrs, hb⟩
  have HRS := Aside0.mk hrs
  have HB2 := Aside0.mk (below_step hba hb)
  have HA2 := Aside0.mk ((hb.block a2 (blk_lt hbb)).trans hbb)
  have HGR := Aside0.mk (show w1.heap.size ≤ gr ∧ a2 < gr ∧ w.heap.size ≤ gr from ⟨hgr, by have := blk_lt hbb; omega, by have := hba.size; omega⟩)
  clear hba hbb hw1 ha2 hof hrs hgr hb HOF
  go_wp2_with (first
    | (go_at_call 26; refine Aside0.out ?_)
    | fail)
  refine Aside0.mk ?_
  have hba := below_alloc (Below.refl w2.heap.size w2) (.cells #[.pointer (some ⟨gr, 0, none⟩), .nilIface] 72)
  have hbb := blk_new w2 (.cells #[.pointer (some ⟨gr, 0, none⟩), .nilIface] 72)
  obtain ⟨w3, hw3⟩ : ∃ w3, w3 = w2.alloc (.cells #[.pointer (some ⟨gr, 0, none⟩), .nilIface] 72) := ⟨_, rfl⟩
  obtain ⟨g, hg⟩ : ∃ g, g = w2.heap.size := ⟨_, rfl⟩
  rw [← hw3] at hba hbb
  rw [← hg] at hbb
  rw [← hw3, ← hg]
  have hpp : PP w3 w1.heap.size gr g v xs := ⟨hbb, HRS.out.below hba HGR.out.1, HGR.out.1, by rw [hg]; exact HRS.out.lt⟩
  have HB3 := Aside0.mk (below_step HB2.out hba)
  have HA3 := Aside0.mk ((hba.block a2 (blk_lt HA2.out)).trans HA2.out)
  clear hba hbb hw3 hg HRS HB2 HA2
  refine (ptake_calls hpp _ 4 HE.out).mono ?_
  rintro e w4 ⟨rfl, ⟨v4, hp⟩, hf⟩
  have HP4 := Aside0.mk hp
  have HB4 := Aside0.mk (HB3.out.trans (hf.to_below HGR.out.2.2 HB3.out.size))
  have HA4 := Aside0.mk (hf.below_far HA3.out (by have := HGR.out; omega))
  rw [e1]
  clear hp hf e1 hpp HB3 HA3 HE
  have HHD := Aside0.mk (frame_Head.calls 2 9 w4 rfl)
  go_wp2_with (first
    | (go_at_call 27; refine Aside0.out ?_)
    | fail)
  refine Aside0.mk ?_
  refine HHD.out.mono ?_
  rintro e w5 ⟨rfl, hd⟩
  have HP5 := Aside0.mk (HP4.out.below hd.below)
  have HB5 := Aside0.mk (below_step HB4.out hd.below)
  have HA5 := Aside0.mk ((hd.below.block a2 (blk_lt HA4.out)).trans HA4.out)
  clear hd HP4 HB4 HA4 HHD
  go_wp2_with (first
    | (go_at_call 28; refine Aside0.out ?_)
    | fail)
  refine Aside0.mk ?_
  refine (pneed_calls HP5.out _ _).mono ?_
  rintro e w6 ⟨rfl, hb⟩
  have HP6 := Aside0.mk (HP5.out.below hb)
  have HB6 := Aside0.mk (below_step HB5.out hb)
  have HA6 := Aside0.mk ((hb.block a2 (blk_lt HA5.out)).trans HA5.out)
  clear hb HP5 HB5 HA5
  go_wp2_with (first
    | (go_at_call 28; refine Aside0.out ?_)
    | fail)
  refine Aside0.mk ?_
  refine (pneed_calls HP6.out _ _).mono ?_
  rintro e w7 ⟨rfl, hb⟩
  have HP7 := Aside0.mk (HP6.out.below hb)
  have HB7 := Aside0.mk (below_step HB6.out hb)
  have HA7 := Aside0.mk ((hb.block a2 (blk_lt HA6.out)).trans HA6.out)
  clear hb HP6 HB6 HA6
  have hc0 := blk_cell HP7.out.box 0
  have hc1 := blk_cell HP7.out.box 1
  have hcut : ∀ W : World, (Instr.slice 35 (.slice A 9 c) none (some (.int .i64 9)) none).run Tryd.prog W = .ok (.slice A 9 c) W := by
    obtain ⟨i0, hi0, _, hsz, _⟩ := info_parts u8_info
    exact cut_to (P := Tryd.prog) 35 5 .i64 Tryd.underlying35 hi0 A 9 c 9 (by decide) (by decide) (by have := HC.out; rw [HL.out] at this; exact this)
  have hrt := crc16_Right.calls k A c l true w7 (Kd.C_below HR.out HB7.out) HC.out HRI.out
  rw [HL.out] at hrt
  have HRT := Aside0.mk hrt
  clear hrt
  go_wp2_with (first
    | (go_at_call 29; refine Aside0.out ?_)
    | fail)
  refine Aside0.mk ?_
  refine HRT.out.mono ?_
  rintro e w8 ⟨rfl, hd⟩
  have HP8 := Aside0.mk (HP7.out.below hd.below)
  have HB8 := Aside0.mk (below_step HB7.out hd.below)
  have HA8 := Aside0.mk ((hd.below.block a2 (blk_lt HA7.out)).trans HA7.out)
  clear hd HP7 HB7 HA7 HRT hc0 hc1 hcut
  go_wp2_with (first
    | (go_at_call 28; refine Aside0.out ?_)
    | fail)
  refine Aside0.mk ?_
  refine (pneed_calls HP8.out _ _).mono ?_
  rintro e w9 ⟨rfl, hb⟩
  have HP9 := Aside0.mk (HP8.out.below hb)
  have HB9 := Aside0.mk (below_step HB8.out hb)
  have HA9 := Aside0.mk ((hb.block a2 (blk_lt HA8.out)).trans HA8.out)
  clear hb HP8 HB8 HA8
  have hc0 := blk_cell HP9.out.box 0
  have hc1 := blk_cell HP9.out.box 1
  go_wp2_with (first
    | (go_at_call 30; refine Aside0.out ?_)
    | fail)
  refine Aside0.mk ?_
  have hba := below_alloc (Below.refl w9.heap.size w9) (.cells #[.int .i64 0, .int .u16 0, .int .i64 0, .int .i64 0, .slice none 0 0, .int .u16 0, .int .u32 0] 39)
  have hbb := blk_new w9 (.cells #[.int .i64 0, .int .u16 0, .int .i64 0, .int .i64 0, .slice none 0 0, .int .u16 0, .int .u32 0] 39)
  obtain ⟨w10, hw10⟩ : ∃ w10, w10 = w9.alloc (.cells #[.int .i64 0, .int .u16 0, .int .i64 0, .int .i64 0, .slice none 0 0, .int .u16 0, .int .u32 0] 39) := ⟨_, rfl⟩
  obtain ⟨a7, ha7⟩ : ∃ a7, a7 = w9.heap.size := ⟨_, rfl⟩
  have HG := Aside0.mk (show g < a7 ∧ a2 < a7 ∧ w.heap.size ≤ a7 from ⟨by rw [ha7]; exact HP9.out.size, by rw [ha7]; exact blk_lt HA9.out, by rw [ha7]; exact HB9.out.size⟩)
  rw [← hw10] at hba hbb
  rw [← ha7] at hbb
  rw [← hw10, ← ha7]
  have hpp := HP9.out.below hba
  have HB10 := Aside0.mk (below_step HB9.out hba)
  have HA10 := Aside0.mk ((hba.block a2 (blk_lt HA9.out)).trans HA9.out)
  have hq := HQ.out
  refine (pack_read hpp x y HK.out.1 HK.out.2 hq.1 hq.2.1 hq.2.2.1 hq.2.2.2.1 hq.2.2.2.2.1 hq.2.2.2.2.2).mono ?_
  rintro e w11 ⟨rfl, ⟨v11, xs11, hp⟩, hf⟩
  have HP11 := Aside0.mk hp
  have HB11 := Aside0.mk (HB10.out.trans (hf.to_below HGR.out.2.2 HB10.out.size))
  have HA11 := Aside0.mk (hf.below_far HA10.out (by have := HGR.out; omega))
  have HC11 := Aside0.mk (hf.below_far hbb (by have := HG.out; have := HP9.out.lt; omega))
  clear hba hbb hw10 ha7 hpp hq hp hf HP9 HB9 HA9 HB10 HA10 HQ hc0 hc1
  have hu39 := Tryd.underlying39
  go_wp2_with (first
    | (refine wpList_store_row rfl 39 (.tmp 7) (.tmp 55) rfl a7 (frm 2 x y) rfl rfl 39 _ HC11.out frm_size rfl (frm_one 2 x y) ?_; refine Aside0.out ?_)
    | fail)
  refine Aside0.mk ?_
  have hpr := Put1.row a7 w11 (frm 2 x y)
  have HP12 := Aside0.mk (HP11.out.put hpr HG.out.1)
  have HB12 := Aside0.mk (below_setRow HB11.out HG.out.2.2 (frm 2 x y))
  have HA12 := Aside0.mk ((hpr.block a2 (by have := HG.out; omega)).trans HA11.out)
  have HC12 := Aside0.mk (setRow_heap w11 a7 _ (frm 2 x y) _ _ HC11.out)
  obtain ⟨w12, hw12⟩ : ∃ w12, w12 = w11.setRow a7 (frm 2 x y) := ⟨_, rfl⟩
  rw [← hw12] at HP12 HB12 HA12 HC12 ⊢
  clear hw12 hpr HP11 HB11 HA11 HC11
  have hc0 := blk_cell HP12.out.box 0
  have hc1 := blk_cell HP12.out.box 1
  go_wp2_with (first
    | (refine wpList_load_row rfl 39 (.tmp 7) rfl a7 rfl 39 (frm 2 x y) (0, 0) _ HC12.out hu39 rfl frm_size ?_)
    | (refine wpList_store_row rfl 39 (.tmp 2) (.tmp 83) rfl a2 (frm 2 x y) rfl rfl 39 _ HA12.out frm_size rfl (frm_one 2 x y) ?_)
    | fail)
  refine bodyPost_ret (results_ct rfl _ _ a2 39 (frm 2 x y) (0, 0) _ rfl (setRow_heap _ _ _ _ _ _ HA12.out) hu39 rfl frm_size) rfl ?_
  exact ⟨rfl, below_setRow HB12.out HA0.out _⟩
end Go.Proofs.YtnphphlincbgmaaDoor.P

-- YtnphphlincbgmaaDoorPAkRd
namespace Go.Proofs.YtnphphlincbgmaaDoor.P
open Go Go.RowKit Go.Proofs.YtnphphlincbgmaaDoorW.PrintWords Go.Proofs.YtnphphlincbgmaaDoorW.PrintLast Go.Proofs.YtnphphlincbgmaaDoorW.PrintMore
set_option linter.unusedVariables false
set_option linter.unusedSimpArgs false
def read2.T : Bool × List (List Nat × List Nat) := (true, [([], []), ([], []), ([1], [1]), ([0, 2, 0], [0]), ([2, 3, 0, 1, 2, 3], [2])])
def read2.B : List Nat := [0, 0, 2, 7, 15]
theorem read2.tab : rtab .any (opsOf Tryd.f7 2) = read2.T := by kernel_rfl
theorem read2.bits : waitsOk read2.T.2 read2.B = true := by kernel_rfl
set_option maxRecDepth 100000 in
set_option maxHeartbeats 8000000 in
theorem read_calls {w : World} {A : Option Addr} {c : Nat} {l xs : List Int} (hr : Kd.C (Kd.int .u8) w A l.length l) (hc : l.length ≤ c) (hl : l.length = 9) (k : Nat) (hof : bits_Of.f k l = some xs) (hri : crc16_Right.f k l = some true)
    (x y : Int) (hx : 0 ≤ x ∧ x ≤ 65535) (hy : 0 ≤ y ∧ y ≤ 4294967295) (e0 : tkE xs 4 = 0) (e1 : tkN xs 4 = 2) (h1 : tkE (tkL xs 4) 4 = 0) (h2 : tkN (tkL xs 4) 4 = 0) (h3 : tkE (tkL (tkL xs 4) 4) 16 = 0) (h4 : tkN (tkL (tkL xs 4) 4) 16 = x)
    (h5 : tkE (tkL (tkL (tkL xs 4) 4) 16) 32 = 0) (h6 : tkN (tkL (tkL (tkL xs 4) 4) 16) 32 = y) :
    Calls Tryd.prog 7 #[.slice A 9 c] w fun e w' => e = .returned (.tuple #[.agg (frm 2 x y), .int .i64 0]) ∧ Below w.heap.size w w' := by
  have hba := below_alloc (Below.refl w.heap.size w) (.cells #[.int .i64 0, .int .u16 0, .int .i64 0, .int .i64 0, .slice none 0 0, .int .u16 0, .int .u32 0] 39)
  have hbb := blk_new w (.cells #[.int .i64 0, .int .u16 0, .int .i64 0, .int .i64 0, .slice none 0 0, .int .u16 0, .int .u32 0] 39)
  have HPC := Aside0.mk (parse_calls (Kd.C_below hr hba) hc hl k hof hri x y hx hy e0 e1 h1 h2 h3 h4 h5 h6)
  clear hr hc hl hof hri hx hy e0 e1 h1 h2 h3 h4 h5 h6
  obtain ⟨w1, hw1⟩ : ∃ w1, w1 = w.alloc (.cells #[.int .i64 0, .int .u16 0, .int .i64 0, .int .i64 0, .slice none 0 0, .int .u16 0, .int .u32 0] 39) := ⟨_, rfl⟩
  obtain ⟨a2, ha2⟩ : ∃ a2, a2 = w.heap.size := ⟨_, rfl⟩
  rw [← hw1] at hba hbb HPC
  rw [← ha2] at hbb
  have HB1 := Aside0.mk hba
  have HA1 := Aside0.mk hbb
  have HA0 := Aside0.mk (show w.heap.size ≤ a2 by rw [ha2]; exact Nat.le_refl _)
  clear hba hbb
  go_enter Tryd.func7, Tryd.ntmps7
  go_wp2_with (first
    | (go_at_call 14; refine Aside0.out ?_)
    | fail)
  refine Aside0.mk ?_
  rw [← hw1, ← ha2]
  clear hw1 ha2
  refine HPC.out.mono ?_
  rintro e w2 ⟨rfl, hb⟩
  have HB2 := Aside0.mk (below_step HB1.out hb)
  have HA2 := Aside0.mk ((hb.block a2 (blk_lt HA1.out)).trans HA1.out)
  clear hb HB1 HA1 HPC
  go_wp2_with (first
    | (refine wpList_store_row rfl 39 (.tmp 4) (.tmp 9) rfl w2.heap.size (frm 2 x y) rfl rfl 39 _ (blk_new w2 _) frm_size rfl (frm_one 2 x y) ?_; refine Aside0.out ?_)
    | fail)
  refine Aside0.mk ?_
  have hba := below_alloc (Below.refl w2.heap.size w2) (.cells #[.int .i64 0, .int .u16 0, .int .i64 0, .int .i64 0, .slice none 0 0, .int .u16 0, .int .u32 0] 39)
  have hbb := setRow_heap (w2.alloc (.cells #[.int .i64 0, .int .u16 0, .int .i64 0, .int .i64 0, .slice none 0 0, .int .u16 0, .int .u32 0] 39)) w2.heap.size _ (frm 2 x y) _ _ (blk_new w2 (.cells #[.int .i64 0, .int .u16 0, .int .i64 0, .int .i64 0, .slice none 0 0, .int .u16 0, .int .u32 0] 39))
  have hbs := below_setRow hba (Nat.le_refl _) (frm 2 x y)
  obtain ⟨a4, ha4⟩ : ∃ a4, a4 = w2.heap.size := ⟨_, rfl⟩
  obtain ⟨w3, hw3⟩ : ∃ w3, w3 = (w2.alloc (.cells #[.int .i64 0, .int .u16 0, .int .i64 0, .int .i64 0, .slice none 0 0, .int .u16 0, .int .u32 0] 39)).setRow w2.heap.size (frm 2 x y) := ⟨_, rfl⟩
  rw [← hw3] at hbs hbb ⊢
  have hbs : Below w2.heap.size w2 w3.drew := below_drew1 hbs
  have HB3 := Aside0.mk (below_step HB2.out hbs)
  have HA3 := Aside0.mk ((hbs.block a2 (blk_lt HA2.out)).trans HA2.out)
  rw [← ha4] at hbb ⊢
  have hcc := fun i => blk_cell (show w3.drew.heap[a4]? = some (.cells (frm 2 x y) 39 (0, 0)) from hbb) i
  have HS := Aside0.mk (show w3.drew.cell? ⟨a4, 0, none⟩ = some (.int .i64 2) ∧ w3.drew.cell? ⟨a4, 1, none⟩ = some (.int .u16 0) ∧ w3.drew.cell? ⟨a4, 2, none⟩ = some (.int .i64 0) ∧ w3.drew.cell? ⟨a4, 3, none⟩ = some (.int .i64 0) ∧ w3.drew.cell? ⟨a4, 4, none⟩ = some (.slice none 0 0) ∧ w3.drew.cell? ⟨a4, 5, none⟩ = some (.int .u16 x) ∧ w3.drew.cell? ⟨a4, 6, none⟩ = some (.int .u32 y) from ⟨hcc 0, hcc 1, hcc 2, hcc 3, hcc 4, hcc 5, hcc 6⟩)
  have HM := Aside0.mk (show w3.drew.heap[a4]? = some (.cells (frm 2 x y) 39 (0, 0)) from hbb)
  clear hba hbb hbs ha4 hw3 hcc HB2 HA2
  go_wp2_with fail
  refine start_ (n := 5) (S := (fun w' => w'.cell? ⟨a4, 0, none⟩ = some (.int .i64 2) ∧ w'.cell? ⟨a4, 1, none⟩ = some (.int .u16 0) ∧ w'.cell? ⟨a4, 2, none⟩ = some (.int .i64 0) ∧ w'.cell? ⟨a4, 3, none⟩ = some (.int .i64 0) ∧ w'.cell? ⟨a4, 4, none⟩ = some (.slice none 0 0) ∧ w'.cell? ⟨a4, 5, none⟩ = some (.int .u16 x) ∧ w'.cell? ⟨a4, 6, none⟩ = some (.int .u32 y))) (ds := [3]) #[false, false, false, false, false] (by kernel_rfl) rfl rfl HS.out (fun hHeld => ?_)
  refine with_tabW read2.tab read2.bits (fun HT_ HW_ => ?_)
  refine take_ (i := 0) (N := some 11) (v := ?_) (a' := ?_) #[true, false, false, false, false] rfl rfl (take_ofW HT_.out HW_.out (by kernel_rfl)) (fun _ _ _ h => h) (Or.inl ⟨by rfl, ?_⟩) hHeld ?_ ?_
  rotate_left
  · rintro w' ⟨s0, s1, s2, s3, s4, s5, s6⟩
    go_simp
    with_reducible rfl
  rotate_left
  · simp only [Act.put, List.setIfInBounds_toArray, List.set_cons_zero, List.set_cons_succ, i64_w, i32_w]
    rfl
  refine pure_ (i := 1) (N := some 12) (v := ?_) (a' := ?_) #[true, true, false, false, false] rfl rfl (any_of HT_.out (by kernel_rfl)) (fun _ _ _ h => h) (Or.inl ⟨by rfl, ?_⟩) ?_ ?_
  rotate_left
  · intro w'
    go_simp
    with_reducible rfl
  rotate_left
  · simp only [Act.put, List.setIfInBounds_toArray, List.set_cons_zero, List.set_cons_succ, i64_w, i32_w]
    rfl
  refine one_ (i := 2) (N := some 13) #[true, true, true, false, false] rfl rfl (one_of HT_.out (by kernel_rfl)) (by decide) (fun K hK => ?_)
  refine goes_ Tryd.func15 (by kernel_rfl) rfl _ (by rfl) rfl rfl (by (try simp only [List.map_toArray, List.map_cons, List.map_nil]); first | done | rfl | (go_simp; done) | simp [Act.eval]) ?_
  refine (told_nil _).mono ?_
  rintro e w4 ⟨rfl, hb⟩
  have HB4 := Aside0.mk (below_step HB3.out hb)
  have HA4 := Aside0.mk ((hb.block a2 (blk_lt HA3.out)).trans HA3.out)
  have hm := (hb.block a4 (blk_lt HM.out)).trans HM.out
  have hcc := fun i => blk_cell hm i
  refine ⟨_, rfl, ?_⟩
  refine hK.out _ _ ⟨hcc 0, hcc 1, hcc 2, hcc 3, hcc 4, hcc 5, hcc 6⟩ (fun hHeld => ?_)
  clear hK K
  refine norm_ (a' := ?_) ?_ ?_
  rotate_left
  · show Act.put _ (some 13) _ = _
    simp only [Act.put, List.setIfInBounds_toArray, List.set_cons_zero, List.set_cons_succ, i64_w, i32_w]
    rfl
  refine last_ (i := 3) (N := none) #[true, true, true, true, false] rfl rfl (one_of HT_.out (by kernel_rfl)) (by decide) (fun K hK => ?_)
  rw [if_pos (by rfl)]
  refine wp_store_row 39 (.tmp 2) (.tmp 11) rfl a2 (frm 2 x y) (by rfl) (by rfl) 39 _ HA4.out frm_size (by rfl) (frm_one 2 x y) ?_
  refine hK.out _ _ ?_
  clear hK K
  refine pure_ (i := 4) (N := some 3) (v := ?_) (a' := ?_) #[true, true, true, true, true] rfl rfl (any_of HT_.out (by kernel_rfl)) (fun _ _ _ h => h) (Or.inl ⟨by rfl, ?_⟩) ?_ ?_
  rotate_left
  · intro w'
    go_simp
    with_reducible rfl
  rotate_left
  · simp only [Act.put, List.setIfInBounds_toArray, List.set_cons_zero, List.set_cons_succ, i64_w, i32_w]
    rfl
  refine done_ (done_of HT_.out (by kernel_rfl)) ?_
  have HF := Aside0.mk (below_setRow HB4.out HA0.out (frm 2 x y))
  have HFH := Aside0.mk (setRow_heap w4 a2 _ (frm 2 x y) _ _ HA4.out)
  obtain ⟨w5, hw5⟩ : ∃ w5, w5 = w4.setRow a2 (frm 2 x y) := ⟨_, rfl⟩
  rw [← hw5] at HF HFH ⊢
  clear hw5 hcc hm
  go_wp2_with fail
  refine bodyPost_ret (results_ct rfl _ _ a2 39 (frm 2 x y) (0, 0) _ rfl HFH.out Tryd.underlying39 rfl frm_size) rfl ?_
  exact ⟨rfl, HF.out⟩
end Go.Proofs.YtnphphlincbgmaaDoor.P

-- YtnphphlincbgmaaDoorPAkPlain
namespace Go.Proofs.YtnphphlincbgmaaDoor.P
open Go.RowKit Go.Proofs.YtnphphlincbgmaaDoorW.PrintWords Go.Proofs.YtnphphlincbgmaaDoorW.PrintLast Go.Proofs.YtnphphlincbgmaaDoorW.PrintMore
set_option linter.unusedVariables false
set_option linter.unusedSimpArgs false

def big (x : Int) : Bool := decide (x > 1)
theorem index_l0 (l : List Int) (hl : l.length ≤ 140737488355328) (d : Nat) : ∀ k i : Nat, i + d = l.length → d < k →
    ∃ r, slices_IndexFunc_byte_byte.l0 k l (l.length : Int) (i : Int) = some r ∧ decide (r ≥ 0) = (l.drop i).any big := by
  induction d with
  | zero =>
    intro k i hi hk
    obtain ⟨k, rfl⟩ := pred hk
    refine ⟨-1, ?_, ?_⟩
    · simp only [slices_IndexFunc_byte_byte.l0]; rw [if_neg (by omega)]
    · rw [List.drop_eq_nil_of_le (by omega)]; rfl
  | succ d ih =>
    intro k i hi hk
    obtain ⟨k, rfl⟩ := pred hk
    have hlt : i < l.length := by omega
    simp only [slices_IndexFunc_byte_byte.l0]
    rw [if_pos (by omega), if_pos (by omega), if_pos (by omega), rd_get l i hlt, drop_cons l i hlt, List.any_cons]
    unfold bits_Right_1.f
    simp only [Option.bind_some]
    cases hb : big l[i] with
    | true =>
      unfold big at hb
      rw [if_pos hb]
      exact ⟨_, rfl, by rw [Bool.true_or]; exact decide_eq_true (by omega)⟩
    | false =>
      unfold big at hb
      rw [if_neg (by rw [hb]; decide), wrap_succ i (by omega), Bool.false_or]
      exact ih k (i + 1) (by omega) (by omega)
theorem right_f (l : List Int) (hl : l.length ≤ 140737488355328) (k : Nat) (hk : l.length < k) : bits_Right.f k l = some (!l.any big) := by
  obtain ⟨r, h1, h2⟩ := index_l0 l hl l.length k 0 (by omega) hk
  unfold bits_Right.f slices_ContainsFunc_byte_byte.f slices_IndexFunc_byte_byte.f
  rw [show slices_IndexFunc_byte_byte.l0 k l (l.length : Int) 0 = some r from h1]
  simp only [Option.bind_some]
  rw [h2]; rfl
def bit (x : Int) : Prop := x = 0 ∨ x = 1
theorem getD_bit {l : List Int} (h : ∀ x ∈ l, bit x) (i : Nat) : bit (l.getD i 0) := by
  by_cases hi : i < l.length
  · rw [List.getD_eq_getElem?_getD, List.getElem?_eq_getElem hi]; exact h _ (List.getElem_mem hi)
  · rw [List.getD_eq_getElem?_getD, List.getElem?_eq_none (by omega)]; exact .inl rfl
def bits8a (x : Int) : List Int := [x / 128 % 2, x / 64 % 2, x / 32 % 2, x / 16 % 2, x / 8 % 2, x / 4 % 2, x / 2 % 2, x / 1 % 2]
def ofl (l : List Int) : List Int := l.flatMap bits8a
theorem ofl_cons (x : Int) (l : List Int) : ofl (x :: l) = bits8a x ++ ofl l := by simp [ofl]
theorem ofl_snoc (l : List Int) (x : Int) : ofl (l ++ [x]) = ofl l ++ bits8a x := by simp [ofl]
theorem ofl_length (l : List Int) : (ofl l).length = 8 * l.length := by
  induction l with
  | nil => rfl
  | cons x l ih => rw [ofl_cons, List.length_append, ih, List.length_cons]; show 8 + _ = _; omega
theorem ofl_bit (l : List Int) : ∀ x ∈ ofl l, 0 ≤ x ∧ x ≤ 1 := by
  intro x hx
  simp only [ofl, List.mem_flatMap] at hx
  obtain ⟨y, _, hy⟩ := hx
  simp only [bits8a, List.mem_cons, List.not_mem_nil, or_false] at hy
  rcases hy with rfl | rfl | rfl | rfl | rfl | rfl | rfl | rfl <;> omega
def bv (x : Int) (s : Int) : Int := Go.bits .and .u8 (shr .u8 x s) 1
theorem bv_all : ∀ r : Fin 256, [bv (r.val : Int) 7, bv (r.val : Int) 6, bv (r.val : Int) 5, bv (r.val : Int) 4, bv (r.val : Int) 3, bv (r.val : Int) 2, bv (r.val : Int) 1, bv (r.val : Int) 0] = bits8a (r.val : Int) := by decide +kernel
theorem bv_eq (x : Int) (h : 0 ≤ x ∧ x ≤ 255) : [bv x 7, bv x 6, bv x 5, bv x 4, bv x 3, bv x 2, bv x 1, bv x 0] = bits8a x := by
  obtain ⟨n, rfl⟩ := Int.eq_ofNat_of_zero_le h.1
  exact bv_all ⟨n, by omega⟩
theorem bof_step (k : Nat) (acc : List Int) (x : Int) (l : List Int) (n i j s : Int) (hj : j < 8) (hs : wrap64 (7 - j) = s) (h0 : 0 ≤ s) (ha : acc.length < 140737488355328) :
    bits_Of.l1 (k + 1) acc x l n i j = bits_Of.l1 k (acc ++ [bv x s]) x l n i (wrap64 (j + 1)) := by
  rw [bits_Of.l1.eq_2, if_pos hj, hs, if_pos h0, if_pos ha]; rfl
theorem bof_l1 (k : Nat) (acc : List Int) (x : Int) (hx : 0 ≤ x ∧ x ≤ 255) (l : List Int) (n i : Int) (ha : acc.length < 100000) :
    bits_Of.l1 (k + 9) acc x l n i 0 = bits_Of.l0 k (acc ++ bits8a x) l n (wrap64 (i + 1)) := by
  rw [bof_step (k + 8) acc x l n i 0 7 (by omega) (by unfold wrap64; omega) (by omega) (by omega), show wrap64 (0 + 1) = 1 from by unfold wrap64; omega,
    bof_step (k + 7) _ x l n i 1 6 (by omega) (by unfold wrap64; omega) (by omega) (by simp; omega), show wrap64 (1 + 1) = 2 from by unfold wrap64; omega,
    bof_step (k + 6) _ x l n i 2 5 (by omega) (by unfold wrap64; omega) (by omega) (by simp; omega), show wrap64 (2 + 1) = 3 from by unfold wrap64; omega,
    bof_step (k + 5) _ x l n i 3 4 (by omega) (by unfold wrap64; omega) (by omega) (by simp; omega), show wrap64 (3 + 1) = 4 from by unfold wrap64; omega,
    bof_step (k + 4) _ x l n i 4 3 (by omega) (by unfold wrap64; omega) (by omega) (by simp; omega), show wrap64 (4 + 1) = 5 from by unfold wrap64; omega,
    bof_step (k + 3) _ x l n i 5 2 (by omega) (by unfold wrap64; omega) (by omega) (by simp; omega), show wrap64 (5 + 1) = 6 from by unfold wrap64; omega,
    bof_step (k + 2) _ x l n i 6 1 (by omega) (by unfold wrap64; omega) (by omega) (by simp; omega), show wrap64 (6 + 1) = 7 from by unfold wrap64; omega,
    bof_step (k + 1) _ x l n i 7 0 (by omega) (by unfold wrap64; omega) (by omega) (by simp; omega), show wrap64 (7 + 1) = 8 from by unfold wrap64; omega,
    bits_Of.l1.eq_2, if_neg (by omega), ← bv_eq x hx]
  simp only [List.append_assoc, List.cons_append, List.nil_append]
theorem bof_l0 (l : List Int) (hw : ∀ x ∈ l, 0 ≤ x ∧ x ≤ 255) (hl : l.length ≤ 10000) (d : Nat) : ∀ k i : Nat, i + d = l.length → 10 * d < k →
    bits_Of.l0 k (ofl (l.take i)) l (l.length : Int) (i : Int) = some (ofl l) := by
  induction d with
  | zero =>
    intro k i hi hk
    obtain ⟨k, rfl⟩ := pred (show 0 < k by omega)
    rw [bits_Of.l0.eq_2, if_neg (by omega), List.take_of_length_le (by omega)]
  | succ d ih =>
    intro k i hi hk
    obtain ⟨k, rfl⟩ : ∃ m, k = (m + 9) + 1 := ⟨k - 10, by omega⟩
    have hlt : i < l.length := by omega
    rw [bits_Of.l0.eq_2, if_pos (by omega), if_pos (by omega), if_pos (by omega), rd_get l i hlt,
      bof_l1 k _ _ (hw _ (List.getElem_mem hlt)) l _ _ (by rw [ofl_length, List.length_take]; omega), ← ofl_snoc, ← take_snoc l i hlt, wrap_succ i (by omega)]
    exact ih k (i + 1) (by omega) (by omega)
theorem bof_f (l : List Int) (hw : ∀ x ∈ l, 0 ≤ x ∧ x ≤ 255) (hl : l.length ≤ 10000) (k : Nat) (hk : 10 * l.length < k) : bits_Of.f k l = some (ofl l) :=
  bof_l0 l hw hl l.length k 0 (by omega) hk
theorem byOf_congr (l l' : List Int) (x y : Nat) : ∀ m, (∀ k, k < m → l.getD (8 * x + k) 0 = l'.getD (8 * y + k) 0) → byOf l x m = byOf l' y m
  | 0, _ => rfl
  | m + 1, h => by
    unfold byOf
    rw [byOf_congr l l' x y m (fun k hk => h k (by omega)), h m (by omega)]
theorem by_all : ∀ r : Fin 256, byOf (bits8a (r.val : Int)) 0 8 = (r.val : Int) := by decide +kernel
theorem ofl_getD : ∀ (l : List Int) (j : Nat) (h : j < l.length) (k : Nat), k < 8 → (ofl l).getD (8 * j + k) 0 = (bits8a l[j]).getD (8 * 0 + k) 0
  | [], _, h, _, _ => absurd h (Nat.not_lt_zero _)
  | x :: l, 0, _, k, hk => by
    rw [ofl_cons, List.getD_eq_getElem?_getD, List.getD_eq_getElem?_getD, List.getElem?_append_left (show _ < 8 by omega)]; rfl
  | x :: l, j + 1, h, k, hk => by
    have ih := ofl_getD l j (by simpa using h) k hk
    rw [ofl_cons, List.getD_eq_getElem?_getD, List.getElem?_append_right (show 8 ≤ _ by omega), show 8 * (j + 1) + k - (bits8a x).length = 8 * j + k from by show _ - 8 = _; omega, ← List.getD_eq_getElem?_getD, ih]
    rfl
theorem byte_ofl (l : List Int) (hw : ∀ x ∈ l, 0 ≤ x ∧ x ≤ 255) (j : Nat) (h : j < l.length) : byte (ofl l) j = l[j] := by
  unfold byte
  rw [ofl_length, show min 8 (8 * l.length - 8 * j) = 8 from by omega, byOf_congr (ofl l) (bits8a l[j]) j 0 8 (ofl_getD l j h)]
  have hx := hw _ (List.getElem_mem h)
  obtain ⟨n, hn⟩ := Int.eq_ofNat_of_zero_le hx.1
  rw [hn] at hx ⊢
  exact by_all ⟨n, by omega⟩
theorem ofl_right (l : List Int) : (ofl l).any big = false := by
  rw [List.any_eq_false]
  intro x hx
  have := ofl_bit l x hx
  unfold big
  rw [decide_eq_false (by omega)]; decide
theorem bytes_ofl (l : List Int) (hw : ∀ x ∈ l, 0 ≤ x ∧ x ≤ 255) (hl : l.length ≤ 10000) (k : Nat) (hk : 8 * l.length < k) : bits_Bytes.f k (ofl l) = some (l, 0) := by
  have hn := ofl_length l
  unfold bits_Bytes.f
  rw [right_f (ofl l) (by omega) k (by omega), ofl_right, Option.bind_some, if_pos (by decide), if_pos (by omega), hn, show (8 * l.length + 7) / 8 = l.length from by omega]
  have : (List.range l.length).map (byte (ofl l)) = l := by
    apply List.ext_getElem
    · simp
    · intro i h1 h2
      rw [List.getElem_map, List.getElem_range, byte_ofl l hw i h2]
  rw [this]

def rb (l : List Int) (x : Nat) : Nat → Int
  | 0 => 0
  | m + 1 => 2 * rb l x m + l.getD (8 * x + m) 0
theorem bit01 {x : Int} (h : bit x) : 0 ≤ x ∧ x ≤ 1 := by unfold bit at h; omega
theorem rb_in (l : List Int) (h : ∀ x ∈ l, bit x) (x : Nat) (m : Nat) : 0 ≤ rb l x m ∧ rb l x m + 1 ≤ ((2 ^ m : Nat) : Int) := by
  induction m with
  | zero => simp [rb]
  | succ m ih =>
    have hb := getD_bit h (8 * x + m)
    unfold bit at hb
    unfold rb
    rw [Nat.pow_succ]
    omega
theorem rb_256 (l : List Int) (h : ∀ x ∈ l, bit x) (x : Nat) (m : Nat) (hm : m ≤ 8) : 0 ≤ rb l x m ∧ rb l x m ≤ 255 := by
  have h1 := rb_in l h x m
  have h2 : 2 ^ m ≤ 2 ^ 8 := Nat.pow_le_pow_right (by omega) hm
  omega
theorem rb_congr (l l' : List Int) (x y : Nat) : ∀ m, (∀ k, k < m → l.getD (8 * x + k) 0 = l'.getD (8 * y + k) 0) → rb l x m = rb l' y m
  | 0, _ => rfl
  | m + 1, h => by
    unfold rb
    rw [rb_congr l l' x y m (fun k hk => h k (by omega)), h m (by omega)]
theorem rb_all : ∀ r : Fin 256, rb (bits8a (r.val : Int)) 0 8 = (r.val : Int) := by decide +kernel
theorem by_short : ∀ r : Fin 256, ∀ m : Fin 9, (∀ k : Fin 8, m.val ≤ k.val → (bits8a (r.val : Int)).getD (8 * 0 + k.val) 0 = 0) → byOf (bits8a (r.val : Int)) 0 m.val = (r.val : Int) := by decide +kernel
theorem eight (l : List Int) (h : ∀ x ∈ l, bit x) (x : Nat) : ∃ r : Fin 256, ∀ k, k < 8 → l.getD (8 * x + k) 0 = (bits8a (r.val : Int)).getD (8 * 0 + k) 0 := by
  have b0 := getD_bit h (8 * x + 0)
  have b1 := getD_bit h (8 * x + 1)
  have b2 := getD_bit h (8 * x + 2)
  have b3 := getD_bit h (8 * x + 3)
  have b4 := getD_bit h (8 * x + 4)
  have b5 := getD_bit h (8 * x + 5)
  have b6 := getD_bit h (8 * x + 6)
  have b7 := getD_bit h (8 * x + 7)
  replace b0 := bit01 b0
  replace b1 := bit01 b1
  replace b2 := bit01 b2
  replace b3 := bit01 b3
  replace b4 := bit01 b4
  replace b5 := bit01 b5
  replace b6 := bit01 b6
  replace b7 := bit01 b7
  suffices hh : ∃ r : Fin 256, l.getD (8 * x + 0) 0 = (r.val : Int) / 128 % 2 ∧ l.getD (8 * x + 1) 0 = (r.val : Int) / 64 % 2 ∧ l.getD (8 * x + 2) 0 = (r.val : Int) / 32 % 2 ∧ l.getD (8 * x + 3) 0 = (r.val : Int) / 16 % 2 ∧ l.getD (8 * x + 4) 0 = (r.val : Int) / 8 % 2 ∧ l.getD (8 * x + 5) 0 = (r.val : Int) / 4 % 2 ∧ l.getD (8 * x + 6) 0 = (r.val : Int) / 2 % 2 ∧ l.getD (8 * x + 7) 0 = (r.val : Int) / 1 % 2 by
    obtain ⟨r, h0, h1, h2, h3, h4, h5, h6, h7⟩ := hh
    refine ⟨r, ?_⟩
    intro k hk
    have hk' : k = 0 ∨ k = 1 ∨ k = 2 ∨ k = 3 ∨ k = 4 ∨ k = 5 ∨ k = 6 ∨ k = 7 := by omega
    rcases hk' with rfl | rfl | rfl | rfl | rfl | rfl | rfl | rfl
    · exact h0
    · exact h1
    · exact h2
    · exact h3
    · exact h4
    · exact h5
    · exact h6
    · exact h7
  generalize l.getD (8 * x + 0) 0 = c0 at *
  generalize l.getD (8 * x + 1) 0 = c1 at *
  generalize l.getD (8 * x + 2) 0 = c2 at *
  generalize l.getD (8 * x + 3) 0 = c3 at *
  generalize l.getD (8 * x + 4) 0 = c4 at *
  generalize l.getD (8 * x + 5) 0 = c5 at *
  generalize l.getD (8 * x + 6) 0 = c6 at *
  generalize l.getD (8 * x + 7) 0 = c7 at *
  obtain ⟨n, hn⟩ := Int.eq_ofNat_of_zero_le (a := 128 * c0 + 64 * c1 + 32 * c2 + 16 * c3 + 8 * c4 + 4 * c5 + 2 * c6 + c7) (by omega)
  refine ⟨⟨n, by omega⟩, ?_, ?_, ?_, ?_, ?_, ?_, ?_, ?_⟩ <;> (show _ = (n : Int) / _ % 2; rw [show (n : Int) = 128 * c0 + 64 * c1 + 32 * c2 + 16 * c3 + 8 * c4 + 4 * c5 + 2 * c6 + c7 from hn.symm]; clear hn; omega)
theorem byte_rb (l : List Int) (h : ∀ x ∈ l, bit x) (x : Nat) : byte l x = rb l x 8 := by
  obtain ⟨r, hr⟩ := eight l h x
  rw [rb_congr l (bits8a (r.val : Int)) x 0 8 hr, rb_all r]
  unfold byte
  rw [byOf_congr l (bits8a (r.val : Int)) x 0 _ (fun k hk => hr k (by omega))]
  refine by_short r ⟨min 8 (l.length - 8 * x), by omega⟩ ?_
  intro k hk
  rw [← hr k.val k.isLt, List.getD_eq_getElem?_getD, List.getElem?_eq_none (by have := k.isLt; simp only at hk; omega)]
  rfl
section
open Go
theorem i64_and_nat (a b : Nat) (ha : a < 9223372036854775808) (hb : b < 9223372036854775808) : Go.bits .and .i64 (a : Int) (b : Int) = ((a &&& b : Nat) : Int) := by
  have hx : a &&& b < 2 ^ 63 := Nat.and_lt_two_pow _ (by omega)
  show IntKind.i64.wrap ((BitVec.ofInt 64 (a : Int) &&& BitVec.ofInt 64 (b : Int)).toNat : Int) = _
  rw [BitVec.toNat_and, Go.ofInt_u64 a (by omega), Go.ofInt_u64 b (by omega)]
  generalize hm : a &&& b = m at hx ⊢
  have hm2 : (m : Int) ≤ 9223372036854775807 := by omega
  rw [IntKind.wrap_i64]; omega
theorem i64_or_nat (a b : Nat) (ha : a < 9223372036854775808) (hb : b < 9223372036854775808) : Go.bits .or .i64 (a : Int) (b : Int) = ((a ||| b : Nat) : Int) := by
  have hx : a ||| b < 2 ^ 63 := Nat.or_lt_two_pow (by omega) (by omega)
  show IntKind.i64.wrap ((BitVec.ofInt 64 (a : Int) ||| BitVec.ofInt 64 (b : Int)).toNat : Int) = _
  rw [BitVec.toNat_or, Go.ofInt_u64 a (by omega), Go.ofInt_u64 b (by omega)]
  generalize hm : a ||| b = m at hx ⊢
  have hm2 : (m : Int) ≤ 9223372036854775807 := by omega
  rw [IntKind.wrap_i64]; omega
theorem bitv_nat (n i : Nat) (hn : n < 9223372036854775808) : bitv (n : Int) i = ((n / 2 ^ i % 2 : Nat) : Int) := by
  unfold bitv
  have h1 : n / 2 ^ i < 9223372036854775808 := Nat.lt_of_le_of_lt (Nat.div_le_self _ _) hn
  have e : ((n : Int) / 2 ^ i) = ((n / 2 ^ i : Nat) : Int) := by
    rw [show ((2 : Int) ^ i) = ((2 ^ i : Nat) : Int) from by simp]; exact (Int.natCast_ediv _ _).symm
  rw [e, show (1 : Int) = ((1 : Nat) : Int) from rfl, i64_and_nat _ 1 h1 (by decide), Go.nat_mask1, IntKind.wrap_u8]
  omega
theorem bitL_bit (n W r : Nat) (hn : n < 9223372036854775808) : ∀ x ∈ bitL (n : Int) W r, bit x := by
  intro x hx
  simp only [bitL, List.mem_map] at hx
  obtain ⟨j, _, rfl⟩ := hx
  rw [bitv_nat n _ hn]
  unfold bit; omega
theorem bitL_length (n : Int) (W r : Nat) : (bitL n W r).length = W - r := by simp [bitL]
theorem putE_ok (n W : Nat) (hW : 1 ≤ W) (hW2 : W ≤ 32) (hn : n < 2 ^ W) : putE (n : Int) (W : Int) = 0 := by
  unfold putE
  have h1 : bitioWidthF (W : Int) = true := by simp [bitioWidthF]; omega
  have h2 : (n : Int) / 2 ^ W = 0 := by
    rw [show ((2 : Int) ^ W) = ((2 ^ W : Nat) : Int) from by simp]
    have : ((n / 2 ^ W : Nat) : Int) = 0 := by rw [Nat.div_eq_of_lt hn]; rfl
    rw [← this]; exact (Int.natCast_ediv _ _).symm
  rw [if_pos h1, if_neg (by omega), Int.toNat_natCast, if_pos h2]
theorem putL_ok (n W : Nat) (hW : 1 ≤ W) (hW2 : W ≤ 32) (hn : n < 2 ^ W) : putL (n : Int) (W : Int) = bitL (n : Int) W 0 := by
  unfold putL; rw [putE_ok n W hW hW2 hn]; rfl
theorem bitL_two (n H L : Nat) (hn : n < 9223372036854775808) : bitL (n : Int) (H + L) 0 = bitL ((n / 2 ^ L : Nat) : Int) H 0 ++ bitL ((n % 2 ^ L : Nat) : Int) L 0 := by
  have hd : n / 2 ^ L < 9223372036854775808 := Nat.lt_of_le_of_lt (Nat.div_le_self _ _) hn
  have hm : n % 2 ^ L < 9223372036854775808 := Nat.lt_of_le_of_lt (Nat.mod_le _ _) hn
  apply List.ext_getElem
  · rw [List.length_append, bitL_length, bitL_length, bitL_length]; omega
  · intro i h1 h2
    rw [bitL_length] at h1
    have el : ∀ (m W : Nat) (hm : m < 9223372036854775808) (j : Nat) (hj : j < (bitL (m : Int) W 0).length), (bitL (m : Int) W 0)[j] = ((m / 2 ^ (W - 1 - j) % 2 : Nat) : Int) := by
      intro m W hm j hj
      simp only [bitL, List.getElem_map, List.getElem_range]
      exact bitv_nat m _ hm
    by_cases hi : i < H
    · rw [List.getElem_append_left (by rw [bitL_length]; omega), el n _ hn, el _ _ hd]
      congr 2
      rw [Nat.div_div_eq_div_mul, ← Nat.pow_add]
      congr 2; omega
    · rw [List.getElem_append_right (by rw [bitL_length]; omega), el n _ hn, el _ _ hm]
      have e : H + L - 1 - i = L - 1 - (i - (bitL ((n / 2 ^ L : Nat) : Int) H 0).length) := by rw [bitL_length]; omega
      rw [e]
      congr 1
      generalize hj : L - 1 - (i - (bitL ((n / 2 ^ L : Nat) : Int) H 0).length) = j
      have hjl : j + 1 ≤ L := by omega
      have : L = j + 1 + (L - j - 1) := by omega
      rw [this, Nat.pow_add]
      have hp : 2 ^ (j + 1) = 2 ^ j * 2 := rfl
      have hm1 : n % (2 ^ (j + 1) * 2 ^ (L - j - 1)) % 2 ^ (j + 1) = n % 2 ^ (j + 1) := Nat.mod_mul_right_mod _ _ _
      have q : ∀ m : Nat, m / 2 ^ j % 2 = m % 2 ^ (j + 1) / 2 ^ j := by
        intro m; rw [hp, Nat.mod_mul_right_div_self]
      rw [q n, q (n % _), hm1]
theorem bytes_some {l : List Int} (h : ∀ x ∈ l, bit x) (hl : l.length ≤ 10000) (k : Nat) (hk : l.length < k) : bits_Bytes.f k l = some ((List.range ((l.length + 7) / 8)).map (byte l), 0) := by
  unfold bits_Bytes.f
  have hb : l.any big = false := by
    rw [List.any_eq_false]; intro x hx
    have := h x hx
    unfold bit at this; unfold big; simp; omega
  rw [right_f l (by omega) k hk, hb, Option.bind_some, if_pos (by decide), if_pos (by omega)]
end
section
open Go
theorem snoc_ind {P : List Int → Prop} (h0 : P []) (h1 : ∀ l b, P l → P (l ++ [b])) : ∀ l, P l := by
  intro l
  rw [← List.reverse_reverse l]
  induction l.reverse with
  | nil => exact h0
  | cons a t ih => rw [List.reverse_cons]; exact h1 _ _ ih
/-- A number of some bits, in plain words. -/
def num (l : List Int) : Nat := l.foldl (fun n b => 2 * n + b.toNat) 0
theorem num_snoc (l : List Int) (b : Int) : num (l ++ [b]) = 2 * num l + b.toNat := by simp [num]
theorem num_lt (l : List Int) (h : ∀ x ∈ l, bit x) : num l < 2 ^ l.length := by
  revert h
  induction l using snoc_ind with
  | h0 => intro _; simp [num]
  | h1 l b ih =>
    intro h
    rw [num_snoc, List.length_append, show [b].length = 1 from rfl, Nat.pow_succ]
    have h1 := ih (fun x hx => h x (List.mem_append.2 (.inl hx)))
    have h2 := h b (by simp)
    unfold bit at h2
    omega
theorem tk_step (n : Nat) (hn : n < 2 ^ 32) (b : Int) (hb : bit b) : tkS (n : Int) b = ((2 * n + b.toNat : Nat) : Int) := by
  unfold tkS
  have hb2 : b.toNat < 2 := by unfold bit at hb; omega
  have e1 : wrap64 ((n : Int) * 2) = ((2 * n : Nat) : Int) := by rw [wrap_in (by omega) (by omega)]; omega
  have e2 : wrap64 b = ((b.toNat : Nat) : Int) := by
    unfold bit at hb; rw [wrap_in (by omega) (by omega)]; omega
  rw [e1, e2, i64_or_nat _ _ (by omega) (by omega)]
  have := Nat.two_pow_add_eq_or_of_lt (i := 1) (b := b.toNat) (by omega) n
  congr 1
  rw [show 2 ^ 1 * n = 2 * n by omega] at this
  exact this.symm
theorem tk_fold (l : List Int) (h : ∀ x ∈ l, bit x) (hl : l.length ≤ 32) : l.foldl tkS 0 = ((num l : Nat) : Int) := by
  revert h hl
  induction l using snoc_ind with
  | h0 => intro _ _; rfl
  | h1 l b ih =>
    intro h hl
    rw [List.length_append, show [b].length = 1 from rfl] at hl
    have hb : ∀ x ∈ l, bit x := fun x hx => h x (List.mem_append.2 (.inl hx))
    have := num_lt l hb
    have h2 : 2 ^ l.length ≤ 2 ^ 32 := Nat.pow_le_pow_right (by decide) (by omega)
    rw [List.foldl_append, ih hb (by omega), List.foldl_cons, List.foldl_nil, tk_step _ (by omega) b (h b (by simp)), num_snoc]
theorem take_bits {l : List Int} (h : ∀ x ∈ l, bit x) (n : Nat) : ∀ x ∈ l.take n, bit x := fun x hx => h x (List.mem_of_mem_take hx)
theorem drop_bits {l : List Int} (h : ∀ x ∈ l, bit x) (n : Nat) : ∀ x ∈ l.drop n, bit x := fun x hx => h x (List.mem_of_mem_drop hx)
end
section
open Go
theorem num_bitL (W : Nat) : ∀ n : Nat, n < 2 ^ W → n < 9223372036854775808 → num (bitL (n : Int) W 0) = n := by
  induction W with
  | zero => intro n hn _; simp [bitL, num]; omega
  | succ W ih =>
    intro n hn h6
    have e := bitL_two n W 1 h6
    rw [show W + 1 = W + 1 from rfl, e]
    have hd : n / 2 ^ 1 < 2 ^ W := by rw [Nat.pow_succ] at hn; omega
    have h1 : bitL ((n % 2 ^ 1 : Nat) : Int) 1 0 = [((n % 2 : Nat) : Int)] := by
      have hm : n % 2 ^ 1 < 9223372036854775808 := by omega
      simp only [bitL, show (1 - 0 : Nat) = 1 from rfl, List.range_one, List.map_cons, List.map_nil]
      rw [bitv_nat _ _ hm]
      simp
    rw [h1, num_snoc, ih _ hd (by omega)]
    omega
theorem putE_val (n wd : Int) : putE n wd = 0 → 0 ≤ n ∧ 1 ≤ wd ∧ wd ≤ 32 ∧ n < 2 ^ wd.toNat := by
  intro h
  unfold putE at h
  by_cases hw : bitioWidthF wd = true
  · rw [if_pos hw] at h
    have hw2 : 1 ≤ wd ∧ wd ≤ 32 := by simpa [bitioWidthF] using hw
    by_cases hn : n < 0
    · rw [if_pos hn] at h; omega
    · rw [if_neg hn] at h
      by_cases hz : n / 2 ^ wd.toNat = 0
      · refine ⟨by omega, hw2.1, hw2.2, ?_⟩
        have hp : (0 : Int) < 2 ^ wd.toNat := Int.pow_pos (by decide)
        exact Int.lt_of_not_ge fun hge => by
          have := Int.le_ediv_of_mul_le hp (show 1 * 2 ^ wd.toNat ≤ n by rw [Int.one_mul]; exact hge)
          omega
      · rw [if_neg hz] at h; omega
  · rw [if_neg hw] at h; omega
theorem putL_bit (n wd : Int) (hb : -9223372036854775808 ≤ n ∧ n ≤ 9223372036854775807) : ∀ x ∈ putL n wd, bit x := by
  intro x hx
  unfold putL at hx
  by_cases h : putE n wd = 0
  · rw [if_pos h] at hx
    have hv := putE_val n wd h
    obtain ⟨m, rfl⟩ := Int.eq_ofNat_of_zero_le hv.1
    exact bitL_bit m _ 0 (by omega) x hx
  · rw [if_neg h] at hx; cases hx
theorem putL_len (n wd : Int) (h : putE n wd = 0) : ((putL n wd).length : Int) = wd := by
  have hv := putE_val n wd h
  unfold putL
  rw [if_pos h, bitL_length]; omega
theorem putL_len32 (n wd : Int) : (putL n wd).length ≤ 32 := by
  by_cases h : putE n wd = 0
  · have := putL_len n wd h; have := putE_val n wd h; omega
  · unfold putL; rw [if_neg h]; simp
theorem take_put (n wd : Int) (r : List Int) (h : putE n wd = 0) : tkE (putL n wd ++ r) wd = 0 ∧ tkN (putL n wd ++ r) wd = n ∧ tkL (putL n wd ++ r) wd = r := by
  have hv := putE_val n wd h
  have hl := putL_len n wd h
  have hw : bitioWidthF wd = true := by unfold bitioWidthF; rw [Bool.and_eq_true]; exact ⟨decide_eq_true hv.2.1, decide_eq_true hv.2.2.1⟩
  have e : tkE (putL n wd ++ r) wd = 0 := by
    unfold tkE; rw [hw, if_pos rfl, if_neg (by rw [List.length_append]; omega)]
  obtain ⟨m, rfl⟩ := Int.eq_ofNat_of_zero_le hv.1
  obtain ⟨W, rfl⟩ := Int.eq_ofNat_of_zero_le (show 0 ≤ wd by omega)
  have hlW : (putL (m : Int) (W : Int)).length = W := by omega
  have e3 : ((2 : Int) ^ W) = ((2 ^ W : Nat) : Int) := by simp
  have hm : m < 2 ^ W := by have := hv.2.2.2; rw [Int.toNat_natCast, e3] at this; omega
  have hp : 2 ^ W ≤ 2 ^ 32 := Nat.pow_le_pow_right (by decide) (by omega)
  refine ⟨e, ?_, ?_⟩
  · unfold tkN
    rw [if_pos e, Int.toNat_natCast, List.take_append_of_le_length (by omega), List.take_of_length_le (by omega)]
    unfold putL
    rw [if_pos h, Int.toNat_natCast, tk_fold _ (bitL_bit m W 0 (by omega)) (by rw [bitL_length]; omega), num_bitL W m hm (by omega)]
  · unfold tkL
    rw [if_pos e, Int.toNat_natCast, List.drop_append_of_le_length (by omega), List.drop_of_length_le (by omega)]; rfl
theorem bits8_byte (l : List Int) (h : ∀ x ∈ l, bit x) (x : Nat) : ∀ k, k < 8 → (bits8a (byte l x)).getD k 0 = l.getD (8 * x + k) 0 := by
  intro k hk
  obtain ⟨r, hr⟩ := eight l h x
  have e : byte l x = (r.val : Int) := by
    rw [byte_rb l h x, rb_congr l (bits8a (r.val : Int)) x 0 8 hr]; exact rb_all r
  rw [e, hr k hk]
  simp
theorem ofl_bytes (l : List Int) (h : ∀ x ∈ l, bit x) : ∃ z : Nat, z < 8 ∧ ofl ((List.range ((l.length + 7) / 8)).map (byte l)) = l ++ List.replicate z 0 := by
  refine ⟨8 * ((l.length + 7) / 8) - l.length, by omega, ?_⟩
  apply List.ext_getElem
  · rw [ofl_length, List.length_map, List.length_range, List.length_append, List.length_replicate]; omega
  · intro i h1 h2
    rw [ofl_length, List.length_map, List.length_range] at h1
    have hx : i / 8 < (l.length + 7) / 8 := by omega
    have e := ofl_getD ((List.range ((l.length + 7) / 8)).map (byte l)) (i / 8) (by simpa using hx) (i % 8) (Nat.mod_lt _ (by decide))
    rw [show 8 * (i / 8) + i % 8 = i by omega, List.getElem_map, List.getElem_range, show 8 * 0 + i % 8 = i % 8 by omega, bits8_byte l h _ _ (Nat.mod_lt _ (by decide)), show 8 * (i / 8) + i % 8 = i by omega] at e
    rw [List.getD_eq_getElem?_getD, List.getElem?_eq_getElem (by rw [ofl_length, List.length_map, List.length_range]; exact h1)] at e
    simp only [Option.getD_some] at e
    rw [e]
    by_cases hi : i < l.length
    · rw [List.getElem_append_left hi, List.getD_eq_getElem?_getD, List.getElem?_eq_getElem hi]; rfl
    · rw [List.getElem_append_right (by omega), List.getElem_replicate, List.getD_eq_getElem?_getD, List.getElem?_eq_none (by omega)]; rfl
end
/-- One round of the register. -/
def rnd (n : BitVec 16) : BitVec 16 := if n.msb then (n <<< 1) ^^^ 0x1021#16 else n <<< 1
def stp (n : BitVec 16) (c : BitVec 8) : BitVec 16 := it rnd 8 (n ^^^ (c.setWidth 16 <<< 8))
def stpI (n : BitVec 16) (c : Int) : BitVec 16 := stp n (BitVec.ofInt 8 c)
def sum16 (l : List Int) : BitVec 16 := l.foldl stpI 0xFFFF#16

theorem and_top (n : BitVec 16) : (Go.bits .and .u16 (n.toNat : Int) 32768 = 0) ↔ n.msb = false := by
  have h := Go.u16_and_nat n.toNat 32768 n.isLt (by decide)
  have e : ((32768 : Nat) : Int) = 32768 := rfl
  rw [e] at h
  rw [h, show (32768 : Nat) = 2 ^ 15 from rfl, Go.nat_bit, BitVec.msb_eq_decide]
  have := n.isLt
  simp only [decide_eq_false_iff_not]
  omega
theorem dbl16 (n : BitVec 16) : IntKind.u16.wrap ((n.toNat : Int) * 2) = ((n <<< 1).toNat : Int) := by
  rw [IntKind.wrap_u16, BitVec.toNat_shiftLeft, Nat.shiftLeft_eq]
  omega
theorem xor16 (a b : BitVec 16) : Go.bits .xor .u16 (a.toNat : Int) (b.toNat : Int) = ((a ^^^ b).toNat : Int) := by
  rw [Go.u16_xor_nat _ _ a.isLt b.isLt, BitVec.toNat_xor]
theorem step_l0 (d : Nat) : ∀ (k : Nat) (n : BitVec 16) (i : Int), i = 8 - (d : Int) → d ≤ 8 → d < k →
    crc16_step.l0 k (n.toNat : Int) i = some ((it rnd d n).toNat : Int) := by
  induction d with
  | zero =>
    intro k n i hi _ hk
    obtain ⟨k, rfl⟩ := pred hk
    simp only [crc16_step.l0]
    rw [if_neg (by omega)]; rfl
  | succ d ih =>
    intro k n i hi hd hk
    obtain ⟨k, rfl⟩ := pred hk
    simp only [crc16_step.l0]
    rw [if_pos (by omega), dbl16, show wrap64 (i + 1) = i + 1 from wrap_in (by omega) (by omega)]
    by_cases hm : n.msb = true
    · have hx : Go.bits .xor .u16 ((n <<< 1).toNat : Int) 4129 = (((n <<< 1) ^^^ 0x1021#16).toNat : Int) := xor16 (n <<< 1) 0x1021#16
      rw [if_neg (fun h => by rw [(and_top n).1 h] at hm; cases hm), hx, it_succ, show rnd n = (n <<< 1) ^^^ 0x1021#16 from if_pos hm]
      exact ih k _ (i + 1) (by omega) (by omega) (by omega)
    · have hm' : n.msb = false := by simpa using hm
      rw [if_pos ((and_top n).2 hm'), it_succ, show rnd n = n <<< 1 from if_neg hm]
      exact ih k _ (i + 1) (by omega) (by omega) (by omega)
theorem step_f (k : Nat) (n : BitVec 16) (c : Int) (hc : 0 ≤ c ∧ c ≤ 255) (hk : 8 < k) : crc16_step.f k (n.toNat : Int) c = some ((stpI n c).toNat : Int) := by
  unfold crc16_step.f
  have e : IntKind.u16.wrap ((IntKind.u16.wrap c) * 256) = ((((BitVec.ofInt 8 c).setWidth 16) <<< 8).toNat : Int) := by
    obtain ⟨m, rfl⟩ := Int.eq_ofNat_of_zero_le hc.1
    rw [IntKind.wrap_u16, IntKind.wrap_u16, BitVec.toNat_shiftLeft, BitVec.toNat_setWidth, Nat.shiftLeft_eq, BitVec.ofInt_natCast, BitVec.toNat_ofNat]
    omega
  rw [e, xor16]
  exact step_l0 8 k _ 0 rfl (by omega) hk
theorem sum_l0 (l : List Int) (hlen : l.length ≤ 140737488355328) (hw : ∀ x ∈ l, 0 ≤ x ∧ x ≤ 255) (d : Nat) : ∀ (k : Nat) (n : BitVec 16) (i : Nat), i + d = l.length → d + 10 ≤ k →
    crc16_Sum.l0 k (n.toNat : Int) l (l.length : Int) (i : Int) = some (((l.drop i).foldl stpI n).toNat : Int) := by
  induction d with
  | zero =>
    intro k n i hi hk
    obtain ⟨k, rfl⟩ := pred (show 0 < k by omega)
    simp only [crc16_Sum.l0]
    rw [if_neg (by omega), List.drop_eq_nil_of_le (by omega)]; rfl
  | succ d ih =>
    intro k n i hi hk
    obtain ⟨k, rfl⟩ := pred (show 0 < k by omega)
    have hlt : i < l.length := by omega
    simp only [crc16_Sum.l0]
    rw [if_pos (by omega), if_pos (by omega), if_pos (by omega), rd_get l i hlt, step_f k n _ (hw _ (List.getElem_mem hlt)) (by omega)]
    simp only [Option.bind_some]
    rw [wrap_succ i (by omega), drop_cons l i hlt]
    exact ih k _ (i + 1) (by omega) (by omega)
theorem sum_f (l : List Int) (hlen : l.length ≤ 140737488355328) (hw : ∀ x ∈ l, 0 ≤ x ∧ x ≤ 255) (k : Nat) (hk : l.length + 10 ≤ k) : crc16_Sum.f k l = some ((sum16 l).toNat : Int) := by
  have := sum_l0 l hlen hw l.length k 0xFFFF#16 0 (by omega) hk
  exact this
theorem rnd_xor (a b : BitVec 16) : rnd (a ^^^ b) = rnd a ^^^ rnd b := by
  unfold rnd
  rw [BitVec.msb_xor, BitVec.shiftLeft_xor_distrib]
  cases ha : a.msb <;> cases hb : b.msb <;> simp
  · ac_rfl
  · ac_rfl
  · generalize a <<< 1 = x
    generalize b <<< 1 = y
    rw [show x ^^^ 4129#16 ^^^ (y ^^^ 4129#16) = (x ^^^ y) ^^^ (4129#16 ^^^ 4129#16) by ac_rfl]
    simp
theorem it_xor (d : Nat) : ∀ a b : BitVec 16, it rnd d (a ^^^ b) = it rnd d a ^^^ it rnd d b := by
  induction d with
  | zero => intro a b; rfl
  | succ d ih => intro a b; rw [it_succ, it_succ, it_succ, rnd_xor, ih]
theorem stp_xor (a b : BitVec 16) (c d : BitVec 8) : stp (a ^^^ b) (c ^^^ d) = stp a c ^^^ stp b d := by
  unfold stp
  rw [← it_xor]
  congr 1
  rw [BitVec.setWidth_xor, BitVec.shiftLeft_xor_distrib]
  ac_rfl
theorem xor8 (a b : Int) (ha : 0 ≤ a ∧ a ≤ 255) (hb : 0 ≤ b ∧ b ≤ 255) : BitVec.ofInt 8 (Go.bits .xor .u8 a b) = BitVec.ofInt 8 a ^^^ BitVec.ofInt 8 b := by
  obtain ⟨m, rfl⟩ := Int.eq_ofNat_of_zero_le ha.1
  obtain ⟨n, rfl⟩ := Int.eq_ofNat_of_zero_le hb.1
  rw [Go.u8_xor_nat m n (by omega) (by omega)]
  apply BitVec.eq_of_toNat_eq
  rw [BitVec.toNat_xor, BitVec.ofInt_natCast, BitVec.ofInt_natCast, BitVec.ofInt_natCast, BitVec.toNat_ofNat, BitVec.toNat_ofNat, BitVec.toNat_ofNat, Nat.mod_eq_of_lt (show m < 2 ^ 8 by omega), Nat.mod_eq_of_lt (show n < 2 ^ 8 by omega)]
  exact Nat.mod_eq_of_lt (Nat.xor_lt_two_pow (by omega) (by omega))
theorem xor8_in (a b : Int) (ha : 0 ≤ a ∧ a ≤ 255) (hb : 0 ≤ b ∧ b ≤ 255) : 0 ≤ Go.bits .xor .u8 a b ∧ Go.bits .xor .u8 a b ≤ 255 := by
  obtain ⟨m, rfl⟩ := Int.eq_ofNat_of_zero_le ha.1
  obtain ⟨n, rfl⟩ := Int.eq_ofNat_of_zero_le hb.1
  rw [Go.u8_xor_nat m n (by omega) (by omega)]
  have := Nat.xor_lt_two_pow (n := 8) (show m < 2 ^ 8 by omega) (show n < 2 ^ 8 by omega)
  omega

/-- The sum's two bytes. -/
def two (s : BitVec 16) : List Int := [(s.toNat : Int) / 256, (s.toNat : Int) % 256]
theorem two_in (s : BitVec 16) : ∀ x ∈ two s, 0 ≤ x ∧ x ≤ 255 := by
  have := s.isLt
  intro x hx
  simp only [two, List.mem_cons, List.not_mem_nil, or_false] at hx
  rcases hx with rfl | rfl <;> omega
theorem seal_f (l : List Int) (hl : l.length ≤ 1000) (hw : ∀ x ∈ l, 0 ≤ x ∧ x ≤ 255) (k : Nat) (hk : l.length + 10 ≤ k) : crc16_Seal.f k l = some (l ++ two (sum16 l)) := by
  unfold crc16_Seal.f slices_Clone_byte_byte.f
  have := (sum16 l).isLt
  rw [sum_f l (by omega) hw k hk, if_pos (by omega)]
  simp only [Option.bind_some, List.length_cons, List.length_nil]
  rw [if_pos (by omega), two, show ((sum16 l).toNat : Int) / 256 % 256 = ((sum16 l).toNat : Int) / 256 by omega]
theorem rnd_zero {z : BitVec 16} (h : rnd z = 0) : z = 0 := by
  have hz := z.isLt
  have hm : z.msb = decide (2 ^ 15 ≤ z.toNat) := BitVec.msb_eq_decide z
  unfold rnd at h
  by_cases c : z.msb = true
  · rw [if_pos c] at h
    have h2 : z <<< 1 = 0x1021#16 := by
      have e : (z <<< 1 ^^^ 0x1021#16) ^^^ 0x1021#16 = 0 ^^^ 0x1021#16 := by rw [h]
      rw [BitVec.xor_assoc, BitVec.xor_self, BitVec.xor_zero] at e
      rw [e]; decide
    have h3 := congrArg BitVec.toNat h2
    rw [BitVec.toNat_shiftLeft, Nat.shiftLeft_eq] at h3
    have : (0x1021#16).toNat = 4129 := rfl
    omega
  · rw [if_neg c] at h
    have h3 := congrArg BitVec.toNat h
    rw [BitVec.toNat_shiftLeft, Nat.shiftLeft_eq] at h3
    have h0 : (0 : BitVec 16).toNat = 0 := rfl
    have hlt : ¬ 2 ^ 15 ≤ z.toNat := by rw [hm] at c; simpa using c
    apply BitVec.eq_of_toNat_eq
    omega
theorem it_zero (d : Nat) : ∀ {z : BitVec 16}, it rnd d z = 0 → z = 0 := by
  induction d with
  | zero => intro z h; exact h
  | succ d ih => intro z h; rw [it_succ] at h; exact rnd_zero (ih h)
theorem it_z (d : Nat) : it rnd d 0 = 0 := by
  induction d with
  | zero => rfl
  | succ d ih => rw [it_succ, show rnd 0 = 0 from by decide]; exact ih
theorem it_low : ∀ y : BitVec 8, it rnd 8 (y.setWidth 16) = y.setWidth 16 <<< 8 := by decide +kernel
theorem stp_two (s : BitVec 16) (x y : BitVec 8) : stp (stp s x) y = it rnd 16 (s ^^^ (x.setWidth 16 <<< 8) ^^^ y.setWidth 16) := by
  unfold stp
  rw [← it_low y, ← it_xor, ← it_add rnd 8 8]
theorem stp_end (s : BitVec 16) (x y : Int) (hx : 0 ≤ x ∧ x ≤ 255) (hy : 0 ≤ y ∧ y ≤ 255) : stpI (stpI s x) y = 0 ↔ [x, y] = two s := by
  have hs := s.isLt
  unfold stpI
  rw [stp_two]
  obtain ⟨a, rfl⟩ := Int.eq_ofNat_of_zero_le hx.1
  obtain ⟨b, rfl⟩ := Int.eq_ofNat_of_zero_le hy.1
  have ea : ((BitVec.ofInt 8 (a : Int)).setWidth 16 <<< 8).toNat = a * 256 := by
    rw [BitVec.toNat_shiftLeft, BitVec.toNat_setWidth, Nat.shiftLeft_eq, BitVec.ofInt_natCast, BitVec.toNat_ofNat]; omega
  have eb : ((BitVec.ofInt 8 (b : Int)).setWidth 16).toNat = b := by
    rw [BitVec.toNat_setWidth, BitVec.ofInt_natCast, BitVec.toNat_ofNat]; omega
  have eab : ((BitVec.ofInt 8 (a : Int)).setWidth 16 <<< 8 ^^^ (BitVec.ofInt 8 (b : Int)).setWidth 16).toNat = a * 256 + b := by
    rw [BitVec.toNat_xor, ea, eb, show a * 256 = 2 ^ 8 * a by omega]
    have hb : b < 2 ^ 8 := by omega
    have h1 := Nat.two_pow_add_eq_or_of_lt hb a
    have h2 : 2 ^ 8 * a &&& b = 0 := by
      apply Nat.eq_of_testBit_eq
      intro i
      rw [Nat.testBit_and, Nat.zero_testBit, Nat.testBit_two_pow_mul]
      by_cases hi : i < 8
      · simp; intro h8; omega
      · rw [Nat.testBit_lt_two_pow (Nat.lt_of_lt_of_le hb (Nat.pow_le_pow_right (by decide) (by omega)))]; simp
    have h3 : ∀ p q : Nat, p &&& q = 0 → p ^^^ q = p ||| q := by
      intro p q h
      apply Nat.eq_of_testBit_eq
      intro i
      have := congrArg (fun z => Nat.testBit z i) h
      simp only [Nat.testBit_and, Nat.zero_testBit] at this
      rw [Nat.testBit_xor, Nat.testBit_or]
      cases hp : p.testBit i <;> cases hq : q.testBit i <;> simp_all
    rw [h3 _ _ h2, ← h1]
  constructor
  · intro h
    have h0 := it_zero 16 h
    have e : s = (BitVec.ofInt 8 (a : Int)).setWidth 16 <<< 8 ^^^ (BitVec.ofInt 8 (b : Int)).setWidth 16 := by
      rw [BitVec.xor_assoc] at h0
      exact BitVec.xor_eq_zero_iff.1 h0
    have := congrArg BitVec.toNat e
    rw [eab] at this
    unfold two
    rw [this]
    congr 1
    · omega
    · congr 1; omega
  · intro h
    simp only [two, List.cons.injEq, and_true] at h
    have e : s = (BitVec.ofInt 8 (a : Int)).setWidth 16 <<< 8 ^^^ (BitVec.ofInt 8 (b : Int)).setWidth 16 := by
      apply BitVec.eq_of_toNat_eq
      rw [eab]; omega
    rw [BitVec.xor_assoc, ← e, BitVec.xor_self]
    exact it_z 16
/-- A text that ends in its sum has the sum 0, and no other. -/
theorem sum_end (l : List Int) (hw : ∀ x ∈ l, 0 ≤ x ∧ x ≤ 255) (h2 : 2 ≤ l.length) : sum16 l = 0 ↔ l.take (l.length - 2) ++ two (sum16 (l.take (l.length - 2))) = l := by
  obtain ⟨x, y, e⟩ : ∃ x y, l.drop (l.length - 2) = [x, y] := by
    have hl : (l.drop (l.length - 2)).length = 2 := by rw [List.length_drop]; omega
    generalize l.drop (l.length - 2) = m at hl
    match m, hl with
    | [x, y], _ => exact ⟨x, y, rfl⟩
  have hx : x ∈ l.drop (l.length - 2) := by rw [e]; exact List.mem_cons_self
  have hy : y ∈ l.drop (l.length - 2) := by rw [e]; exact List.mem_cons_of_mem _ List.mem_cons_self
  have hs : l = l.take (l.length - 2) ++ [x, y] := by rw [← e, List.take_append_drop]
  have key : sum16 l = stpI (stpI (sum16 (l.take (l.length - 2))) x) y := by
    conv => lhs; rw [hs]
    unfold sum16
    rw [List.foldl_append]; rfl
  rw [key, stp_end _ x y (hw x (List.mem_of_mem_drop hx)) (hw y (List.mem_of_mem_drop hy))]
  constructor
  · intro h; rw [← h]; exact hs.symm
  · intro h
    have := h.trans hs
    exact (List.append_cancel_left this).symm
theorem rightc_f (l : List Int) (hl : l.length ≤ 1000) (hw : ∀ x ∈ l, 0 ≤ x ∧ x ≤ 255) (k : Nat) (hk : l.length + 10 ≤ k) : crc16_Right.f k l = some (decide (2 ≤ l.length ∧ sum16 l = 0)) := by
  unfold crc16_Right.f
  by_cases h : 2 ≤ l.length
  · rw [if_pos (by omega), sum_f l (by omega) hw k hk]
    simp only [Option.bind_some, h, true_and]
    congr 1
    by_cases z : sum16 l = 0
    · rw [z]; rfl
    · rw [decide_eq_false z]
      refine beq_eq_false_iff_ne.2 fun e => z (BitVec.eq_of_toNat_eq ?_)
      have : (0 : BitVec 16).toNat = 0 := rfl
      omega
  · rw [if_neg (by omega), decide_eq_false (fun z => h z.1)]
end Go.Proofs.YtnphphlincbgmaaDoor.P

-- YtnphphlincbgmaaDoorPAkTrip
namespace Go.Proofs.YtnphphlincbgmaaDoor.P
open Go Go.RowKit Go.Proofs.YtnphphlincbgmaaDoorW.PrintWords Go.Proofs.YtnphphlincbgmaaDoorW.PrintLast Go.Proofs.YtnphphlincbgmaaDoorW.PrintMore
set_option linter.unusedVariables false
set_option linter.unusedSimpArgs false

theorem bytes_in (l : List Int) (h : ∀ x ∈ l, bit x) (m : Nat) : ∀ x ∈ (List.range m).map (byte l), 0 ≤ x ∧ x ≤ 255 := by
  intro x hx
  simp only [List.mem_map, List.mem_range] at hx
  obtain ⟨j, _, rfl⟩ := hx
  rw [byte_rb l h j]
  exact rb_256 l h j 8 (Nat.le_refl _)
/-- What an ack's bytes come to. -/
structure Trip (x y : Int) (bs B xs : List Int) : Prop where
  bytes : bits_Bytes.f 2000 (pk x y 4) = some (bs, 0)
  seal_ : crc16_Seal.f 2000 bs = some B
  len : B.length = 9
  of : bits_Of.f 2000 B = some xs
  right : crc16_Right.f 2000 B = some true
  e0 : tkE xs 4 = 0
  n0 : tkN xs 4 = 2
  e1 : tkE (tkL xs 4) 4 = 0
  n1 : tkN (tkL xs 4) 4 = 0
  e2 : tkE (tkL (tkL xs 4) 4) 16 = 0
  n2 : tkN (tkL (tkL xs 4) 4) 16 = x
  e3 : tkE (tkL (tkL (tkL xs 4) 4) 16) 32 = 0
  n3 : tkN (tkL (tkL (tkL xs 4) 4) 16) 32 = y
theorem trip (x y : Int) (hx : 0 ≤ x ∧ x ≤ 65535) (hy : 0 ≤ y ∧ y ≤ 4294967295) : ∃ bs B xs, Trip x y bs B xs := by
  obtain ⟨n, rfl⟩ := Int.eq_ofNat_of_zero_le hx.1
  obtain ⟨m, rfl⟩ := Int.eq_ofNat_of_zero_le hy.1
  have p0 : putE 2 4 = 0 := putE_ok 2 4 (by decide) (by decide) (by decide)
  have p1 : putE 0 4 = 0 := putE_ok 0 4 (by decide) (by decide) (by decide)
  have p2 : putE (n : Int) 16 = 0 := putE_ok n 16 (by decide) (by decide) (by have := hx.2; omega)
  have p3 : putE (m : Int) 32 = 0 := putE_ok m 32 (by decide) (by decide) (by have := hy.2; omega)
  have l0 := putL_len 2 4 p0
  have l1 := putL_len 0 4 p1
  have l2 := putL_len (n : Int) 16 p2
  have l3 := putL_len (m : Int) 32 p3
  obtain ⟨L, hL⟩ : ∃ L, L = pk (n : Int) (m : Int) 4 := ⟨_, rfl⟩
  have hL2 : L = putL 2 4 ++ putL 0 4 ++ putL (n : Int) 16 ++ putL (m : Int) 32 := hL
  have hb : ∀ z ∈ L, bit z := by
    intro z hz
    rw [hL2] at hz
    rcases List.mem_append.1 hz with hz | hz
    · rcases List.mem_append.1 hz with hz | hz
      · rcases List.mem_append.1 hz with hz | hz
        · exact putL_bit 2 4 (by decide) z hz
        · exact putL_bit 0 4 (by decide) z hz
      · exact putL_bit (n : Int) 16 (by have := hx.2; omega) z hz
    · exact putL_bit (m : Int) 32 (by have := hy.2; omega) z hz
  have hlen : L.length = 56 := by rw [hL2, List.length_append, List.length_append, List.length_append]; omega
  obtain ⟨bs, hbs⟩ : ∃ bs, bs = (List.range ((L.length + 7) / 8)).map (byte L) := ⟨_, rfl⟩
  have hbl : bs.length = 7 := by rw [hbs, List.length_map, List.length_range, hlen]
  have hbi : ∀ z ∈ bs, 0 ≤ z ∧ z ≤ 255 := by rw [hbs]; exact bytes_in L hb _
  obtain ⟨z, hz, hof⟩ := ofl_bytes L hb
  rw [← hbs] at hof
  have hz0 : z = 0 := by
    have := congrArg List.length hof
    rw [ofl_length, List.length_append, List.length_replicate, hbl, hlen] at this
    omega
  subst hz0
  rw [List.replicate_zero, List.append_nil] at hof
  have hB : ∀ z ∈ bs ++ two (sum16 bs), 0 ≤ z ∧ z ≤ 255 := fun z hz => (List.mem_append.1 hz).elim (hbi z) (two_in _ z)
  have hBl : (bs ++ two (sum16 bs)).length = 9 := by rw [List.length_append, hbl]; rfl
  have hxs : ofl (bs ++ two (sum16 bs)) = putL 2 4 ++ (putL 0 4 ++ (putL (n : Int) 16 ++ (putL (m : Int) 32 ++ ofl (two (sum16 bs))))) := by
    have e : ofl (bs ++ two (sum16 bs)) = ofl bs ++ ofl (two (sum16 bs)) := by unfold ofl; rw [List.flatMap_append]
    rw [e, hof, hL2]; simp only [List.append_assoc]
  have t0 := take_put 2 4 (putL 0 4 ++ (putL (n : Int) 16 ++ (putL (m : Int) 32 ++ ofl (two (sum16 bs))))) p0
  have t1 := take_put 0 4 (putL (n : Int) 16 ++ (putL (m : Int) 32 ++ ofl (two (sum16 bs)))) p1
  have t2 := take_put (n : Int) 16 (putL (m : Int) 32 ++ ofl (two (sum16 bs))) p2
  have t3 := take_put (m : Int) 32 (ofl (two (sum16 bs))) p3
  rw [← hxs] at t0
  refine ⟨bs, bs ++ two (sum16 bs), ofl (bs ++ two (sum16 bs)), ?_, seal_f bs (by omega) hbi 2000 (by omega), hBl, bof_f _ hB (by omega) 2000 (by omega), ?_, t0.1, t0.2.1, ?_, ?_, ?_, ?_, ?_, ?_⟩
  · rw [← hL, hbs]
    exact bytes_some hb (by omega) 2000 (by omega)
  · rw [rightc_f _ (by omega) hB 2000 (by omega)]
    refine congrArg some (decide_eq_true ⟨by omega, (sum_end _ hB (by omega)).2 ?_⟩)
    rw [hBl, List.take_append_of_le_length (by omega), List.take_of_length_le (by omega)]
  · rw [t0.2.2]; exact t1.1
  · rw [t0.2.2]; exact t1.2.1
  · rw [t0.2.2, t1.2.2]; exact t2.1
  · rw [t0.2.2, t1.2.2]; exact t2.2.1
  · rw [t0.2.2, t1.2.2, t2.2.2]; exact t3.1
  · rw [t0.2.2, t1.2.2, t2.2.2]; exact t3.2.1
end Go.Proofs.YtnphphlincbgmaaDoor.P

-- YtnphphlincbgmaaDoorP1
namespace Go.Proofs.YtnphphlincbgmaaDoor.P
open Go.RowKit Go.Proofs.YtnphphlincbgmaaDoorW.PrintWords Go.Proofs.YtnphphlincbgmaaDoorW.PrintLast Go.Proofs.YtnphphlincbgmaaDoorW.PrintMore
attribute [local go_sem] max2_int min2_int max_two min_two max_three min_three max_four min_four   -- for this text's walks alone
set_option linter.unusedVariables false
set_option linter.unusedSimpArgs false

/-! ### seq_Plus: function 4 -/
def seq_Plus.f (a0 : Int) (a1 : Int) : Option (Int) := some (IntKind.u16.wrap (a0 + (IntKind.u16.wrap (a1))))
set_option maxHeartbeats 8000000 in
set_option maxRecDepth 100000 in
theorem seq_Plus.calls (a0 : Int) (a1 : Int) (r : Int) (w : World) (h : seq_Plus.f a0 a1 = some r) :
    Calls Tryd.prog 4 #[.int .u16 a0, .int .i64 a1] w fun e w' => e = .returned (.int .u16 r) ∧ Drawn0 w w' := by
  have H : (some (IntKind.u16.wrap (a0 + (IntKind.u16.wrap (a1))))) = some r := h
  clear h
  obtain rfl := Option.some.inj H
  go_enter Tryd.func4, Tryd.ntmps4
  go_wp2
  go_ret
  exact ⟨by first | rfl | (simp; done) | (simp [*]; done), by repeat (first | exact Drawn0.refl _ | apply Drawn0.step)⟩

end Go.Proofs.YtnphphlincbgmaaDoor.P

-- YtnphphlincbgmaaDoorP2
namespace Go.Proofs.YtnphphlincbgmaaDoor.P
open Go.RowKit Go.Proofs.YtnphphlincbgmaaDoorW.PrintWords Go.Proofs.YtnphphlincbgmaaDoorW.PrintLast Go.Proofs.YtnphphlincbgmaaDoorW.PrintMore
attribute [local go_sem] max2_int min2_int max_two min_two max_three min_three max_four min_four   -- for this text's walks alone
set_option linter.unusedVariables false
set_option linter.unusedSimpArgs false

/-! ### seq_Ahead: function 10 -/
def seq_Ahead.f (a0 : Int) (a1 : Int) : Option (Int) := some (wrap64 (IntKind.u16.wrap (a1 - a0)))
set_option maxHeartbeats 8000000 in
set_option maxRecDepth 100000 in
theorem seq_Ahead.calls (a0 : Int) (a1 : Int) (r : Int) (w : World) (h : seq_Ahead.f a0 a1 = some r) :
    Calls Tryd.prog 10 #[.int .u16 a0, .int .u16 a1] w fun e w' => e = .returned (.int .i64 r) ∧ Drawn0 w w' := by
  have H : (some (wrap64 (IntKind.u16.wrap (a1 - a0)))) = some r := h
  clear h
  obtain rfl := Option.some.inj H
  go_enter Tryd.func10, Tryd.ntmps10
  go_wp2
  go_ret
  exact ⟨by first | rfl | (simp; done) | (simp [*]; done), by repeat (first | exact Drawn0.refl _ | apply Drawn0.step)⟩

end Go.Proofs.YtnphphlincbgmaaDoor.P

-- YtnphphlincbgmaaDoorP3
namespace Go.Proofs.YtnphphlincbgmaaDoor.P
open Go.RowKit Go.Proofs.YtnphphlincbgmaaDoorW.PrintWords Go.Proofs.YtnphphlincbgmaaDoorW.PrintLast Go.Proofs.YtnphphlincbgmaaDoorW.PrintMore
attribute [local go_sem] max2_int min2_int max_two min_two max_three min_three max_four min_four   -- for this text's walks alone
set_option linter.unusedVariables false
set_option linter.unusedSimpArgs false

/-! ### seq_Before: function 11 -/
def seq_Before.f (a0 : Int) (a1 : Int) : Option (Bool) := (seq_Ahead.f a0 a1).bind fun t101 => (if t101 ≥ 1 then (some (decide (t101 < 32768))) else (some false))
set_option maxHeartbeats 8000000 in
set_option maxRecDepth 100000 in
theorem seq_Before.calls (a0 : Int) (a1 : Int) (r : Bool) (w : World) (h : seq_Before.f a0 a1 = some r) :
    Calls Tryd.prog 11 #[.int .u16 a0, .int .u16 a1] w fun e w' => e = .returned (.bool r) ∧ Drawn0 w w' := by
  have H : ((seq_Ahead.f a0 a1).bind fun t101 => (if t101 ≥ 1 then (some (decide (t101 < 32768))) else (some false))) = some r := h
  clear h
  replace H := Option.bind_eq_some_iff.mp H
  obtain ⟨t101, A30, H⟩ := H
  replace H : (if t101 ≥ 1 then (some (decide (t101 < 32768))) else (some false)) = some r := H
  have A3 := Aside0.mk A30
  clear A30
  by_cases c4 : t101 ≥ 1
  · rw [if_pos c4] at H
    have c4b0 : decide (1 ≤ t101) = true := decide_eq_true c4
    clear c4
    obtain rfl := Option.some.inj H
    go_enter Tryd.func11, Tryd.ntmps11
    go_wp2_with (first | ((with_reducible refine gate_callee (f := 10) rfl ?_); refine goesL_ (some 8) rfl rfl Tryd.func10 (by kernel_rfl) rfl #[.int .u16 a0, .int .u16 a1] rfl (by (try simp only [List.map_toArray, List.map_cons, List.map_nil]); first | done | rfl | (simp only [List.length_drop, List.length_take]; rfl)) ?_; (with_reducible refine (seq_Ahead.calls a0 a1 t101 _ A3.out).mono ?_); rintro e w' ⟨rfl, ⟨nd, rfl⟩⟩; refine ⟨_, rfl, ?_⟩))
    go_ret
    exact ⟨by first | rfl | (simp; done) | (simp [*]; done), by repeat (first | exact Drawn0.refl _ | apply Drawn0.step)⟩
  · rw [if_neg c4] at H
    have c4b0 : decide (1 ≤ t101) = false := decide_eq_false c4
    clear c4
    obtain rfl := Option.some.inj H
    go_enter Tryd.func11, Tryd.ntmps11
    go_wp2_with (first | ((with_reducible refine gate_callee (f := 10) rfl ?_); refine goesL_ (some 8) rfl rfl Tryd.func10 (by kernel_rfl) rfl #[.int .u16 a0, .int .u16 a1] rfl (by (try simp only [List.map_toArray, List.map_cons, List.map_nil]); first | done | rfl | (simp only [List.length_drop, List.length_take]; rfl)) ?_; (with_reducible refine (seq_Ahead.calls a0 a1 t101 _ A3.out).mono ?_); rintro e w' ⟨rfl, ⟨nd, rfl⟩⟩; refine ⟨_, rfl, ?_⟩))
    go_ret
    exact ⟨by first | rfl | (simp; done) | (simp [*]; done), by repeat (first | exact Drawn0.refl _ | apply Drawn0.step)⟩

end Go.Proofs.YtnphphlincbgmaaDoor.P
