/- Texts of this seat, one behind the other (merge.py): the walks of the functions that the law ShuttlePools uses, and plain words on what they come to. No condition. -/
import Derived.Test.YtknanbnjbilciaaGreatDoorProg
import Derived.Test.YtknanbnjbilciaaGreatDoorWWords
import Derived.Test.YtknanbnjbilciaaGreatDoorWMore
import Derived.Lib.SlBytesConst
import Derived.Lib.SliceRun
import Derived.ChangeKeysEq
import Derived.Laws.Tables
import Derived.Laws.CopyOwn
import Derived.Below
import Derived.Deep.Draws
import Derived.Deep.AppendLies
import Derived.Maps.AppendAt
import Derived.OwnWalk
import Derived.Laws.BytesArg
import Derived.Laws.MakeOwn
import Derived.Laws.OwnMore
import Derived.Deep.OwnRows
import Derived.Tactics
import Derived.Lib.ConvBytes
import Derived.Laws.Slices
import Derived.WalkKit
import Derived.KernelRfl
import Derived.RowKit3
import Derived.Deep.LoopGhost
import Derived.Deep.QuietTactic
import Derived.BigQuiet
import Derived.WideLaws
import Derived.Deep.DeepCutAuto
import Derived.Deep.CutBlock
import Derived.Deep.RegionHeld3
import Derived.Laws.Rows
import Derived.Lib.AppendStr
import Derived.ArgAppend
import Derived.Laws.IdiomCopy
import Derived.OrdersHeld
import Derived.Laws.BitsLemmas
import Derived.RowKit
import Derived.Test.YtknanbnjbilciaaGreatDoorWLast
import Derived.Test.YtknanbnjbilciaaGreatDoorWTab
import Derived.Test.YtknanbnjbilciaaGreatDoorWFour
import Derived.Test.YtknanbnjbilciaaGreatDoorWQPut
import Derived.Test.YtknanbnjbilciaaGreatDoorWApart
import Derived.Test.YtknanbnjbilciaaGreatDoorWArr
import Derived.Test.YtknanbnjbilciaaGreatDoorWZeros
import Derived.Test.YtknanbnjbilciaaGreatDoorWFoot
import Derived.Test.YtknanbnjbilciaaGreatDoorWKept
import Derived.Test.YtknanbnjbilciaaGreatDoorWShare
import Derived.Test.YtknanbnjbilciaaGreatDoorWN
import Derived.Test.YtknanbnjbilciaaGreatDoorWFootNe
import Derived.Test.YtknanbnjbilciaaGreatDoorWAt
import Derived.Test.YtknanbnjbilciaaGreatDoorWEqStruct
import Derived.Test.YtknanbnjbilciaaGreatDoorWRepsOne
import Derived.Test.YtknanbnjbilciaaGreatDoorWInv
import Derived.Test.YtknanbnjbilciaaGreatDoorWInvWords
import Derived.Test.YtknanbnjbilciaaGreatDoorWGuard
import Derived.Test.YtknanbnjbilciaaGreatDoorWNEv
import Derived.RangeFuncBox
import Derived.Deep.DrawnRows
import Derived.Laws.BitsAllLaws
import Derived.OpenShut
-- YtknanbnjbilciaaGreatDoorPExtra
namespace Go.Proofs.YtknanbnjbilciaaGreatDoor.P
open Go.RowKit Go.Proofs.YtknanbnjbilciaaGreatDoorW.PrintWords Go.Proofs.YtknanbnjbilciaaGreatDoorW.PrintMore

/-- A row that was laid as a literal (marked or not) reads as its numbers. -/
theorem const_reads (w : World) (e : TypeId) (k : IntKind) (xs : List Int) (C : Array Value) (fr : Nat × Nat) (hC : C = (nums k xs).toArray) (hx : xs.length ≤ 9223372036854775807) :
    Kd.C (Kd.int k) (w.alloc (.cells C e fr)) (some ⟨w.heap.size, 0, none⟩) xs.length xs := by
  subst hC
  refine Kd.C_of_reads (d := (0 : Int)) (h1 := fun _ => rfl) ⟨rfl, hx, fun _ => ⟨_, rfl, fun j hj => ?_⟩⟩
  rw [add_plain, World.cell?_alloc_mark w _ e fr j]
  simp [nums, List.getD_eq_getElem?_getD, List.getElem?_eq_getElem hj]
/-- A region that draws its order stands here (a cheap look ahead of a dear step). -/
theorem gate_quiet {P : Program} {n : Nat} {ops : Array Oper} {Q : Exit → Act → World → Prop} {a : Act} {w : World} (h : Code.wp P (.region n ops true) Q a w) : Code.wp P (.region n ops true) Q a w := h
theorem reads_len {α : Type} {R : α → List Value → Prop} {size : Nat} {w : World} {A : Option Addr} {n n' : Nat} {ps : List α} (e : n = n') (h : ReadsRow R size w A n ps) : ReadsRow R size w A n' ps := e ▸ h
theorem nil_of_none {α : Type} {d : Kd α} {w : World} {l : List α} (h : Kd.C d w none l.length l) : l = [] := by
  cases l with
  | nil => rfl
  | cons x xs =>
    obtain ⟨_, _, h3⟩ := h
    obtain ⟨ad, e, _⟩ := h3 (by simp)
    cases e

section
variable {P : Program} {d : Nat} {xs ys : Array Value} {e c n i : Nat} {is : List Nat} {a b : Value} {r s : Bool} {w : World}
end

/-- 'a[i]' of an array by value. -/
theorem run_index_arr {P : Program} (w : World) (t : TypeId) (cs : Array Value) (k : IntKind) (i : Int) (h : P.underlying t = some (.array (P.arrayLen t) (P.elem t))) :
    (Instr.index t (.agg cs) (.int k i)).run P w = if 0 ≤ i ∧ i < P.arrayLen t then ((sizeOf (P.elem t)).run P w).andThen fun s w => (part (P.elem t) cs (i.toNat * s)).run P w else (boundsPanic k i (P.arrayLen t) .index).run P w := by
  by_cases hi : 0 ≤ i ∧ i < (P.arrayLen t : Int)
  · simp [Instr.index, run_underlying h, asIntOf, hi]
  · simp [Instr.index, run_underlying h, asIntOf, hi]
/-- An array's cells, read as a row. -/
theorem C_of_blk {k : IntKind} {w : World} {g : Nat} {t : TypeId} {cs : Array Value} {xs : List Int} {n : Nat} (h : w.heap[g]? = some (.cells cs t (0, 0))) (hC : cs = (nums k xs).toArray) (hn : n = xs.length ∧ xs.length ≤ 9223372036854775807) :
    Kd.C (Kd.int k) w (some ⟨g, 0, none⟩) n xs := by
  subst hC
  obtain ⟨rfl, hx⟩ := hn
  refine Kd.C_of_reads (d := (0 : Int)) (h1 := fun _ => rfl) ⟨rfl, hx, fun _ => ⟨_, rfl, fun j hj => ?_⟩⟩
  rw [add_plain, blk_cell h]
  simp [nums, List.getD_eq_getElem?_getD, List.getElem?_eq_getElem hj]
/-- What a listed table's cells hold (conv.taps: the first package-level variable). -/
structure TP (w : World) : Prop where
  c0 : w.cell? ⟨2, 0, none⟩ = some (.int .u64 79)
  c1 : w.cell? ⟨2, 1, none⟩ = some (.int .u64 87)
  c2 : w.cell? ⟨2, 2, none⟩ = some (.int .u64 109)
  c3 : w.cell? ⟨2, 3, none⟩ = some (.int .u64 121)
theorem TP.lt {w : World} (h : TP w) : 2 < w.heap.size := World.block_lt_of_cell? w _ h.c0
theorem TP_of {w w' : World} (h : TP w) (hb : Below w.heap.size w w') : TP w' :=
  have e : ∀ i, w'.cell? ⟨2, i, none⟩ = w.cell? ⟨2, i, none⟩ := fun _ => hb.cell h.lt
  ⟨(e 0).trans h.c0, (e 1).trans h.c1, (e 2).trans h.c2, (e 3).trans h.c3⟩

end Go.Proofs.YtknanbnjbilciaaGreatDoor.P
namespace Go.Proofs.YtknanbnjbilciaaGreatDoor.P
open Go.RowKit Go.Proofs.YtknanbnjbilciaaGreatDoorW.PrintWords Go.Proofs.YtknanbnjbilciaaGreatDoorW.PrintLast Go.Proofs.YtknanbnjbilciaaGreatDoorW.PrintMore
-- YtknanbnjbilciaaGreatDoorP0
section
attribute [local go_sem] max2_int min2_int max_two min_two max_three min_three max_four min_four
set_option linter.unusedVariables false
set_option linter.unusedSimpArgs false



def errW : Option Int → Value
  | none => .nilIface
  | some c => .iface 0 (.int .i64 c)
theorem errW_none : errW none = .nilIface := rfl
theorem errW_some (c : Int) : errW (some c) = .iface 0 (.int .i64 c) := rfl

theorem info3 : (Tryz.prog.info? 3).map (fun i => (i.zero, i.size, i.bytes)) = some (some (.int .i64 0), 1, 8) := by kernel_rfl
theorem info5 : (Tryz.prog.info? 5).map (fun i => (i.zero, i.size, i.bytes)) = some (some (.int .u8 0), 1, 1) := by kernel_rfl
-- the values' own types
/-! #### struct type 130 -/
/-! #### struct type 62 -/
end
-- YtknanbnjbilciaaGreatDoorP108
section
attribute [local go_sem] max2_int min2_int max_two min_two max_three min_three max_four min_four
set_option linter.unusedVariables false
set_option linter.unusedSimpArgs false

/-! ### conv_right: function 96 -/
def conv_right.f (a0 : Int) (a1 : Int) : Option (Bool) := if a0 ≥ 0 then (if a0 < 64 then (some (decide (a1 ≤ 1))) else (some false)) else (some false)
set_option maxHeartbeats 8000000 in
set_option maxRecDepth 100000 in
theorem conv_right.calls (a0 : Int) (a1 : Int) (r : Bool) (w : World) (h : conv_right.f a0 a1 = some r) :
    Calls Tryz.prog 96 #[.int .i64 a0, .int .u8 a1] w fun e w' => e = .returned (.bool r) ∧ Drawn0 w w' := by
  have H : (if a0 ≥ 0 then (if a0 < 64 then (some (decide (a1 ≤ 1))) else (some false)) else (some false)) = some r := h
  clear h
  by_cases c3 : a0 ≥ 0
  · rw [if_pos c3] at H
    have c3b0 : decide (0 ≤ a0) = true := decide_eq_true c3
    clear c3
    by_cases c4 : a0 < 64
    · rw [if_pos c4] at H
      have c4b0 : decide (a0 < 64) = true := decide_eq_true c4
      clear c4
      obtain rfl := Option.some.inj H
      go_enter Tryz.func96, Tryz.ntmps96
      go_wp2
      go_ret
      exact ⟨by first | rfl | (simp; done) | (simp [*]; done), by repeat (first | exact Drawn0.refl _ | apply Drawn0.step)⟩
    · rw [if_neg c4] at H
      have c4b0 : decide (a0 < 64) = false := decide_eq_false c4
      clear c4
      obtain rfl := Option.some.inj H
      go_enter Tryz.func96, Tryz.ntmps96
      go_wp2
      go_ret
      exact ⟨by first | rfl | (simp; done) | (simp [*]; done), by repeat (first | exact Drawn0.refl _ | apply Drawn0.step)⟩
  · rw [if_neg c3] at H
    have c3b0 : decide (0 ≤ a0) = false := decide_eq_false c3
    clear c3
    obtain rfl := Option.some.inj H
    go_enter Tryz.func96, Tryz.ntmps96
    go_wp2
    go_ret
    exact ⟨by first | rfl | (simp; done) | (simp [*]; done), by repeat (first | exact Drawn0.refl _ | apply Drawn0.step)⟩
end
-- YtknanbnjbilciaaGreatDoorP15
section
attribute [local go_sem] max2_int min2_int max_two min_two max_three min_three max_four min_four
set_option linter.unusedVariables false
set_option linter.unusedSimpArgs false

/-! ### conv_word: function 66 -/
def conv_word.f (a0 : Int) (a1 : Int) : Option (Int) := some (Go.bits .or .u64 (IntKind.u64.wrap ((IntKind.u64.wrap (a1)) * 64)) (IntKind.u64.wrap (a0)))
set_option maxHeartbeats 8000000 in
set_option maxRecDepth 100000 in
theorem conv_word.calls (a0 : Int) (a1 : Int) (r : Int) (w : World) (h : conv_word.f a0 a1 = some r) :
    Calls Tryz.prog 66 #[.int .i64 a0, .int .u8 a1] w fun e w' => e = .returned (.int .u64 r) ∧ Drawn0 w w' := by
  have H : (some (Go.bits .or .u64 (IntKind.u64.wrap ((IntKind.u64.wrap (a1)) * 64)) (IntKind.u64.wrap (a0)))) = some r := h
  clear h
  obtain rfl := Option.some.inj H
  go_enter Tryz.func66, Tryz.ntmps66
  go_wp2
  go_ret
  exact ⟨by first | rfl | (simp; done) | (simp [*]; done), by repeat (first | exact Drawn0.refl _ | apply Drawn0.step)⟩
end
-- YtknanbnjbilciaaGreatDoorP109
section
attribute [local go_sem] max2_int min2_int max_two min_two max_three min_three max_four min_four
set_option linter.unusedVariables false
set_option linter.unusedSimpArgs false

/-! ### conv_Next: function 63 -/
def conv_Next.f (a0 : Int) (a1 : Int) : Option (Int × Int) := (conv_right.f a0 a1).bind fun t303 => (if t303 = true then ((conv_word.f a0 a1).bind fun t304 => (some (wrap64 (t304 / 2), 0))) else (some (0, 1)))
set_option maxHeartbeats 8000000 in
set_option maxRecDepth 100000 in
theorem conv_Next.calls (a0 : Int) (a1 : Int) (r1 : Int) (r2 : Int) (w : World) (h : conv_Next.f a0 a1 = some (r1, r2)) :
    Calls Tryz.prog 63 #[.int .i64 a0, .int .u8 a1] w fun e w' => e = .returned (.tuple #[.int .i64 r1, .int .i64 r2]) ∧ Drawn0 w w' := by
  have H : ((conv_right.f a0 a1).bind fun t303 => (if t303 = true then ((conv_word.f a0 a1).bind fun t304 => (some (wrap64 (t304 / 2), 0))) else (some (0, 1)))) = some (r1, r2) := h
  clear h
  replace H := Option.bind_eq_some_iff.mp H
  obtain ⟨t303, A30, H⟩ := H
  replace H : (if t303 = true then ((conv_word.f a0 a1).bind fun t304 => (some (wrap64 (t304 / 2), 0))) else (some (0, 1))) = some (r1, r2) := H
  have A3 := Aside0.mk A30
  clear A30
  by_cases c4 : t303 = true
  · subst c4
    have H1 : ((conv_word.f a0 a1).bind fun t304 => (some (wrap64 (t304 / 2), 0))) = some (r1, r2) := by rw [if_pos rfl] at H; exact H
    clear H
    have H := H1
    clear H1
    replace H := Option.bind_eq_some_iff.mp H
    obtain ⟨t304, A50, H⟩ := H
    replace H : (some (wrap64 (t304 / 2), 0)) = some (r1, r2) := H
    have A5 := Aside0.mk A50
    clear A50
    simp only [Option.some.injEq, Prod.mk.injEq] at H
    obtain ⟨rfl, rfl⟩ := H
    go_enter Tryz.func63, Tryz.ntmps63
    go_wp2_with (first | ((with_reducible refine gate_callee (f := 96) rfl ?_); refine goesL_ (some 8) rfl rfl Tryz.func96 (by kernel_rfl) rfl #[.int .i64 a0, .int .u8 a1] rfl (by (try simp only [List.map_toArray, List.map_cons, List.map_nil]); first | done | rfl | (simp only [List.length_drop, List.length_take]; rfl)) ?_; (with_reducible refine (conv_right.calls a0 a1 true _ A3.out).mono ?_); rintro e w' ⟨rfl, ⟨nd, rfl⟩⟩; refine ⟨_, rfl, ?_⟩) | ((with_reducible refine gate_callee (f := 66) rfl ?_); refine goesL_ (some 12) rfl rfl Tryz.func66 (by kernel_rfl) rfl #[.int .i64 a0, .int .u8 a1] rfl (by (try simp only [List.map_toArray, List.map_cons, List.map_nil]); first | done | rfl | (simp only [List.length_drop, List.length_take]; rfl)) ?_; (with_reducible refine (conv_word.calls a0 a1 t304 _ A5.out).mono ?_); rintro e w' ⟨rfl, ⟨nd, rfl⟩⟩; refine ⟨_, rfl, ?_⟩))
    go_ret2
    exact ⟨by first | rfl | (simp; done) | (simp [*]; done), by repeat (first | exact Drawn0.refl _ | apply Drawn0.step)⟩
  · replace c4 := Bool.eq_false_iff.mpr c4
    subst c4
    have H1 : (some (0, 1)) = some (r1, r2) := by rw [if_neg (show ¬ (false = true) by decide)] at H; exact H
    clear H
    have H := H1
    clear H1
    simp only [Option.some.injEq, Prod.mk.injEq] at H
    obtain ⟨rfl, rfl⟩ := H
    go_enter Tryz.func63, Tryz.ntmps63
    go_wp2_with (first | ((with_reducible refine gate_callee (f := 96) rfl ?_); refine goesL_ (some 8) rfl rfl Tryz.func96 (by kernel_rfl) rfl #[.int .i64 a0, .int .u8 a1] rfl (by (try simp only [List.map_toArray, List.map_cons, List.map_nil]); first | done | rfl | (simp only [List.length_drop, List.length_take]; rfl)) ?_; (with_reducible refine (conv_right.calls a0 a1 false _ A3.out).mono ?_); rintro e w' ⟨rfl, ⟨nd, rfl⟩⟩; refine ⟨_, rfl, ?_⟩))
    go_ret2
    exact ⟨by first | rfl | (simp; done) | (simp [*]; done), by repeat (first | exact Drawn0.refl _ | apply Drawn0.step)⟩
end
-- YtknanbnjbilciaaGreatDoorP17
section
attribute [local go_sem] max2_int min2_int max_two min_two max_three min_three max_four min_four
set_option linter.unusedVariables false
set_option linter.unusedSimpArgs false

/-! ### bits_OnesCount64: function 111 -/
def bits_OnesCount64.f (a0 : Int) : Option (Int) := some (Go.bits .and .i64 (wrap64 (IntKind.u64.wrap ((IntKind.u64.wrap ((IntKind.u64.wrap ((Go.bits .and .u64 (IntKind.u64.wrap (((IntKind.u64.wrap ((Go.bits .and .u64 ((IntKind.u64.wrap ((Go.bits .and .u64 (a0 / 2) 6148914691236517205) + (Go.bits .and .u64 a0 6148914691236517205))) / 4) 3689348814741910323) + (Go.bits .and .u64 (IntKind.u64.wrap ((Go.bits .and .u64 (a0 / 2) 6148914691236517205) + (Go.bits .and .u64 a0 6148914691236517205))) 3689348814741910323))) / 16) + (IntKind.u64.wrap ((Go.bits .and .u64 ((IntKind.u64.wrap ((Go.bits .and .u64 (a0 / 2) 6148914691236517205) + (Go.bits .and .u64 a0 6148914691236517205))) / 4) 3689348814741910323) + (Go.bits .and .u64 (IntKind.u64.wrap ((Go.bits .and .u64 (a0 / 2) 6148914691236517205) + (Go.bits .and .u64 a0 6148914691236517205))) 3689348814741910323))))) 1085102592571150095) + ((Go.bits .and .u64 (IntKind.u64.wrap (((IntKind.u64.wrap ((Go.bits .and .u64 ((IntKind.u64.wrap ((Go.bits .and .u64 (a0 / 2) 6148914691236517205) + (Go.bits .and .u64 a0 6148914691236517205))) / 4) 3689348814741910323) + (Go.bits .and .u64 (IntKind.u64.wrap ((Go.bits .and .u64 (a0 / 2) 6148914691236517205) + (Go.bits .and .u64 a0 6148914691236517205))) 3689348814741910323))) / 16) + (IntKind.u64.wrap ((Go.bits .and .u64 ((IntKind.u64.wrap ((Go.bits .and .u64 (a0 / 2) 6148914691236517205) + (Go.bits .and .u64 a0 6148914691236517205))) / 4) 3689348814741910323) + (Go.bits .and .u64 (IntKind.u64.wrap ((Go.bits .and .u64 (a0 / 2) 6148914691236517205) + (Go.bits .and .u64 a0 6148914691236517205))) 3689348814741910323))))) 1085102592571150095) / 256))) + ((IntKind.u64.wrap ((Go.bits .and .u64 (IntKind.u64.wrap (((IntKind.u64.wrap ((Go.bits .and .u64 ((IntKind.u64.wrap ((Go.bits .and .u64 (a0 / 2) 6148914691236517205) + (Go.bits .and .u64 a0 6148914691236517205))) / 4) 3689348814741910323) + (Go.bits .and .u64 (IntKind.u64.wrap ((Go.bits .and .u64 (a0 / 2) 6148914691236517205) + (Go.bits .and .u64 a0 6148914691236517205))) 3689348814741910323))) / 16) + (IntKind.u64.wrap ((Go.bits .and .u64 ((IntKind.u64.wrap ((Go.bits .and .u64 (a0 / 2) 6148914691236517205) + (Go.bits .and .u64 a0 6148914691236517205))) / 4) 3689348814741910323) + (Go.bits .and .u64 (IntKind.u64.wrap ((Go.bits .and .u64 (a0 / 2) 6148914691236517205) + (Go.bits .and .u64 a0 6148914691236517205))) 3689348814741910323))))) 1085102592571150095) + ((Go.bits .and .u64 (IntKind.u64.wrap (((IntKind.u64.wrap ((Go.bits .and .u64 ((IntKind.u64.wrap ((Go.bits .and .u64 (a0 / 2) 6148914691236517205) + (Go.bits .and .u64 a0 6148914691236517205))) / 4) 3689348814741910323) + (Go.bits .and .u64 (IntKind.u64.wrap ((Go.bits .and .u64 (a0 / 2) 6148914691236517205) + (Go.bits .and .u64 a0 6148914691236517205))) 3689348814741910323))) / 16) + (IntKind.u64.wrap ((Go.bits .and .u64 ((IntKind.u64.wrap ((Go.bits .and .u64 (a0 / 2) 6148914691236517205) + (Go.bits .and .u64 a0 6148914691236517205))) / 4) 3689348814741910323) + (Go.bits .and .u64 (IntKind.u64.wrap ((Go.bits .and .u64 (a0 / 2) 6148914691236517205) + (Go.bits .and .u64 a0 6148914691236517205))) 3689348814741910323))))) 1085102592571150095) / 256))) / 65536))) + ((IntKind.u64.wrap ((IntKind.u64.wrap ((Go.bits .and .u64 (IntKind.u64.wrap (((IntKind.u64.wrap ((Go.bits .and .u64 ((IntKind.u64.wrap ((Go.bits .and .u64 (a0 / 2) 6148914691236517205) + (Go.bits .and .u64 a0 6148914691236517205))) / 4) 3689348814741910323) + (Go.bits .and .u64 (IntKind.u64.wrap ((Go.bits .and .u64 (a0 / 2) 6148914691236517205) + (Go.bits .and .u64 a0 6148914691236517205))) 3689348814741910323))) / 16) + (IntKind.u64.wrap ((Go.bits .and .u64 ((IntKind.u64.wrap ((Go.bits .and .u64 (a0 / 2) 6148914691236517205) + (Go.bits .and .u64 a0 6148914691236517205))) / 4) 3689348814741910323) + (Go.bits .and .u64 (IntKind.u64.wrap ((Go.bits .and .u64 (a0 / 2) 6148914691236517205) + (Go.bits .and .u64 a0 6148914691236517205))) 3689348814741910323))))) 1085102592571150095) + ((Go.bits .and .u64 (IntKind.u64.wrap (((IntKind.u64.wrap ((Go.bits .and .u64 ((IntKind.u64.wrap ((Go.bits .and .u64 (a0 / 2) 6148914691236517205) + (Go.bits .and .u64 a0 6148914691236517205))) / 4) 3689348814741910323) + (Go.bits .and .u64 (IntKind.u64.wrap ((Go.bits .and .u64 (a0 / 2) 6148914691236517205) + (Go.bits .and .u64 a0 6148914691236517205))) 3689348814741910323))) / 16) + (IntKind.u64.wrap ((Go.bits .and .u64 ((IntKind.u64.wrap ((Go.bits .and .u64 (a0 / 2) 6148914691236517205) + (Go.bits .and .u64 a0 6148914691236517205))) / 4) 3689348814741910323) + (Go.bits .and .u64 (IntKind.u64.wrap ((Go.bits .and .u64 (a0 / 2) 6148914691236517205) + (Go.bits .and .u64 a0 6148914691236517205))) 3689348814741910323))))) 1085102592571150095) / 256))) + ((IntKind.u64.wrap ((Go.bits .and .u64 (IntKind.u64.wrap (((IntKind.u64.wrap ((Go.bits .and .u64 ((IntKind.u64.wrap ((Go.bits .and .u64 (a0 / 2) 6148914691236517205) + (Go.bits .and .u64 a0 6148914691236517205))) / 4) 3689348814741910323) + (Go.bits .and .u64 (IntKind.u64.wrap ((Go.bits .and .u64 (a0 / 2) 6148914691236517205) + (Go.bits .and .u64 a0 6148914691236517205))) 3689348814741910323))) / 16) + (IntKind.u64.wrap ((Go.bits .and .u64 ((IntKind.u64.wrap ((Go.bits .and .u64 (a0 / 2) 6148914691236517205) + (Go.bits .and .u64 a0 6148914691236517205))) / 4) 3689348814741910323) + (Go.bits .and .u64 (IntKind.u64.wrap ((Go.bits .and .u64 (a0 / 2) 6148914691236517205) + (Go.bits .and .u64 a0 6148914691236517205))) 3689348814741910323))))) 1085102592571150095) + ((Go.bits .and .u64 (IntKind.u64.wrap (((IntKind.u64.wrap ((Go.bits .and .u64 ((IntKind.u64.wrap ((Go.bits .and .u64 (a0 / 2) 6148914691236517205) + (Go.bits .and .u64 a0 6148914691236517205))) / 4) 3689348814741910323) + (Go.bits .and .u64 (IntKind.u64.wrap ((Go.bits .and .u64 (a0 / 2) 6148914691236517205) + (Go.bits .and .u64 a0 6148914691236517205))) 3689348814741910323))) / 16) + (IntKind.u64.wrap ((Go.bits .and .u64 ((IntKind.u64.wrap ((Go.bits .and .u64 (a0 / 2) 6148914691236517205) + (Go.bits .and .u64 a0 6148914691236517205))) / 4) 3689348814741910323) + (Go.bits .and .u64 (IntKind.u64.wrap ((Go.bits .and .u64 (a0 / 2) 6148914691236517205) + (Go.bits .and .u64 a0 6148914691236517205))) 3689348814741910323))))) 1085102592571150095) / 256))) / 65536))) / 4294967296)))) 127)
set_option maxHeartbeats 8000000 in
set_option maxRecDepth 100000 in
theorem bits_OnesCount64.calls (a0 : Int) (r : Int) (w : World) (h : bits_OnesCount64.f a0 = some r) :
    Calls Tryz.prog 111 #[.int .u64 a0] w fun e w' => e = .returned (.int .i64 r) ∧ Drawn0 w w' := by
  have H : (some (Go.bits .and .i64 (wrap64 (IntKind.u64.wrap ((IntKind.u64.wrap ((IntKind.u64.wrap ((Go.bits .and .u64 (IntKind.u64.wrap (((IntKind.u64.wrap ((Go.bits .and .u64 ((IntKind.u64.wrap ((Go.bits .and .u64 (a0 / 2) 6148914691236517205) + (Go.bits .and .u64 a0 6148914691236517205))) / 4) 3689348814741910323) + (Go.bits .and .u64 (IntKind.u64.wrap ((Go.bits .and .u64 (a0 / 2) 6148914691236517205) + (Go.bits .and .u64 a0 6148914691236517205))) 3689348814741910323))) / 16) + (IntKind.u64.wrap ((Go.bits .and .u64 ((IntKind.u64.wrap ((Go.bits .and .u64 (a0 / 2) 6148914691236517205) + (Go.bits .and .u64 a0 6148914691236517205))) / 4) 3689348814741910323) + (Go.bits .and .u64 (IntKind.u64.wrap ((Go.bits .and .u64 (a0 / 2) 6148914691236517205) + (Go.bits .and .u64 a0 6148914691236517205))) 3689348814741910323))))) 1085102592571150095) + ((Go.bits .and .u64 (IntKind.u64.wrap (((IntKind.u64.wrap ((Go.bits .and .u64 ((IntKind.u64.wrap ((Go.bits .and .u64 (a0 / 2) 6148914691236517205) + (Go.bits .and .u64 a0 6148914691236517205))) / 4) 3689348814741910323) + (Go.bits .and .u64 (IntKind.u64.wrap ((Go.bits .and .u64 (a0 / 2) 6148914691236517205) + (Go.bits .and .u64 a0 6148914691236517205))) 3689348814741910323))) / 16) + (IntKind.u64.wrap ((Go.bits .and .u64 ((IntKind.u64.wrap ((Go.bits .and .u64 (a0 / 2) 6148914691236517205) + (Go.bits .and .u64 a0 6148914691236517205))) / 4) 3689348814741910323) + (Go.bits .and .u64 (IntKind.u64.wrap ((Go.bits .and .u64 (a0 / 2) 6148914691236517205) + (Go.bits .and .u64 a0 6148914691236517205))) 3689348814741910323))))) 1085102592571150095) / 256))) + ((IntKind.u64.wrap ((Go.bits .and .u64 (IntKind.u64.wrap (((IntKind.u64.wrap ((Go.bits .and .u64 ((IntKind.u64.wrap ((Go.bits .and .u64 (a0 / 2) 6148914691236517205) + (Go.bits .and .u64 a0 6148914691236517205))) / 4) 3689348814741910323) + (Go.bits .and .u64 (IntKind.u64.wrap ((Go.bits .and .u64 (a0 / 2) 6148914691236517205) + (Go.bits .and .u64 a0 6148914691236517205))) 3689348814741910323))) / 16) + (IntKind.u64.wrap ((Go.bits .and .u64 ((IntKind.u64.wrap ((Go.bits .and .u64 (a0 / 2) 6148914691236517205) + (Go.bits .and .u64 a0 6148914691236517205))) / 4) 3689348814741910323) + (Go.bits .and .u64 (IntKind.u64.wrap ((Go.bits .and .u64 (a0 / 2) 6148914691236517205) + (Go.bits .and .u64 a0 6148914691236517205))) 3689348814741910323))))) 1085102592571150095) + ((Go.bits .and .u64 (IntKind.u64.wrap (((IntKind.u64.wrap ((Go.bits .and .u64 ((IntKind.u64.wrap ((Go.bits .and .u64 (a0 / 2) 6148914691236517205) + (Go.bits .and .u64 a0 6148914691236517205))) / 4) 3689348814741910323) + (Go.bits .and .u64 (IntKind.u64.wrap ((Go.bits .and .u64 (a0 / 2) 6148914691236517205) + (Go.bits .and .u64 a0 6148914691236517205))) 3689348814741910323))) / 16) + (IntKind.u64.wrap ((Go.bits .and .u64 ((IntKind.u64.wrap ((Go.bits .and .u64 (a0 / 2) 6148914691236517205) + (Go.bits .and .u64 a0 6148914691236517205))) / 4) 3689348814741910323) + (Go.bits .and .u64 (IntKind.u64.wrap ((Go.bits .and .u64 (a0 / 2) 6148914691236517205) + (Go.bits .and .u64 a0 6148914691236517205))) 3689348814741910323))))) 1085102592571150095) / 256))) / 65536))) + ((IntKind.u64.wrap ((IntKind.u64.wrap ((Go.bits .and .u64 (IntKind.u64.wrap (((IntKind.u64.wrap ((Go.bits .and .u64 ((IntKind.u64.wrap ((Go.bits .and .u64 (a0 / 2) 6148914691236517205) + (Go.bits .and .u64 a0 6148914691236517205))) / 4) 3689348814741910323) + (Go.bits .and .u64 (IntKind.u64.wrap ((Go.bits .and .u64 (a0 / 2) 6148914691236517205) + (Go.bits .and .u64 a0 6148914691236517205))) 3689348814741910323))) / 16) + (IntKind.u64.wrap ((Go.bits .and .u64 ((IntKind.u64.wrap ((Go.bits .and .u64 (a0 / 2) 6148914691236517205) + (Go.bits .and .u64 a0 6148914691236517205))) / 4) 3689348814741910323) + (Go.bits .and .u64 (IntKind.u64.wrap ((Go.bits .and .u64 (a0 / 2) 6148914691236517205) + (Go.bits .and .u64 a0 6148914691236517205))) 3689348814741910323))))) 1085102592571150095) + ((Go.bits .and .u64 (IntKind.u64.wrap (((IntKind.u64.wrap ((Go.bits .and .u64 ((IntKind.u64.wrap ((Go.bits .and .u64 (a0 / 2) 6148914691236517205) + (Go.bits .and .u64 a0 6148914691236517205))) / 4) 3689348814741910323) + (Go.bits .and .u64 (IntKind.u64.wrap ((Go.bits .and .u64 (a0 / 2) 6148914691236517205) + (Go.bits .and .u64 a0 6148914691236517205))) 3689348814741910323))) / 16) + (IntKind.u64.wrap ((Go.bits .and .u64 ((IntKind.u64.wrap ((Go.bits .and .u64 (a0 / 2) 6148914691236517205) + (Go.bits .and .u64 a0 6148914691236517205))) / 4) 3689348814741910323) + (Go.bits .and .u64 (IntKind.u64.wrap ((Go.bits .and .u64 (a0 / 2) 6148914691236517205) + (Go.bits .and .u64 a0 6148914691236517205))) 3689348814741910323))))) 1085102592571150095) / 256))) + ((IntKind.u64.wrap ((Go.bits .and .u64 (IntKind.u64.wrap (((IntKind.u64.wrap ((Go.bits .and .u64 ((IntKind.u64.wrap ((Go.bits .and .u64 (a0 / 2) 6148914691236517205) + (Go.bits .and .u64 a0 6148914691236517205))) / 4) 3689348814741910323) + (Go.bits .and .u64 (IntKind.u64.wrap ((Go.bits .and .u64 (a0 / 2) 6148914691236517205) + (Go.bits .and .u64 a0 6148914691236517205))) 3689348814741910323))) / 16) + (IntKind.u64.wrap ((Go.bits .and .u64 ((IntKind.u64.wrap ((Go.bits .and .u64 (a0 / 2) 6148914691236517205) + (Go.bits .and .u64 a0 6148914691236517205))) / 4) 3689348814741910323) + (Go.bits .and .u64 (IntKind.u64.wrap ((Go.bits .and .u64 (a0 / 2) 6148914691236517205) + (Go.bits .and .u64 a0 6148914691236517205))) 3689348814741910323))))) 1085102592571150095) + ((Go.bits .and .u64 (IntKind.u64.wrap (((IntKind.u64.wrap ((Go.bits .and .u64 ((IntKind.u64.wrap ((Go.bits .and .u64 (a0 / 2) 6148914691236517205) + (Go.bits .and .u64 a0 6148914691236517205))) / 4) 3689348814741910323) + (Go.bits .and .u64 (IntKind.u64.wrap ((Go.bits .and .u64 (a0 / 2) 6148914691236517205) + (Go.bits .and .u64 a0 6148914691236517205))) 3689348814741910323))) / 16) + (IntKind.u64.wrap ((Go.bits .and .u64 ((IntKind.u64.wrap ((Go.bits .and .u64 (a0 / 2) 6148914691236517205) + (Go.bits .and .u64 a0 6148914691236517205))) / 4) 3689348814741910323) + (Go.bits .and .u64 (IntKind.u64.wrap ((Go.bits .and .u64 (a0 / 2) 6148914691236517205) + (Go.bits .and .u64 a0 6148914691236517205))) 3689348814741910323))))) 1085102592571150095) / 256))) / 65536))) / 4294967296)))) 127)) = some r := h
  clear h
  obtain rfl := Option.some.inj H
  go_enter Tryz.func111, Tryz.ntmps111
  go_wp2
  go_ret
  exact ⟨by first | rfl | (simp; done) | (simp [*]; done), by repeat (first | exact Drawn0.refl _ | apply Drawn0.step)⟩
end
-- YtknanbnjbilciaaGreatDoorP18
section
attribute [local go_sem] max2_int min2_int max_two min_two max_three min_three max_four min_four
set_option linter.unusedVariables false
set_option linter.unusedSimpArgs false

/-! ### bits_OnesCount: function 97 -/
def bits_OnesCount.f (a0 : Int) : Option (Int) := (bits_OnesCount64.f a0).bind fun t129 => (some t129)
set_option maxHeartbeats 8000000 in
set_option maxRecDepth 100000 in
theorem bits_OnesCount.calls (a0 : Int) (r : Int) (w : World) (h : bits_OnesCount.f a0 = some r) :
    Calls Tryz.prog 97 #[.int .u64 a0] w fun e w' => e = .returned (.int .i64 r) ∧ Drawn0 w w' := by
  have H : ((bits_OnesCount64.f a0).bind fun t129 => (some t129)) = some r := h
  clear h
  replace H := Option.bind_eq_some_iff.mp H
  obtain ⟨t129, A20, H⟩ := H
  replace H : (some t129) = some r := H
  have A2 := Aside0.mk A20
  clear A20
  obtain rfl := Option.some.inj H
  go_enter Tryz.func97, Tryz.ntmps97
  go_wp2_with (first | ((with_reducible refine gate_callee (f := 111) rfl ?_); refine goesL_ (some 7) rfl rfl Tryz.func111 (by kernel_rfl) rfl #[.int .u64 a0] rfl (by (try simp only [List.map_toArray, List.map_cons, List.map_nil]); first | done | rfl | (simp only [List.length_drop, List.length_take]; rfl)) ?_; (with_reducible refine (bits_OnesCount64.calls a0 t129 _ A2.out).mono ?_); rintro e w' ⟨rfl, ⟨nd, rfl⟩⟩; refine ⟨_, rfl, ?_⟩))
  go_ret
  exact ⟨by first | rfl | (simp; done) | (simp [*]; done), by repeat (first | exact Drawn0.refl _ | apply Drawn0.step)⟩
end
-- YtknanbnjbilciaaGreatDoorP19
section
attribute [local go_sem] max2_int min2_int max_two min_two max_three min_three max_four min_four
set_option linter.unusedVariables false
set_option linter.unusedSimpArgs false

/-! ### conv_out: function 67 -/
attribute [local go_sem] run_index_arr
def conv_outb (a0 t : Int) : Option Int := (bits_OnesCount.f (Go.bits .and .u64 a0 t)).bind fun n => some (Go.bits .and .i64 n 1 % 256)
def conv_out.f (a0 : Int) : Option (Int × Int × Int × Int) := (conv_outb a0 79).bind fun r1 => (conv_outb a0 87).bind fun r2 => (conv_outb a0 109).bind fun r3 => (conv_outb a0 121).bind fun r4 => some (r1, r2, r3, r4)
theorem conv_outb_inv {a0 t r : Int} (h : conv_outb a0 t = some r) : ∃ n, bits_OnesCount.f (Go.bits .and .u64 a0 t) = some n ∧ r = Go.bits .and .i64 n 1 % 256 := by
  obtain ⟨n, h1, h2⟩ := Option.bind_eq_some_iff.mp h
  exact ⟨n, h1, (Option.some.inj h2).symm⟩
theorem conv_out_inv {a0 r1 r2 r3 r4 : Int} (h : conv_out.f a0 = some (r1, r2, r3, r4)) : ∃ n1 n2 n3 n4, bits_OnesCount.f (Go.bits .and .u64 a0 79) = some n1 ∧ Go.bits .and .i64 n1 1 % 256 = r1 ∧
    bits_OnesCount.f (Go.bits .and .u64 a0 87) = some n2 ∧ Go.bits .and .i64 n2 1 % 256 = r2 ∧ bits_OnesCount.f (Go.bits .and .u64 a0 109) = some n3 ∧ Go.bits .and .i64 n3 1 % 256 = r3 ∧
    bits_OnesCount.f (Go.bits .and .u64 a0 121) = some n4 ∧ Go.bits .and .i64 n4 1 % 256 = r4 := by
  unfold conv_out.f at h
  obtain ⟨q1, h1, h⟩ := Option.bind_eq_some_iff.mp h
  obtain ⟨q2, h2, h⟩ := Option.bind_eq_some_iff.mp h
  obtain ⟨q3, h3, h⟩ := Option.bind_eq_some_iff.mp h
  obtain ⟨q4, h4, h⟩ := Option.bind_eq_some_iff.mp h
  simp only [Option.some.injEq, Prod.mk.injEq] at h
  obtain ⟨rfl, rfl, rfl, rfl⟩ := h
  obtain ⟨n1, b1, x1⟩ := conv_outb_inv h1
  obtain ⟨n2, b2, x2⟩ := conv_outb_inv h2
  obtain ⟨n3, b3, x3⟩ := conv_outb_inv h3
  obtain ⟨n4, b4, x4⟩ := conv_outb_inv h4
  exact ⟨n1, n2, n3, n4, b1, x1.symm, b2, x2.symm, b3, x3.symm, b4, x4.symm⟩
/-- The box's cells behind q rounds. -/
def conv_outc (r1 r2 r3 r4 : Int) : Nat → Array Value
  | 0 => #[.int .u8 0, .int .u8 0, .int .u8 0, .int .u8 0]
  | 1 => #[.int .u8 r1, .int .u8 0, .int .u8 0, .int .u8 0]
  | 2 => #[.int .u8 r1, .int .u8 r2, .int .u8 0, .int .u8 0]
  | 3 => #[.int .u8 r1, .int .u8 r2, .int .u8 r3, .int .u8 0]
  | _ => #[.int .u8 r1, .int .u8 r2, .int .u8 r3, .int .u8 r4]
set_option maxRecDepth 100000 in
set_option maxHeartbeats 4000000 in
theorem conv_out.calls (a0 : Int) (r1 : Int) (r2 : Int) (r3 : Int) (r4 : Int) (w : World) (h : conv_out.f a0 = some (r1, r2, r3, r4)) (hT_ : TP w := by first | assumption | exact TP_of (by assumption : TP _) (by repeat (first | (with_reducible first | apply below_alloc | apply pw_below_drewN | apply below_drew1 | refine below_set ?_ (Aside0.out (by assumption))) | exact Aside0.out (by assumption) | exact Below.refl _ _))) :
    Calls Tryz.prog 67 #[.int .u64 a0] w fun e w' => e = .returned (.agg #[.int .u8 r1, .int .u8 r2, .int .u8 r3, .int .u8 r4]) ∧ Below w.heap.size w w' := by
  obtain ⟨n1, n2, n3, n4, b1, x1, b2, x2, b3, x3, b4, x4⟩ := conv_out_inv h
  clear h
  replace b1 := Aside0.mk b1
  replace b2 := Aside0.mk b2
  replace b3 := Aside0.mk b3
  replace b4 := Aside0.mk b4
  go_enter Tryz.func67, Tryz.ntmps67
  have hc0 := hT_.c0
  have hc1 := hT_.c1
  have hc2 := hT_.c2
  have hc3 := hT_.c3
  have hlt := hT_.lt
  go_wp2
  clear hc0 hc1 hc2 hc3
  have hB0 : Below w.heap.size w ((w.alloc (.cells #[.int .u8 0, .int .u8 0, .int .u8 0, .int .u8 0] 130)).alloc (.cells #[.int .u8 0, .int .u8 0, .int .u8 0, .int .u8 0] 130)) := below_alloc (below_alloc (Below.refl _ _) _) _
  have k0 := Aside0.mk (blk_alloc (blk_new w (.cells #[.int .u8 0, .int .u8 0, .int .u8 0, .int .u8 0] 130)) (.cells #[.int .u8 0, .int .u8 0, .int .u8 0, .int .u8 0] 130))
  have k1 := blk_new (w.alloc (.cells #[.int .u8 0, .int .u8 0, .int .u8 0, .int .u8 0] 130)) (.cells #[.int .u8 0, .int .u8 0, .int .u8 0, .int .u8 0] 130)
  rw [World.size_alloc] at k1
  replace k1 := Aside0.mk k1
  replace hB0 := Aside0.mk hB0
  obtain ⟨g0, hg0⟩ : ∃ g0, g0 = w.heap.size := ⟨_, rfl⟩
  obtain ⟨g1, hg1⟩ : ∃ g1, g1 = w.heap.size + 1 := ⟨_, rfl⟩
  have hne : g0 ≠ g1 := by omega
  have l0 : w.heap.size ≤ g0 := by omega
  have l1 : w.heap.size ≤ g1 := by omega
  simp only [← hg1] at k1 ⊢
  rw [← hg0] at k0
  simp only [show Value.pointer (some { block := w.heap.size, off := 0 }) = Value.pointer (some { block := g0, off := 0 }) from by rw [hg0]]
  replace hg0 := Aside0.mk hg0
  replace hg1 := Aside0.mk hg1
  replace l0 := Aside0.mk l0
  replace l1 := Aside0.mk l1
  replace hne := Aside0.mk hne
  replace hlt := Aside0.mk hlt
  go_loopw [7] (fun v7 wr => ∃ q : Nat, q ≤ 4 ∧ v7 = .int .i64 (q : Int) ∧ Aside0 (wr.heap[g0]? = some (.cells #[.int .u8 0, .int .u8 0, .int .u8 0, .int .u8 0] 130 (0, 0))) ∧ Aside0 (wr.heap[g1]? = some (.cells (conv_outc r1 r2 r3 r4 q) 130 (0, 0))) ∧ Aside0 (Below w.heap.size w wr)) (fun v7 _ => 4 - (intOf v7).toNat)
  case atStart => exact ⟨0, by omega, rfl, k0, k1, hB0⟩
  case round =>
    clear k0 k1 hB0
    obtain ⟨q, hq, rfl, k0, k1, HB⟩ := hrel
    obtain rfl | rfl | rfl | rfl | rfl : q = 0 ∨ q = 1 ∨ q = 2 ∨ q = 3 ∨ q = 4 := by omega
    · have hz := (blk_cell k1.out 0).trans (show _ = some (Value.int .u8 0) from rfl)
      have hf := blk_frozen k1.out 0
      go_wp2_with ((with_reducible refine gate_callee (f := 97) rfl ?_); refine goesL_ (some 15) rfl rfl Tryz.func97 (by kernel_rfl) rfl #[.int .u64 (Go.bits .and .u64 a0 79)] rfl (by (try simp only [List.map_toArray, List.map_cons, List.map_nil]); first | done | rfl) ?_; (with_reducible refine (bits_OnesCount.calls (Go.bits .and .u64 a0 79) n1 _ b1.out).mono ?_); rintro e w' ⟨rfl, ⟨nd, rfl⟩⟩; refine ⟨_, rfl, ?_⟩)
      clear hz hf
      go_roundw
      case rel =>
        refine ⟨1, by omega, rfl, ⟨?_⟩, ⟨?_⟩, ⟨?_⟩⟩
        · exact blk_far k0.out hne.out _
        · exact blk_put (cs := conv_outc r1 r2 r3 r4 0) k1.out 0 _ rfl
        · exact below_set (pw_below_drewN HB.out _) l1.out
      case measure => simp [intOf]
    · have hz := (blk_cell k1.out 1).trans (show _ = some (Value.int .u8 0) from rfl)
      have hf := blk_frozen k1.out 1
      go_wp2_with ((with_reducible refine gate_callee (f := 97) rfl ?_); refine goesL_ (some 15) rfl rfl Tryz.func97 (by kernel_rfl) rfl #[.int .u64 (Go.bits .and .u64 a0 87)] rfl (by (try simp only [List.map_toArray, List.map_cons, List.map_nil]); first | done | rfl) ?_; (with_reducible refine (bits_OnesCount.calls (Go.bits .and .u64 a0 87) n2 _ b2.out).mono ?_); rintro e w' ⟨rfl, ⟨nd, rfl⟩⟩; refine ⟨_, rfl, ?_⟩)
      clear hz hf
      go_roundw
      case rel =>
        refine ⟨2, by omega, rfl, ⟨?_⟩, ⟨?_⟩, ⟨?_⟩⟩
        · exact blk_far k0.out hne.out _
        · exact blk_put (cs := conv_outc r1 r2 r3 r4 1) k1.out 1 _ rfl
        · exact below_set (pw_below_drewN HB.out _) l1.out
      case measure => simp [intOf]
    · have hz := (blk_cell k1.out 2).trans (show _ = some (Value.int .u8 0) from rfl)
      have hf := blk_frozen k1.out 2
      go_wp2_with ((with_reducible refine gate_callee (f := 97) rfl ?_); refine goesL_ (some 15) rfl rfl Tryz.func97 (by kernel_rfl) rfl #[.int .u64 (Go.bits .and .u64 a0 109)] rfl (by (try simp only [List.map_toArray, List.map_cons, List.map_nil]); first | done | rfl) ?_; (with_reducible refine (bits_OnesCount.calls (Go.bits .and .u64 a0 109) n3 _ b3.out).mono ?_); rintro e w' ⟨rfl, ⟨nd, rfl⟩⟩; refine ⟨_, rfl, ?_⟩)
      clear hz hf
      go_roundw
      case rel =>
        refine ⟨3, by omega, rfl, ⟨?_⟩, ⟨?_⟩, ⟨?_⟩⟩
        · exact blk_far k0.out hne.out _
        · exact blk_put (cs := conv_outc r1 r2 r3 r4 2) k1.out 2 _ rfl
        · exact below_set (pw_below_drewN HB.out _) l1.out
      case measure => simp [intOf]
    · have hz := (blk_cell k1.out 3).trans (show _ = some (Value.int .u8 0) from rfl)
      have hf := blk_frozen k1.out 3
      go_wp2_with ((with_reducible refine gate_callee (f := 97) rfl ?_); refine goesL_ (some 15) rfl rfl Tryz.func97 (by kernel_rfl) rfl #[.int .u64 (Go.bits .and .u64 a0 121)] rfl (by (try simp only [List.map_toArray, List.map_cons, List.map_nil]); first | done | rfl) ?_; (with_reducible refine (bits_OnesCount.calls (Go.bits .and .u64 a0 121) n4 _ b4.out).mono ?_); rintro e w' ⟨rfl, ⟨nd, rfl⟩⟩; refine ⟨_, rfl, ?_⟩)
      clear hz hf
      go_roundw
      case rel =>
        refine ⟨4, by omega, rfl, ⟨?_⟩, ⟨?_⟩, ⟨?_⟩⟩
        · exact blk_far k0.out hne.out _
        · exact blk_put (cs := conv_outc r1 r2 r3 r4 3) k1.out 3 _ rfl
        · exact below_set (pw_below_drewN HB.out _) l1.out
      case measure => simp [intOf]
    · have hz0 := (blk_cell k1.out 0).trans (show _ = some (Value.int .u8 r1) from rfl)
      have hz1 := (blk_cell k1.out 1).trans (show _ = some (Value.int .u8 r2) from rfl)
      have hz2 := (blk_cell k1.out 2).trans (show _ = some (Value.int .u8 r3) from rfl)
      have hz3 := (blk_cell k1.out 3).trans (show _ = some (Value.int .u8 r4) from rfl)
      have y0 := (blk_cell k0.out 0).trans (show _ = some (Value.int .u8 0) from rfl)
      have y1 := (blk_cell k0.out 1).trans (show _ = some (Value.int .u8 0) from rfl)
      have y2 := (blk_cell k0.out 2).trans (show _ = some (Value.int .u8 0) from rfl)
      have y3 := (blk_cell k0.out 3).trans (show _ = some (Value.int .u8 0) from rfl)
      have f0 := blk_frozen k0.out 0
      have f1 := blk_frozen k0.out 1
      have f2 := blk_frozen k0.out 2
      have f3 := blk_frozen k0.out 3
      go_wp2
      have kk := blk_put (blk_put (blk_put (blk_put k0.out 0 (.int .u8 r1) (cs' := #[.int .u8 r1, .int .u8 0, .int .u8 0, .int .u8 0]) rfl) 1 (.int .u8 r2) (cs' := #[.int .u8 r1, .int .u8 r2, .int .u8 0, .int .u8 0]) rfl) 2 (.int .u8 r3) (cs' := #[.int .u8 r1, .int .u8 r2, .int .u8 r3, .int .u8 0]) rfl) 3 (.int .u8 r4) (cs' := #[.int .u8 r1, .int .u8 r2, .int .u8 r3, .int .u8 r4]) rfl
      refine bodyPost_ret (results_cell_row rfl _ _ g0 130 #[.int .u8 r1, .int .u8 r2, .int .u8 r3, .int .u8 r4] (0, 0) _ rfl kk Tryz.underlying130 rfl (by kernel_rfl)) rfl ?_
      exact ⟨rfl, below_set (below_set (below_set (below_set HB.out l0.out) l0.out) l0.out) l0.out⟩
end
-- YtknanbnjbilciaaGreatDoorP110
section
attribute [local go_sem] max2_int min2_int max_two min_two max_three min_three max_four min_four
set_option linter.unusedVariables false
set_option linter.unusedSimpArgs false

/-! ### conv_Out: function 95 -/
def conv_Out.f (a0 : Int) (a1 : Int) : Option (Int × Int × Int × Int × Int) := (conv_right.f a0 a1).bind fun t306 => (if t306 = true then ((conv_word.f a0 a1).bind fun t307 => ((conv_out.f t307).bind fun bt308 => (some (bt308.1, bt308.2.1, bt308.2.2.1, bt308.2.2.2, 0)))) else (some (0, 0, 0, 0, 1)))
set_option maxHeartbeats 8000000 in
set_option maxRecDepth 100000 in
theorem conv_Out.calls (a0 : Int) (a1 : Int) (r1 : Int) (r2 : Int) (r3 : Int) (r4 : Int) (r5 : Int) (w : World) (h : conv_Out.f a0 a1 = some (r1, r2, r3, r4, r5)) (hT_ : TP w := by first | assumption | exact TP_of (by assumption : TP _) (by repeat (first | (with_reducible first | apply below_alloc | apply pw_below_drewN | apply below_drew1 | refine below_set ?_ (Aside0.out (by assumption))) | exact Aside0.out (by assumption) | exact Below.refl _ _))) :
    Calls Tryz.prog 95 #[.int .i64 a0, .int .u8 a1] w fun e w' => e = .returned (.tuple #[.agg #[.int .u8 r1, .int .u8 r2, .int .u8 r3, .int .u8 r4], .int .i64 r5]) ∧ Below w.heap.size w w' := by
  have hu130 := Tryz.underlying130
  have HB := Aside0.mk (Below.refl w.heap.size w)
  have H : ((conv_right.f a0 a1).bind fun t306 => (if t306 = true then ((conv_word.f a0 a1).bind fun t307 => ((conv_out.f t307).bind fun bt308 => (some (bt308.1, bt308.2.1, bt308.2.2.1, bt308.2.2.2, 0)))) else (some (0, 0, 0, 0, 1)))) = some (r1, r2, r3, r4, r5) := h
  clear h
  replace H := Option.bind_eq_some_iff.mp H
  obtain ⟨t306, A30, H⟩ := H
  replace H : (if t306 = true then ((conv_word.f a0 a1).bind fun t307 => ((conv_out.f t307).bind fun bt308 => (some (bt308.1, bt308.2.1, bt308.2.2.1, bt308.2.2.2, 0)))) else (some (0, 0, 0, 0, 1))) = some (r1, r2, r3, r4, r5) := H
  have A3 := Aside0.mk A30
  clear A30
  by_cases c4 : t306 = true
  · subst c4
    have H1 : ((conv_word.f a0 a1).bind fun t307 => ((conv_out.f t307).bind fun bt308 => (some (bt308.1, bt308.2.1, bt308.2.2.1, bt308.2.2.2, 0)))) = some (r1, r2, r3, r4, r5) := by rw [if_pos rfl] at H; exact H
    clear H
    have H := H1
    clear H1
    replace H := Option.bind_eq_some_iff.mp H
    obtain ⟨t307, A50, H⟩ := H
    replace H : ((conv_out.f t307).bind fun bt308 => (some (bt308.1, bt308.2.1, bt308.2.2.1, bt308.2.2.2, 0))) = some (r1, r2, r3, r4, r5) := H
    have A5 := Aside0.mk A50
    clear A50
    replace H := Option.bind_eq_some_iff.mp H
    obtain ⟨⟨t308, t309, t310, t311⟩, A60, H⟩ := H
    replace H : (some (t308, t309, t310, t311, 0)) = some (r1, r2, r3, r4, r5) := H
    have A6 := Aside0.mk A60
    clear A60
    simp only [Option.some.injEq, Prod.mk.injEq] at H
    obtain ⟨rfl, rfl, rfl, rfl, rfl⟩ := H
    go_enter Tryz.func95, Tryz.ntmps95
    go_wp2_with (first | ((with_reducible refine gate_dst (N := 4) rfl ?_); refine box_event ?hg (N := 4) ?hd (cs := #[.int .u8 0, .int .u8 0, .int .u8 0, .int .u8 0]) (t := 130) ?hr ?_; (case hd => rfl); (case hg => rfl); (case hr => first | (go_simp; done) | (go_simp; rfl)); intro gb305 hg w7 hbox hb; have n0_ := Aside0.mk (below_step (by repeat (first | (with_reducible first | exact HB.out | apply below_alloc | apply pw_below_drewN | apply below_drew1) | exact HB.out)) hb); have n1_ := Aside0.mk (hbox); have n2_ := Aside0.mk ((by rw [hg]; exact (below_size (by repeat (first | (with_reducible first | exact HB.out | apply below_alloc | apply pw_below_drewN | apply below_drew1) | exact HB.out))) : w.heap.size ≤ gb305)); have n3_ := Aside0.mk ((by rw [hg]; exact (below_size (by repeat (first | (with_reducible first | exact HB.out | apply below_alloc | apply pw_below_drewN | apply below_drew1) | exact HB.out))) : w.heap.size ≤ gb305)); clear HB; have HB := n0_; have BK305 := n1_; have GW305 := n2_; have GE305 := n3_; clear n0_ n1_ n2_ n3_; clear hb hbox hg) | ((with_reducible refine gate_callee (f := 96) rfl ?_); refine goesL_ (some 8) rfl rfl Tryz.func96 (by kernel_rfl) rfl #[.int .i64 a0, .int .u8 a1] rfl (by (try simp only [List.map_toArray, List.map_cons, List.map_nil]); first | done | rfl | (simp only [List.length_drop, List.length_take]; rfl)) ?_; (with_reducible refine (conv_right.calls a0 a1 true _ A3.out).mono ?_); rintro e w' ⟨rfl, ⟨nd, rfl⟩⟩; refine ⟨_, rfl, ?_⟩; (try (rw [drewN_self w7]; generalize hq_ : World.drewN w7 _ = w7; have n0_ : Aside0 (w7.heap[gb305]? = some (.cells #[.int .u8 0, .int .u8 0, .int .u8 0, .int .u8 0] 130 (0, 0))) := ⟨by rw [← hq_]; exact (by (with_reducible repeat (first | refine blk_drewN ?_ _ | refine blk_drew ?_ | refine blk_alloc ?_ _)); exact BK305.out)⟩; have n1_ : Aside0 (Below w.heap.size w w7) := ⟨by rw [← hq_]; exact (by repeat (first | (with_reducible first | exact HB.out | apply below_alloc | apply pw_below_drewN | apply below_drew1 | refine below_set ?_ GE305.out) | exact HB.out))⟩; clear BK305 HB hq_; have BK305 := n0_; have HB := n1_; clear n0_ n1_))) | ((with_reducible refine gate_callee (f := 66) rfl ?_); refine goesL_ (some 13) rfl rfl Tryz.func66 (by kernel_rfl) rfl #[.int .i64 a0, .int .u8 a1] rfl (by (try simp only [List.map_toArray, List.map_cons, List.map_nil]); first | done | rfl | (simp only [List.length_drop, List.length_take]; rfl)) ?_; (with_reducible refine (conv_word.calls a0 a1 t307 _ A5.out).mono ?_); rintro e w' ⟨rfl, ⟨nd, rfl⟩⟩; refine ⟨_, rfl, ?_⟩; (try (rw [drewN_self w7]; generalize hq_ : World.drewN w7 _ = w7; have n0_ : Aside0 (w7.heap[gb305]? = some (.cells #[.int .u8 0, .int .u8 0, .int .u8 0, .int .u8 0] 130 (0, 0))) := ⟨by rw [← hq_]; exact (by (with_reducible repeat (first | refine blk_drewN ?_ _ | refine blk_drew ?_ | refine blk_alloc ?_ _)); exact BK305.out)⟩; have n1_ : Aside0 (Below w.heap.size w w7) := ⟨by rw [← hq_]; exact (by repeat (first | (with_reducible first | exact HB.out | apply below_alloc | apply pw_below_drewN | apply below_drew1 | refine below_set ?_ GE305.out) | exact HB.out))⟩; clear BK305 HB hq_; have BK305 := n0_; have HB := n1_; clear n0_ n1_))) | ((with_reducible refine gate_callee (f := 67) rfl ?_); refine goesL_ (some 14) rfl rfl Tryz.func67 (by kernel_rfl) rfl #[.int .u64 t307] rfl (by (try simp only [List.map_toArray, List.map_cons, List.map_nil]); first | done | rfl | (simp only [List.length_drop, List.length_take]; rfl)) ?_; (with_reducible refine (conv_out.calls t307 t308 t309 t310 t311 _ A6.out).mono ?_); rintro e w8 ⟨rfl, hb⟩; refine ⟨_, rfl, ?_⟩; have n0_ := Aside0.mk (blk_below (g := gb305) (o := .cells #[.int .u8 0, .int .u8 0, .int .u8 0, .int .u8 0] 130 (0, 0)) (by (with_reducible repeat (first | refine blk_drewN ?_ _ | refine blk_drew ?_ | refine blk_alloc ?_ _)); exact BK305.out) hb); have n1_ := Aside0.mk (below_step (by repeat (first | (with_reducible first | exact HB.out | apply below_alloc | apply pw_below_drewN | apply below_drew1 | refine below_set ?_ GE305.out) | exact HB.out)) hb); clear BK305; clear HB; have BK305 := n0_; have HB := n1_; clear n0_ n1_; (try clear hb); (try clear hb2); (try clear hk); (try clear hi); have hcz9_0 : w8.cell? ⟨gb305, 0, none⟩ = some (.int .u8 0) := (blk_cell BK305.out 0).trans rfl; have hcz9_1 : w8.cell? ⟨gb305, 1, none⟩ = some (.int .u8 0) := (blk_cell BK305.out 1).trans rfl; have hcz9_2 : w8.cell? ⟨gb305, 2, none⟩ = some (.int .u8 0) := (blk_cell BK305.out 2).trans rfl; have hcz9_3 : w8.cell? ⟨gb305, 3, none⟩ = some (.int .u8 0) := (blk_cell BK305.out 3).trans rfl; have hfz9_0 := blk_frozen BK305.out 0; have hfz9_1 := blk_frozen BK305.out 1; have hfz9_2 := blk_frozen BK305.out 2; have hfz9_3 := blk_frozen BK305.out 3))
    refine bodyPost_ret (results_ct rfl _ _ gb305 130 #[.int .u8 t308, .int .u8 t309, .int .u8 t310, .int .u8 t311] (0, 0) _ rfl (by (with_reducible repeat (first | refine blk_drewN ?_ _ | refine blk_drew ?_ | refine blk_alloc ?_ _)); refine blk_put (cs := #[.int .u8 t308, .int .u8 t309, .int .u8 t310, .int .u8 0]) ?_ 3 _ rfl; (with_reducible repeat (first | refine blk_drewN ?_ _ | refine blk_drew ?_ | refine blk_alloc ?_ _)); refine blk_put (cs := #[.int .u8 t308, .int .u8 t309, .int .u8 0, .int .u8 0]) ?_ 2 _ rfl; (with_reducible repeat (first | refine blk_drewN ?_ _ | refine blk_drew ?_ | refine blk_alloc ?_ _)); refine blk_put (cs := #[.int .u8 t308, .int .u8 0, .int .u8 0, .int .u8 0]) ?_ 1 _ rfl; (with_reducible repeat (first | refine blk_drewN ?_ _ | refine blk_drew ?_ | refine blk_alloc ?_ _)); refine blk_put (cs := #[.int .u8 0, .int .u8 0, .int .u8 0, .int .u8 0]) ?_ 0 _ rfl; (with_reducible repeat (first | refine blk_drewN ?_ _ | refine blk_drew ?_ | refine blk_alloc ?_ _)); exact BK305.out) Tryz.underlying130 rfl (by kernel_rfl)) rfl ?_
    exact ⟨by first | rfl | (simp [errW_none, errW_some] <;> rfl) | (simp [*, errW_none, errW_some] <;> rfl), by repeat (first | (with_reducible first | exact HB.out | apply below_alloc | apply pw_below_drewN | apply below_drew1 | refine below_set ?_ GE305.out) | exact HB.out)⟩
  · replace c4 := Bool.eq_false_iff.mpr c4
    subst c4
    have H1 : (some (0, 0, 0, 0, 1)) = some (r1, r2, r3, r4, r5) := by rw [if_neg (show ¬ (false = true) by decide)] at H; exact H
    clear H
    have H := H1
    clear H1
    simp only [Option.some.injEq, Prod.mk.injEq] at H
    obtain ⟨rfl, rfl, rfl, rfl, rfl⟩ := H
    go_enter Tryz.func95, Tryz.ntmps95
    go_wp2_with (first | ((with_reducible refine gate_dst (N := 4) rfl ?_); refine box_event ?hg (N := 4) ?hd (cs := #[.int .u8 0, .int .u8 0, .int .u8 0, .int .u8 0]) (t := 130) ?hr ?_; (case hd => rfl); (case hg => rfl); (case hr => first | (go_simp; done) | (go_simp; rfl)); intro gb305 hg w10 hbox hb; have n0_ := Aside0.mk (below_step (by repeat (first | (with_reducible first | exact HB.out | apply below_alloc | apply pw_below_drewN | apply below_drew1) | exact HB.out)) hb); have n1_ := Aside0.mk (hbox); have n2_ := Aside0.mk ((by rw [hg]; exact (below_size (by repeat (first | (with_reducible first | exact HB.out | apply below_alloc | apply pw_below_drewN | apply below_drew1) | exact HB.out))) : w.heap.size ≤ gb305)); have n3_ := Aside0.mk ((by rw [hg]; exact (below_size (by repeat (first | (with_reducible first | exact HB.out | apply below_alloc | apply pw_below_drewN | apply below_drew1) | exact HB.out))) : w.heap.size ≤ gb305)); clear HB; have HB := n0_; have BK305 := n1_; have GW305 := n2_; have GE305 := n3_; clear n0_ n1_ n2_ n3_; clear hb hbox hg) | ((with_reducible refine gate_callee (f := 96) rfl ?_); refine goesL_ (some 8) rfl rfl Tryz.func96 (by kernel_rfl) rfl #[.int .i64 a0, .int .u8 a1] rfl (by (try simp only [List.map_toArray, List.map_cons, List.map_nil]); first | done | rfl | (simp only [List.length_drop, List.length_take]; rfl)) ?_; (with_reducible refine (conv_right.calls a0 a1 false _ A3.out).mono ?_); rintro e w' ⟨rfl, ⟨nd, rfl⟩⟩; refine ⟨_, rfl, ?_⟩; (try (rw [drewN_self w10]; generalize hq_ : World.drewN w10 _ = w10; have n0_ : Aside0 (w10.heap[gb305]? = some (.cells #[.int .u8 0, .int .u8 0, .int .u8 0, .int .u8 0] 130 (0, 0))) := ⟨by rw [← hq_]; exact (by (with_reducible repeat (first | refine blk_drewN ?_ _ | refine blk_drew ?_ | refine blk_alloc ?_ _)); exact BK305.out)⟩; have n1_ : Aside0 (Below w.heap.size w w10) := ⟨by rw [← hq_]; exact (by repeat (first | (with_reducible first | exact HB.out | apply below_alloc | apply pw_below_drewN | apply below_drew1 | refine below_set ?_ GE305.out) | exact HB.out))⟩; clear BK305 HB hq_; have BK305 := n0_; have HB := n1_; clear n0_ n1_)); have hcz11_0 : w10.cell? ⟨gb305, 0, none⟩ = some (.int .u8 0) := (blk_cell BK305.out 0).trans rfl; have hcz11_1 : w10.cell? ⟨gb305, 1, none⟩ = some (.int .u8 0) := (blk_cell BK305.out 1).trans rfl; have hcz11_2 : w10.cell? ⟨gb305, 2, none⟩ = some (.int .u8 0) := (blk_cell BK305.out 2).trans rfl; have hcz11_3 : w10.cell? ⟨gb305, 3, none⟩ = some (.int .u8 0) := (blk_cell BK305.out 3).trans rfl; have hfz11_0 := blk_frozen BK305.out 0; have hfz11_1 := blk_frozen BK305.out 1; have hfz11_2 := blk_frozen BK305.out 2; have hfz11_3 := blk_frozen BK305.out 3))
    refine bodyPost_ret (results_ct rfl _ _ gb305 130 #[.int .u8 0, .int .u8 0, .int .u8 0, .int .u8 0] (0, 0) _ rfl (by (with_reducible repeat (first | refine blk_drewN ?_ _ | refine blk_drew ?_ | refine blk_alloc ?_ _)); refine blk_put (cs := #[.int .u8 0, .int .u8 0, .int .u8 0, .int .u8 0]) ?_ 3 _ rfl; (with_reducible repeat (first | refine blk_drewN ?_ _ | refine blk_drew ?_ | refine blk_alloc ?_ _)); refine blk_put (cs := #[.int .u8 0, .int .u8 0, .int .u8 0, .int .u8 0]) ?_ 2 _ rfl; (with_reducible repeat (first | refine blk_drewN ?_ _ | refine blk_drew ?_ | refine blk_alloc ?_ _)); refine blk_put (cs := #[.int .u8 0, .int .u8 0, .int .u8 0, .int .u8 0]) ?_ 1 _ rfl; (with_reducible repeat (first | refine blk_drewN ?_ _ | refine blk_drew ?_ | refine blk_alloc ?_ _)); refine blk_put (cs := #[.int .u8 0, .int .u8 0, .int .u8 0, .int .u8 0]) ?_ 0 _ rfl; (with_reducible repeat (first | refine blk_drewN ?_ _ | refine blk_drew ?_ | refine blk_alloc ?_ _)); exact BK305.out) Tryz.underlying130 rfl (by kernel_rfl)) rfl ?_
    exact ⟨by first | rfl | (simp [errW_none, errW_some] <;> rfl) | (simp [*, errW_none, errW_some] <;> rfl), by repeat (first | (with_reducible first | exact HB.out | apply below_alloc | apply pw_below_drewN | apply below_drew1 | refine below_set ?_ GE305.out) | exact HB.out)⟩
end
-- YtknanbnjbilciaaGreatDoorP111
section
attribute [local go_sem] max2_int min2_int max_two min_two max_three min_three max_four min_four
set_option linter.unusedVariables false
set_option linter.unusedSimpArgs false

/-! ### trellis_edge: function 127 -/
def trellis_edge.f (a0 : Int) (a1 : Int) : Option (Int × Int × Int × Int × Int × Int × Int × Int) := (conv_Out.f a0 a1).bind fun bt313 => (if bt313.2.2.2.2 = 0 then ((conv_Next.f a0 a1).bind fun bt319 => (some (a0, bt319.1, a1, bt313.1, bt313.2.1, bt313.2.2.1, bt313.2.2.2.1, bt319.2))) else (some (0, 0, 0, 0, 0, 0, 0, bt313.2.2.2.2)))
set_option maxHeartbeats 8000000 in
set_option maxRecDepth 100000 in
theorem trellis_edge.calls (a0 : Int) (a1 : Int) (r1 : Int) (r2 : Int) (r3 : Int) (r4 : Int) (r5 : Int) (r6 : Int) (r7 : Int) (r8 : Int) (w : World) (h : trellis_edge.f a0 a1 = some (r1, r2, r3, r4, r5, r6, r7, r8)) (hT_ : TP w := by first | assumption | exact TP_of (by assumption : TP _) (by repeat (first | (with_reducible first | apply below_alloc | apply pw_below_drewN | apply below_drew1 | refine below_set ?_ (Aside0.out (by assumption))) | exact Aside0.out (by assumption) | exact Below.refl _ _))) :
    Calls Tryz.prog 127 #[.int .i64 a0, .int .u8 a1] w fun e w' => e = .returned (.tuple #[.agg #[.int .i64 r1, .int .i64 r2, .int .u8 r3, .int .u8 r4, .int .u8 r5, .int .u8 r6, .int .u8 r7], .int .i64 r8]) ∧ Below w.heap.size w w' := by
  have hu163 := Tryz.underlying163
  have hu130 := Tryz.underlying130
  have HB := Aside0.mk (Below.refl w.heap.size w)
  have H : ((conv_Out.f a0 a1).bind fun bt313 => (if bt313.2.2.2.2 = 0 then ((conv_Next.f a0 a1).bind fun bt319 => (some (a0, bt319.1, a1, bt313.1, bt313.2.1, bt313.2.2.1, bt313.2.2.2.1, bt319.2))) else (some (0, 0, 0, 0, 0, 0, 0, bt313.2.2.2.2)))) = some (r1, r2, r3, r4, r5, r6, r7, r8) := h
  clear h
  replace H := Option.bind_eq_some_iff.mp H
  obtain ⟨⟨t313, t314, t315, t316, t317⟩, A30, H⟩ := H
  replace H : (if t317 = 0 then ((conv_Next.f a0 a1).bind fun bt319 => (some (a0, bt319.1, a1, t313, t314, t315, t316, bt319.2))) else (some (0, 0, 0, 0, 0, 0, 0, t317))) = some (r1, r2, r3, r4, r5, r6, r7, r8) := H
  have A3 := Aside0.mk A30
  clear A30
  by_cases c4 : t317 = 0
  · rw [if_pos c4] at H
    have c4b0 : (t317 == 0) = true := beq_iff_eq.mpr c4
    have c4b1 : (t317 != 0) = false := bne_eq_false_iff_eq.mpr c4
    clear c4
    replace H := Option.bind_eq_some_iff.mp H
    obtain ⟨⟨t319, t320⟩, A50, H⟩ := H
    replace H : (some (a0, t319, a1, t313, t314, t315, t316, t320)) = some (r1, r2, r3, r4, r5, r6, r7, r8) := H
    have A5 := Aside0.mk A50
    clear A50
    simp only [Option.some.injEq, Prod.mk.injEq] at H
    obtain ⟨rfl, rfl, rfl, rfl, rfl, rfl, rfl, rfl⟩ := H
    go_enter Tryz.func127, Tryz.ntmps127
    go_wp2_with (first | ((with_reducible refine gate_dst (N := 4) rfl ?_); refine box_event ?hg (N := 4) ?hd (cs := #[.int .i64 0, .int .i64 0, .int .u8 0, .int .u8 0, .int .u8 0, .int .u8 0, .int .u8 0]) (t := 163) ?hr ?_; (case hd => rfl); (case hg => rfl); (case hr => first | (go_simp; done) | (go_simp; rfl)); intro gb312 hg w6 hbox hb; have n0_ := Aside0.mk (below_step (by repeat (first | (with_reducible first | exact HB.out | apply below_alloc | apply pw_below_drewN | apply below_drew1) | exact HB.out)) hb); have n1_ := Aside0.mk (hbox); have n2_ := Aside0.mk ((by rw [hg]; exact (below_size (by repeat (first | (with_reducible first | exact HB.out | apply below_alloc | apply pw_below_drewN | apply below_drew1) | exact HB.out))) : w.heap.size ≤ gb312)); have n3_ := Aside0.mk ((by rw [hg]; exact (below_size (by repeat (first | (with_reducible first | exact HB.out | apply below_alloc | apply pw_below_drewN | apply below_drew1) | exact HB.out))) : w.heap.size ≤ gb312)); clear HB; have HB := n0_; have BK312 := n1_; have GW312 := n2_; have GE312 := n3_; clear n0_ n1_ n2_ n3_; clear hb hbox hg) | ((with_reducible refine gate_callee (f := 95) rfl ?_); refine goesL_ (some 12) rfl rfl Tryz.func95 (by kernel_rfl) rfl #[.int .i64 a0, .int .u8 a1] rfl (by (try simp only [List.map_toArray, List.map_cons, List.map_nil]); first | done | rfl | (simp only [List.length_drop, List.length_take]; rfl)) ?_; (with_reducible refine (conv_Out.calls a0 a1 t313 t314 t315 t316 t317 _ A3.out).mono ?_); rintro e w7 ⟨rfl, hb⟩; refine ⟨_, rfl, ?_⟩; have n0_ := Aside0.mk (blk_below (g := gb312) (o := .cells #[.int .i64 0, .int .i64 0, .int .u8 0, .int .u8 0, .int .u8 0, .int .u8 0, .int .u8 0] 163 (0, 0)) (by (with_reducible repeat (first | refine blk_drewN ?_ _ | refine blk_drew ?_ | refine blk_alloc ?_ _)); exact BK312.out) hb); have n1_ := Aside0.mk (below_step (by repeat (first | (with_reducible first | exact HB.out | apply below_alloc | apply pw_below_drewN | apply below_drew1 | refine below_set ?_ GE312.out) | exact HB.out)) hb); clear BK312; clear HB; have BK312 := n0_; have HB := n1_; clear n0_ n1_; (try clear hb); (try clear hb2); (try clear hk); (try clear hi)) | ((with_reducible refine gate_dst (N := 6) rfl ?_); refine box_event ?hg (N := 6) ?hd (cs := #[.int .u8 0, .int .u8 0, .int .u8 0, .int .u8 0]) (t := 130) ?hr ?_; (case hd => rfl); (case hg => rfl); (case hr => first | (go_simp; done) | (go_simp; rfl)); intro gb318 hg w8 hbox hb; have n0_ := Aside0.mk (blk_below (g := gb312) (o := .cells #[.int .i64 0, .int .i64 0, .int .u8 0, .int .u8 0, .int .u8 0, .int .u8 0, .int .u8 0] 163 (0, 0)) (by (with_reducible repeat (first | refine blk_drewN ?_ _ | refine blk_drew ?_ | refine blk_alloc ?_ _)); exact BK312.out) hb); have n1_ := Aside0.mk (below_step (by repeat (first | (with_reducible first | exact HB.out | apply below_alloc | apply pw_below_drewN | apply below_drew1 | refine below_set ?_ GE312.out) | exact HB.out)) hb); have n2_ := Aside0.mk (hbox); have n3_ := Aside0.mk ((by rw [hg]; exact (below_size (by repeat (first | (with_reducible first | exact HB.out | apply below_alloc | apply pw_below_drewN | apply below_drew1 | refine below_set ?_ GE312.out) | exact HB.out))) : w.heap.size ≤ gb318)); have n4_ := Aside0.mk ((by rw [hg]; exact (below_size (by repeat (first | (with_reducible first | exact HB.out | apply below_alloc | apply pw_below_drewN | apply below_drew1 | refine below_set ?_ GE312.out) | exact HB.out))) : w.heap.size ≤ gb318)); have n5_ := Aside0.mk ((by rw [hg]; exact Nat.ne_of_lt (blk_lt (g := gb312) (o := .cells #[.int .i64 0, .int .i64 0, .int .u8 0, .int .u8 0, .int .u8 0, .int .u8 0, .int .u8 0] 163 (0, 0)) (by (with_reducible repeat (first | refine blk_drewN ?_ _ | refine blk_drew ?_ | refine blk_alloc ?_ _)); exact BK312.out)) : gb312 ≠ gb318)); have n6_ := Aside0.mk ((by rw [hg]; exact Nat.ne_of_gt (blk_lt (g := gb312) (o := .cells #[.int .i64 0, .int .i64 0, .int .u8 0, .int .u8 0, .int .u8 0, .int .u8 0, .int .u8 0] 163 (0, 0)) (by (with_reducible repeat (first | refine blk_drewN ?_ _ | refine blk_drew ?_ | refine blk_alloc ?_ _)); exact BK312.out)) : gb318 ≠ gb312)); clear BK312; clear HB; have BK312 := n0_; have HB := n1_; have BK318 := n2_; have GW318 := n3_; have GE318 := n4_; have NB312_318 := n5_; have NB318_312 := n6_; clear n0_ n1_ n2_ n3_ n4_ n5_ n6_; clear hb hbox hg; have hnb9 := NB318_312.out; have hnc9 := NB312_318.out; have hcz10_0 : w8.cell? ⟨gb318, 0, none⟩ = some (.int .u8 0) := (blk_cell BK318.out 0).trans rfl; have hcz10_1 : w8.cell? ⟨gb318, 1, none⟩ = some (.int .u8 0) := (blk_cell BK318.out 1).trans rfl; have hcz10_2 : w8.cell? ⟨gb318, 2, none⟩ = some (.int .u8 0) := (blk_cell BK318.out 2).trans rfl; have hcz10_3 : w8.cell? ⟨gb318, 3, none⟩ = some (.int .u8 0) := (blk_cell BK318.out 3).trans rfl; have hfz10_0 := blk_frozen BK318.out 0; have hfz10_1 := blk_frozen BK318.out 1; have hfz10_2 := blk_frozen BK318.out 2; have hfz10_3 := blk_frozen BK318.out 3) | ((with_reducible refine gate_callee (f := 63) rfl ?_); refine goesL_ (some 22) rfl rfl Tryz.func63 (by kernel_rfl) rfl #[.int .i64 a0, .int .u8 a1] rfl (by (try simp only [List.map_toArray, List.map_cons, List.map_nil]); first | done | rfl | (simp only [List.length_drop, List.length_take]; rfl)) ?_; (with_reducible refine (conv_Next.calls a0 a1 t319 t320 _ A5.out).mono ?_); rintro e w' ⟨rfl, ⟨nd, rfl⟩⟩; refine ⟨_, rfl, ?_⟩; have hcz11_0 : w8.cell? ⟨gb312, 0, none⟩ = some (.int .i64 0) := (blk_cell BK312.out 0).trans rfl; have hcz11_1 : w8.cell? ⟨gb312, 1, none⟩ = some (.int .i64 0) := (blk_cell BK312.out 1).trans rfl; have hcz11_2 : w8.cell? ⟨gb312, 2, none⟩ = some (.int .u8 0) := (blk_cell BK312.out 2).trans rfl; have hcz11_3 : w8.cell? ⟨gb312, 3, none⟩ = some (.int .u8 0) := (blk_cell BK312.out 3).trans rfl; have hcz11_4 : w8.cell? ⟨gb312, 4, none⟩ = some (.int .u8 0) := (blk_cell BK312.out 4).trans rfl; have hcz11_5 : w8.cell? ⟨gb312, 5, none⟩ = some (.int .u8 0) := (blk_cell BK312.out 5).trans rfl; have hcz11_6 : w8.cell? ⟨gb312, 6, none⟩ = some (.int .u8 0) := (blk_cell BK312.out 6).trans rfl; have hfz11_0 := blk_frozen BK312.out 0; have hfz11_1 := blk_frozen BK312.out 1; have hfz11_2 := blk_frozen BK312.out 2; have hfz11_3 := blk_frozen BK312.out 3; have hfz11_4 := blk_frozen BK312.out 4; have hfz11_5 := blk_frozen BK312.out 5; have hfz11_6 := blk_frozen BK312.out 6))
    refine bodyPost_ret (results_ct rfl _ _ gb312 163 #[.int .i64 a0, .int .i64 t319, .int .u8 a1, .int .u8 t313, .int .u8 t314, .int .u8 t315, .int .u8 t316] (0, 0) _ rfl (by (with_reducible repeat (first | refine blk_drewN ?_ _ | refine blk_drew ?_ | refine blk_alloc ?_ _)); refine blk_put (cs := #[.int .i64 a0, .int .i64 t319, .int .u8 a1, .int .u8 t313, .int .u8 t314, .int .u8 t315, .int .u8 0]) ?_ 6 _ rfl; (with_reducible repeat (first | refine blk_drewN ?_ _ | refine blk_drew ?_ | refine blk_alloc ?_ _)); refine blk_put (cs := #[.int .i64 a0, .int .i64 t319, .int .u8 a1, .int .u8 t313, .int .u8 t314, .int .u8 0, .int .u8 0]) ?_ 5 _ rfl; (with_reducible repeat (first | refine blk_drewN ?_ _ | refine blk_drew ?_ | refine blk_alloc ?_ _)); refine blk_put (cs := #[.int .i64 a0, .int .i64 t319, .int .u8 a1, .int .u8 t313, .int .u8 0, .int .u8 0, .int .u8 0]) ?_ 4 _ rfl; (with_reducible repeat (first | refine blk_drewN ?_ _ | refine blk_drew ?_ | refine blk_alloc ?_ _)); refine blk_put (cs := #[.int .i64 a0, .int .i64 t319, .int .u8 a1, .int .u8 0, .int .u8 0, .int .u8 0, .int .u8 0]) ?_ 3 _ rfl; (with_reducible repeat (first | refine blk_drewN ?_ _ | refine blk_drew ?_ | refine blk_alloc ?_ _)); refine blk_put (cs := #[.int .i64 a0, .int .i64 t319, .int .u8 0, .int .u8 0, .int .u8 0, .int .u8 0, .int .u8 0]) ?_ 2 _ rfl; (with_reducible repeat (first | refine blk_drewN ?_ _ | refine blk_drew ?_ | refine blk_alloc ?_ _)); refine blk_put (cs := #[.int .i64 a0, .int .i64 0, .int .u8 0, .int .u8 0, .int .u8 0, .int .u8 0, .int .u8 0]) ?_ 1 _ rfl; (with_reducible repeat (first | refine blk_drewN ?_ _ | refine blk_drew ?_ | refine blk_alloc ?_ _)); refine blk_put (cs := #[.int .i64 0, .int .i64 0, .int .u8 0, .int .u8 0, .int .u8 0, .int .u8 0, .int .u8 0]) ?_ 0 _ rfl; (with_reducible repeat (first | refine blk_drewN ?_ _ | refine blk_drew ?_ | refine blk_alloc ?_ _)); refine blk_far ?_ NB312_318.out _; (with_reducible repeat (first | refine blk_drewN ?_ _ | refine blk_drew ?_ | refine blk_alloc ?_ _)); refine blk_far ?_ NB312_318.out _; (with_reducible repeat (first | refine blk_drewN ?_ _ | refine blk_drew ?_ | refine blk_alloc ?_ _)); refine blk_far ?_ NB312_318.out _; (with_reducible repeat (first | refine blk_drewN ?_ _ | refine blk_drew ?_ | refine blk_alloc ?_ _)); refine blk_far ?_ NB312_318.out _; (with_reducible repeat (first | refine blk_drewN ?_ _ | refine blk_drew ?_ | refine blk_alloc ?_ _)); exact BK312.out) Tryz.underlying163 rfl (by kernel_rfl)) rfl ?_
    exact ⟨by first | rfl | (simp [errW_none, errW_some] <;> rfl) | (simp [*, errW_none, errW_some] <;> rfl), by repeat (first | (with_reducible first | exact HB.out | apply below_alloc | apply pw_below_drewN | apply below_drew1 | refine below_set ?_ GE312.out | refine below_set ?_ GE318.out) | exact HB.out)⟩
  · rw [if_neg c4] at H
    have c4b0 : (t317 == 0) = false := beq_eq_false_iff_ne.mpr c4
    have c4b1 : (t317 != 0) = true := bne_iff_ne.mpr c4
    simp only [Option.some.injEq, Prod.mk.injEq] at H
    obtain ⟨rfl, rfl, rfl, rfl, rfl, rfl, rfl, rfl⟩ := H
    go_enter Tryz.func127, Tryz.ntmps127
    go_wp2_with (first | ((with_reducible refine gate_dst (N := 4) rfl ?_); refine box_event ?hg (N := 4) ?hd (cs := #[.int .i64 0, .int .i64 0, .int .u8 0, .int .u8 0, .int .u8 0, .int .u8 0, .int .u8 0]) (t := 163) ?hr ?_; (case hd => rfl); (case hg => rfl); (case hr => first | (go_simp; done) | (go_simp; rfl)); intro gb312 hg w12 hbox hb; have n0_ := Aside0.mk (below_step (by repeat (first | (with_reducible first | exact HB.out | apply below_alloc | apply pw_below_drewN | apply below_drew1) | exact HB.out)) hb); have n1_ := Aside0.mk (hbox); have n2_ := Aside0.mk ((by rw [hg]; exact (below_size (by repeat (first | (with_reducible first | exact HB.out | apply below_alloc | apply pw_below_drewN | apply below_drew1) | exact HB.out))) : w.heap.size ≤ gb312)); have n3_ := Aside0.mk ((by rw [hg]; exact (below_size (by repeat (first | (with_reducible first | exact HB.out | apply below_alloc | apply pw_below_drewN | apply below_drew1) | exact HB.out))) : w.heap.size ≤ gb312)); clear HB; have HB := n0_; have BK312 := n1_; have GW312 := n2_; have GE312 := n3_; clear n0_ n1_ n2_ n3_; clear hb hbox hg) | ((with_reducible refine gate_callee (f := 95) rfl ?_); refine goesL_ (some 12) rfl rfl Tryz.func95 (by kernel_rfl) rfl #[.int .i64 a0, .int .u8 a1] rfl (by (try simp only [List.map_toArray, List.map_cons, List.map_nil]); first | done | rfl | (simp only [List.length_drop, List.length_take]; rfl)) ?_; (with_reducible refine (conv_Out.calls a0 a1 t313 t314 t315 t316 t317 _ A3.out).mono ?_); rintro e w13 ⟨rfl, hb⟩; refine ⟨_, rfl, ?_⟩; have n0_ := Aside0.mk (blk_below (g := gb312) (o := .cells #[.int .i64 0, .int .i64 0, .int .u8 0, .int .u8 0, .int .u8 0, .int .u8 0, .int .u8 0] 163 (0, 0)) (by (with_reducible repeat (first | refine blk_drewN ?_ _ | refine blk_drew ?_ | refine blk_alloc ?_ _)); exact BK312.out) hb); have n1_ := Aside0.mk (below_step (by repeat (first | (with_reducible first | exact HB.out | apply below_alloc | apply pw_below_drewN | apply below_drew1 | refine below_set ?_ GE312.out) | exact HB.out)) hb); clear BK312; clear HB; have BK312 := n0_; have HB := n1_; clear n0_ n1_; (try clear hb); (try clear hb2); (try clear hk); (try clear hi)) | ((with_reducible refine gate_dst (N := 6) rfl ?_); refine box_event ?hg (N := 6) ?hd (cs := #[.int .u8 0, .int .u8 0, .int .u8 0, .int .u8 0]) (t := 130) ?hr ?_; (case hd => rfl); (case hg => rfl); (case hr => first | (go_simp; done) | (go_simp; rfl)); intro gb318 hg w14 hbox hb; have n0_ := Aside0.mk (blk_below (g := gb312) (o := .cells #[.int .i64 0, .int .i64 0, .int .u8 0, .int .u8 0, .int .u8 0, .int .u8 0, .int .u8 0] 163 (0, 0)) (by (with_reducible repeat (first | refine blk_drewN ?_ _ | refine blk_drew ?_ | refine blk_alloc ?_ _)); exact BK312.out) hb); have n1_ := Aside0.mk (below_step (by repeat (first | (with_reducible first | exact HB.out | apply below_alloc | apply pw_below_drewN | apply below_drew1 | refine below_set ?_ GE312.out) | exact HB.out)) hb); have n2_ := Aside0.mk (hbox); have n3_ := Aside0.mk ((by rw [hg]; exact (below_size (by repeat (first | (with_reducible first | exact HB.out | apply below_alloc | apply pw_below_drewN | apply below_drew1 | refine below_set ?_ GE312.out) | exact HB.out))) : w.heap.size ≤ gb318)); have n4_ := Aside0.mk ((by rw [hg]; exact (below_size (by repeat (first | (with_reducible first | exact HB.out | apply below_alloc | apply pw_below_drewN | apply below_drew1 | refine below_set ?_ GE312.out) | exact HB.out))) : w.heap.size ≤ gb318)); have n5_ := Aside0.mk ((by rw [hg]; exact Nat.ne_of_lt (blk_lt (g := gb312) (o := .cells #[.int .i64 0, .int .i64 0, .int .u8 0, .int .u8 0, .int .u8 0, .int .u8 0, .int .u8 0] 163 (0, 0)) (by (with_reducible repeat (first | refine blk_drewN ?_ _ | refine blk_drew ?_ | refine blk_alloc ?_ _)); exact BK312.out)) : gb312 ≠ gb318)); have n6_ := Aside0.mk ((by rw [hg]; exact Nat.ne_of_gt (blk_lt (g := gb312) (o := .cells #[.int .i64 0, .int .i64 0, .int .u8 0, .int .u8 0, .int .u8 0, .int .u8 0, .int .u8 0] 163 (0, 0)) (by (with_reducible repeat (first | refine blk_drewN ?_ _ | refine blk_drew ?_ | refine blk_alloc ?_ _)); exact BK312.out)) : gb318 ≠ gb312)); clear BK312; clear HB; have BK312 := n0_; have HB := n1_; have BK318 := n2_; have GW318 := n3_; have GE318 := n4_; have NB312_318 := n5_; have NB318_312 := n6_; clear n0_ n1_ n2_ n3_ n4_ n5_ n6_; clear hb hbox hg; have hnb15 := NB318_312.out; have hnc15 := NB312_318.out; have hcz16_0 : w14.cell? ⟨gb318, 0, none⟩ = some (.int .u8 0) := (blk_cell BK318.out 0).trans rfl; have hcz16_1 : w14.cell? ⟨gb318, 1, none⟩ = some (.int .u8 0) := (blk_cell BK318.out 1).trans rfl; have hcz16_2 : w14.cell? ⟨gb318, 2, none⟩ = some (.int .u8 0) := (blk_cell BK318.out 2).trans rfl; have hcz16_3 : w14.cell? ⟨gb318, 3, none⟩ = some (.int .u8 0) := (blk_cell BK318.out 3).trans rfl; have hfz16_0 := blk_frozen BK318.out 0; have hfz16_1 := blk_frozen BK318.out 1; have hfz16_2 := blk_frozen BK318.out 2; have hfz16_3 := blk_frozen BK318.out 3; have hcz17_0 : w14.cell? ⟨gb312, 0, none⟩ = some (.int .i64 0) := (blk_cell BK312.out 0).trans rfl; have hcz17_1 : w14.cell? ⟨gb312, 1, none⟩ = some (.int .i64 0) := (blk_cell BK312.out 1).trans rfl; have hcz17_2 : w14.cell? ⟨gb312, 2, none⟩ = some (.int .u8 0) := (blk_cell BK312.out 2).trans rfl; have hcz17_3 : w14.cell? ⟨gb312, 3, none⟩ = some (.int .u8 0) := (blk_cell BK312.out 3).trans rfl; have hcz17_4 : w14.cell? ⟨gb312, 4, none⟩ = some (.int .u8 0) := (blk_cell BK312.out 4).trans rfl; have hcz17_5 : w14.cell? ⟨gb312, 5, none⟩ = some (.int .u8 0) := (blk_cell BK312.out 5).trans rfl; have hcz17_6 : w14.cell? ⟨gb312, 6, none⟩ = some (.int .u8 0) := (blk_cell BK312.out 6).trans rfl; have hfz17_0 := blk_frozen BK312.out 0; have hfz17_1 := blk_frozen BK312.out 1; have hfz17_2 := blk_frozen BK312.out 2; have hfz17_3 := blk_frozen BK312.out 3; have hfz17_4 := blk_frozen BK312.out 4; have hfz17_5 := blk_frozen BK312.out 5; have hfz17_6 := blk_frozen BK312.out 6))
    refine bodyPost_ret (results_ct rfl _ _ gb312 163 #[.int .i64 0, .int .i64 0, .int .u8 0, .int .u8 0, .int .u8 0, .int .u8 0, .int .u8 0] (0, 0) _ rfl (by (with_reducible repeat (first | refine blk_drewN ?_ _ | refine blk_drew ?_ | refine blk_alloc ?_ _)); refine blk_put (cs := #[.int .i64 0, .int .i64 0, .int .u8 0, .int .u8 0, .int .u8 0, .int .u8 0, .int .u8 0]) ?_ 6 _ rfl; (with_reducible repeat (first | refine blk_drewN ?_ _ | refine blk_drew ?_ | refine blk_alloc ?_ _)); refine blk_put (cs := #[.int .i64 0, .int .i64 0, .int .u8 0, .int .u8 0, .int .u8 0, .int .u8 0, .int .u8 0]) ?_ 5 _ rfl; (with_reducible repeat (first | refine blk_drewN ?_ _ | refine blk_drew ?_ | refine blk_alloc ?_ _)); refine blk_put (cs := #[.int .i64 0, .int .i64 0, .int .u8 0, .int .u8 0, .int .u8 0, .int .u8 0, .int .u8 0]) ?_ 4 _ rfl; (with_reducible repeat (first | refine blk_drewN ?_ _ | refine blk_drew ?_ | refine blk_alloc ?_ _)); refine blk_put (cs := #[.int .i64 0, .int .i64 0, .int .u8 0, .int .u8 0, .int .u8 0, .int .u8 0, .int .u8 0]) ?_ 3 _ rfl; (with_reducible repeat (first | refine blk_drewN ?_ _ | refine blk_drew ?_ | refine blk_alloc ?_ _)); refine blk_put (cs := #[.int .i64 0, .int .i64 0, .int .u8 0, .int .u8 0, .int .u8 0, .int .u8 0, .int .u8 0]) ?_ 2 _ rfl; (with_reducible repeat (first | refine blk_drewN ?_ _ | refine blk_drew ?_ | refine blk_alloc ?_ _)); refine blk_put (cs := #[.int .i64 0, .int .i64 0, .int .u8 0, .int .u8 0, .int .u8 0, .int .u8 0, .int .u8 0]) ?_ 1 _ rfl; (with_reducible repeat (first | refine blk_drewN ?_ _ | refine blk_drew ?_ | refine blk_alloc ?_ _)); refine blk_put (cs := #[.int .i64 0, .int .i64 0, .int .u8 0, .int .u8 0, .int .u8 0, .int .u8 0, .int .u8 0]) ?_ 0 _ rfl; (with_reducible repeat (first | refine blk_drewN ?_ _ | refine blk_drew ?_ | refine blk_alloc ?_ _)); refine blk_far ?_ NB312_318.out _; (with_reducible repeat (first | refine blk_drewN ?_ _ | refine blk_drew ?_ | refine blk_alloc ?_ _)); refine blk_far ?_ NB312_318.out _; (with_reducible repeat (first | refine blk_drewN ?_ _ | refine blk_drew ?_ | refine blk_alloc ?_ _)); refine blk_far ?_ NB312_318.out _; (with_reducible repeat (first | refine blk_drewN ?_ _ | refine blk_drew ?_ | refine blk_alloc ?_ _)); refine blk_far ?_ NB312_318.out _; (with_reducible repeat (first | refine blk_drewN ?_ _ | refine blk_drew ?_ | refine blk_alloc ?_ _)); exact BK312.out) Tryz.underlying163 rfl (by kernel_rfl)) rfl ?_
    exact ⟨by first | rfl | (simp [errW_none, errW_some] <;> rfl) | (simp [*, errW_none, errW_some] <;> rfl), by repeat (first | (with_reducible first | exact HB.out | apply below_alloc | apply pw_below_drewN | apply below_drew1 | refine below_set ?_ GE312.out | refine below_set ?_ GE318.out) | exact HB.out)⟩
end
-- YtknanbnjbilciaaGreatDoorP112
section
attribute [local go_sem] max2_int min2_int max_two min_two max_three min_three max_four min_four
set_option linter.unusedVariables false
set_option linter.unusedSimpArgs false

/-! ### trellis_two: function 115 -/
def trellis_two.f (a0 : Int) (a1 : Int) (a2 : Int) (a3 : Int) : Option (Int × Int × Int × Int × Int × Int × Int × Int × Int × Int × Int × Int × Int × Int × Int) := (trellis_edge.f a0 a2).bind fun bt322 => (if bt322.2.2.2.2.2.2.2 = 0 then ((trellis_edge.f a1 a3).bind fun bt331 => (if bt331.2.2.2.2.2.2.2 = 0 then (some (bt322.1, bt322.2.1, bt322.2.2.1, bt322.2.2.2.1, bt322.2.2.2.2.1, bt322.2.2.2.2.2.1, bt322.2.2.2.2.2.2.1, bt331.1, bt331.2.1, bt331.2.2.1, bt331.2.2.2.1, bt331.2.2.2.2.1, bt331.2.2.2.2.2.1, bt331.2.2.2.2.2.2.1, 0)) else (some (0, 0, 0, 0, 0, 0, 0, 0, 0, 0, 0, 0, 0, 0, bt331.2.2.2.2.2.2.2)))) else (some (0, 0, 0, 0, 0, 0, 0, 0, 0, 0, 0, 0, 0, 0, bt322.2.2.2.2.2.2.2)))
set_option maxHeartbeats 8000000 in
set_option maxRecDepth 100000 in
theorem trellis_two.calls (a0 : Int) (a1 : Int) (a2 : Int) (a3 : Int) (r1 : Int) (r2 : Int) (r3 : Int) (r4 : Int) (r5 : Int) (r6 : Int) (r7 : Int) (r8 : Int) (r9 : Int) (r10 : Int) (r11 : Int) (r12 : Int) (r13 : Int) (r14 : Int) (r15 : Int) (w : World) (h : trellis_two.f a0 a1 a2 a3 = some (r1, r2, r3, r4, r5, r6, r7, r8, r9, r10, r11, r12, r13, r14, r15)) (hT_ : TP w := by first | assumption | exact TP_of (by assumption : TP _) (by repeat (first | (with_reducible first | apply below_alloc | apply pw_below_drewN | apply below_drew1 | refine below_set ?_ (Aside0.out (by assumption))) | exact Aside0.out (by assumption) | exact Below.refl _ _))) :
    Calls Tryz.prog 115 #[.int .i64 a0, .int .i64 a1, .int .u8 a2, .int .u8 a3] w fun e w' => e = .returned (.tuple #[.agg #[.int .i64 r1, .int .i64 r2, .int .u8 r3, .int .u8 r4, .int .u8 r5, .int .u8 r6, .int .u8 r7, .int .i64 r8, .int .i64 r9, .int .u8 r10, .int .u8 r11, .int .u8 r12, .int .u8 r13, .int .u8 r14], .int .i64 r15]) ∧ Below w.heap.size w w' := by
  have hu164 := Tryz.underlying164
  have hu163 := Tryz.underlying163
  have HB := Aside0.mk (Below.refl w.heap.size w)
  have H : ((trellis_edge.f a0 a2).bind fun bt322 => (if bt322.2.2.2.2.2.2.2 = 0 then ((trellis_edge.f a1 a3).bind fun bt331 => (if bt331.2.2.2.2.2.2.2 = 0 then (some (bt322.1, bt322.2.1, bt322.2.2.1, bt322.2.2.2.1, bt322.2.2.2.2.1, bt322.2.2.2.2.2.1, bt322.2.2.2.2.2.2.1, bt331.1, bt331.2.1, bt331.2.2.1, bt331.2.2.2.1, bt331.2.2.2.2.1, bt331.2.2.2.2.2.1, bt331.2.2.2.2.2.2.1, 0)) else (some (0, 0, 0, 0, 0, 0, 0, 0, 0, 0, 0, 0, 0, 0, bt331.2.2.2.2.2.2.2)))) else (some (0, 0, 0, 0, 0, 0, 0, 0, 0, 0, 0, 0, 0, 0, bt322.2.2.2.2.2.2.2)))) = some (r1, r2, r3, r4, r5, r6, r7, r8, r9, r10, r11, r12, r13, r14, r15) := h
  clear h
  replace H := Option.bind_eq_some_iff.mp H
  obtain ⟨⟨t322, t323, t324, t325, t326, t327, t328, t329⟩, A50, H⟩ := H
  replace H : (if t329 = 0 then ((trellis_edge.f a1 a3).bind fun bt331 => (if bt331.2.2.2.2.2.2.2 = 0 then (some (t322, t323, t324, t325, t326, t327, t328, bt331.1, bt331.2.1, bt331.2.2.1, bt331.2.2.2.1, bt331.2.2.2.2.1, bt331.2.2.2.2.2.1, bt331.2.2.2.2.2.2.1, 0)) else (some (0, 0, 0, 0, 0, 0, 0, 0, 0, 0, 0, 0, 0, 0, bt331.2.2.2.2.2.2.2)))) else (some (0, 0, 0, 0, 0, 0, 0, 0, 0, 0, 0, 0, 0, 0, t329))) = some (r1, r2, r3, r4, r5, r6, r7, r8, r9, r10, r11, r12, r13, r14, r15) := H
  have A5 := Aside0.mk A50
  clear A50
  by_cases c6 : t329 = 0
  · rw [if_pos c6] at H
    have c6b0 : (t329 == 0) = true := beq_iff_eq.mpr c6
    have c6b1 : (t329 != 0) = false := bne_eq_false_iff_eq.mpr c6
    clear c6
    replace H := Option.bind_eq_some_iff.mp H
    obtain ⟨⟨t331, t332, t333, t334, t335, t336, t337, t338⟩, A70, H⟩ := H
    replace H : (if t338 = 0 then (some (t322, t323, t324, t325, t326, t327, t328, t331, t332, t333, t334, t335, t336, t337, 0)) else (some (0, 0, 0, 0, 0, 0, 0, 0, 0, 0, 0, 0, 0, 0, t338))) = some (r1, r2, r3, r4, r5, r6, r7, r8, r9, r10, r11, r12, r13, r14, r15) := H
    have A7 := Aside0.mk A70
    clear A70
    by_cases c8 : t338 = 0
    · rw [if_pos c8] at H
      have c8b0 : (t338 == 0) = true := beq_iff_eq.mpr c8
      have c8b1 : (t338 != 0) = false := bne_eq_false_iff_eq.mpr c8
      clear c8
      simp only [Option.some.injEq, Prod.mk.injEq] at H
      obtain ⟨rfl, rfl, rfl, rfl, rfl, rfl, rfl, rfl, rfl, rfl, rfl, rfl, rfl, rfl, rfl⟩ := H
      go_enter Tryz.func115, Tryz.ntmps115
      go_wp2_with (first | ((with_reducible refine gate_dst (N := 8) rfl ?_); refine box_event ?hg (N := 8) ?hd (cs := #[.int .i64 0, .int .i64 0, .int .u8 0, .int .u8 0, .int .u8 0, .int .u8 0, .int .u8 0, .int .i64 0, .int .i64 0, .int .u8 0, .int .u8 0, .int .u8 0, .int .u8 0, .int .u8 0]) (t := 164) ?hr ?_; (case hd => rfl); (case hg => rfl); (case hr => first | (go_simp; done) | (go_simp; rfl)); intro gb321 hg w9 hbox hb; have n0_ := Aside0.mk (below_step (by repeat (first | (with_reducible first | exact HB.out | apply below_alloc | apply pw_below_drewN | apply below_drew1) | exact HB.out)) hb); have n1_ := Aside0.mk (hbox); have n2_ := Aside0.mk ((by rw [hg]; exact (below_size (by repeat (first | (with_reducible first | exact HB.out | apply below_alloc | apply pw_below_drewN | apply below_drew1) | exact HB.out))) : w.heap.size ≤ gb321)); have n3_ := Aside0.mk ((by rw [hg]; exact (below_size (by repeat (first | (with_reducible first | exact HB.out | apply below_alloc | apply pw_below_drewN | apply below_drew1) | exact HB.out))) : w.heap.size ≤ gb321)); clear HB; have HB := n0_; have BK321 := n1_; have GW321 := n2_; have GE321 := n3_; clear n0_ n1_ n2_ n3_; clear hb hbox hg) | ((with_reducible refine gate_callee (f := 127) rfl ?_); refine goesL_ (some 16) rfl rfl Tryz.func127 (by kernel_rfl) rfl #[.int .i64 a0, .int .u8 a2] rfl (by (try simp only [List.map_toArray, List.map_cons, List.map_nil]); first | done | rfl | (simp only [List.length_drop, List.length_take]; rfl)) ?_; (with_reducible refine (trellis_edge.calls a0 a2 t322 t323 t324 t325 t326 t327 t328 t329 _ A5.out).mono ?_); rintro e w10 ⟨rfl, hb⟩; refine ⟨_, rfl, ?_⟩; have n0_ := Aside0.mk (blk_below (g := gb321) (o := .cells #[.int .i64 0, .int .i64 0, .int .u8 0, .int .u8 0, .int .u8 0, .int .u8 0, .int .u8 0, .int .i64 0, .int .i64 0, .int .u8 0, .int .u8 0, .int .u8 0, .int .u8 0, .int .u8 0] 164 (0, 0)) (by (with_reducible repeat (first | refine blk_drewN ?_ _ | refine blk_drew ?_ | refine blk_alloc ?_ _)); exact BK321.out) hb); have n1_ := Aside0.mk (below_step (by repeat (first | (with_reducible first | exact HB.out | apply below_alloc | apply pw_below_drewN | apply below_drew1 | refine below_set ?_ GE321.out) | exact HB.out)) hb); clear BK321; clear HB; have BK321 := n0_; have HB := n1_; clear n0_ n1_; (try clear hb); (try clear hb2); (try clear hk); (try clear hi)) | ((with_reducible refine gate_dst (N := 10) rfl ?_); refine box_event ?hg (N := 10) ?hd (cs := #[.int .i64 0, .int .i64 0, .int .u8 0, .int .u8 0, .int .u8 0, .int .u8 0, .int .u8 0]) (t := 163) ?hr ?_; (case hd => rfl); (case hg => rfl); (case hr => first | (go_simp; done) | (go_simp; rfl)); intro gb330 hg w11 hbox hb; have n0_ := Aside0.mk (blk_below (g := gb321) (o := .cells #[.int .i64 0, .int .i64 0, .int .u8 0, .int .u8 0, .int .u8 0, .int .u8 0, .int .u8 0, .int .i64 0, .int .i64 0, .int .u8 0, .int .u8 0, .int .u8 0, .int .u8 0, .int .u8 0] 164 (0, 0)) (by (with_reducible repeat (first | refine blk_drewN ?_ _ | refine blk_drew ?_ | refine blk_alloc ?_ _)); exact BK321.out) hb); have n1_ := Aside0.mk (below_step (by repeat (first | (with_reducible first | exact HB.out | apply below_alloc | apply pw_below_drewN | apply below_drew1 | refine below_set ?_ GE321.out) | exact HB.out)) hb); have n2_ := Aside0.mk (hbox); have n3_ := Aside0.mk ((by rw [hg]; exact (below_size (by repeat (first | (with_reducible first | exact HB.out | apply below_alloc | apply pw_below_drewN | apply below_drew1 | refine below_set ?_ GE321.out) | exact HB.out))) : w.heap.size ≤ gb330)); have n4_ := Aside0.mk ((by rw [hg]; exact (below_size (by repeat (first | (with_reducible first | exact HB.out | apply below_alloc | apply pw_below_drewN | apply below_drew1 | refine below_set ?_ GE321.out) | exact HB.out))) : w.heap.size ≤ gb330)); have n5_ := Aside0.mk ((by rw [hg]; exact Nat.ne_of_lt (blk_lt (g := gb321) (o := .cells #[.int .i64 0, .int .i64 0, .int .u8 0, .int .u8 0, .int .u8 0, .int .u8 0, .int .u8 0, .int .i64 0, .int .i64 0, .int .u8 0, .int .u8 0, .int .u8 0, .int .u8 0, .int .u8 0] 164 (0, 0)) (by (with_reducible repeat (first | refine blk_drewN ?_ _ | refine blk_drew ?_ | refine blk_alloc ?_ _)); exact BK321.out)) : gb321 ≠ gb330)); have n6_ := Aside0.mk ((by rw [hg]; exact Nat.ne_of_gt (blk_lt (g := gb321) (o := .cells #[.int .i64 0, .int .i64 0, .int .u8 0, .int .u8 0, .int .u8 0, .int .u8 0, .int .u8 0, .int .i64 0, .int .i64 0, .int .u8 0, .int .u8 0, .int .u8 0, .int .u8 0, .int .u8 0] 164 (0, 0)) (by (with_reducible repeat (first | refine blk_drewN ?_ _ | refine blk_drew ?_ | refine blk_alloc ?_ _)); exact BK321.out)) : gb330 ≠ gb321)); clear BK321; clear HB; have BK321 := n0_; have HB := n1_; have BK330 := n2_; have GW330 := n3_; have GE330 := n4_; have NB321_330 := n5_; have NB330_321 := n6_; clear n0_ n1_ n2_ n3_ n4_ n5_ n6_; clear hb hbox hg; have hnb12 := NB330_321.out; have hnc12 := NB321_330.out; have hcz13_0 : w11.cell? ⟨gb330, 0, none⟩ = some (.int .i64 0) := (blk_cell BK330.out 0).trans rfl; have hcz13_1 : w11.cell? ⟨gb330, 1, none⟩ = some (.int .i64 0) := (blk_cell BK330.out 1).trans rfl; have hcz13_2 : w11.cell? ⟨gb330, 2, none⟩ = some (.int .u8 0) := (blk_cell BK330.out 2).trans rfl; have hcz13_3 : w11.cell? ⟨gb330, 3, none⟩ = some (.int .u8 0) := (blk_cell BK330.out 3).trans rfl; have hcz13_4 : w11.cell? ⟨gb330, 4, none⟩ = some (.int .u8 0) := (blk_cell BK330.out 4).trans rfl; have hcz13_5 : w11.cell? ⟨gb330, 5, none⟩ = some (.int .u8 0) := (blk_cell BK330.out 5).trans rfl; have hcz13_6 : w11.cell? ⟨gb330, 6, none⟩ = some (.int .u8 0) := (blk_cell BK330.out 6).trans rfl; have hfz13_0 := blk_frozen BK330.out 0; have hfz13_1 := blk_frozen BK330.out 1; have hfz13_2 := blk_frozen BK330.out 2; have hfz13_3 := blk_frozen BK330.out 3; have hfz13_4 := blk_frozen BK330.out 4; have hfz13_5 := blk_frozen BK330.out 5; have hfz13_6 := blk_frozen BK330.out 6) | ((with_reducible refine gate_callee (f := 127) rfl ?_); refine goesL_ (some 26) rfl rfl Tryz.func127 (by kernel_rfl) rfl #[.int .i64 a1, .int .u8 a3] rfl (by (try simp only [List.map_toArray, List.map_cons, List.map_nil]); first | done | rfl | (simp only [List.length_drop, List.length_take]; rfl)) ?_; (with_reducible refine (trellis_edge.calls a1 a3 t331 t332 t333 t334 t335 t336 t337 t338 _ A7.out).mono ?_); rintro e w14 ⟨rfl, hb⟩; refine ⟨_, rfl, ?_⟩; have n0_ := Aside0.mk (blk_below (g := gb321) (o := .cells #[.int .i64 0, .int .i64 0, .int .u8 0, .int .u8 0, .int .u8 0, .int .u8 0, .int .u8 0, .int .i64 0, .int .i64 0, .int .u8 0, .int .u8 0, .int .u8 0, .int .u8 0, .int .u8 0] 164 (0, 0)) (by (with_reducible repeat (first | refine blk_drewN ?_ _ | refine blk_drew ?_ | refine blk_alloc ?_ _)); refine blk_far ?_ NB321_330.out _; (with_reducible repeat (first | refine blk_drewN ?_ _ | refine blk_drew ?_ | refine blk_alloc ?_ _)); refine blk_far ?_ NB321_330.out _; (with_reducible repeat (first | refine blk_drewN ?_ _ | refine blk_drew ?_ | refine blk_alloc ?_ _)); refine blk_far ?_ NB321_330.out _; (with_reducible repeat (first | refine blk_drewN ?_ _ | refine blk_drew ?_ | refine blk_alloc ?_ _)); refine blk_far ?_ NB321_330.out _; (with_reducible repeat (first | refine blk_drewN ?_ _ | refine blk_drew ?_ | refine blk_alloc ?_ _)); refine blk_far ?_ NB321_330.out _; (with_reducible repeat (first | refine blk_drewN ?_ _ | refine blk_drew ?_ | refine blk_alloc ?_ _)); refine blk_far ?_ NB321_330.out _; (with_reducible repeat (first | refine blk_drewN ?_ _ | refine blk_drew ?_ | refine blk_alloc ?_ _)); refine blk_far ?_ NB321_330.out _; (with_reducible repeat (first | refine blk_drewN ?_ _ | refine blk_drew ?_ | refine blk_alloc ?_ _)); exact BK321.out) hb); have n1_ := Aside0.mk (blk_below (g := gb330) (o := .cells #[.int .i64 t322, .int .i64 t323, .int .u8 t324, .int .u8 t325, .int .u8 t326, .int .u8 t327, .int .u8 t328] 163 (0, 0)) (by (with_reducible repeat (first | refine blk_drewN ?_ _ | refine blk_drew ?_ | refine blk_alloc ?_ _)); refine blk_put (cs := #[.int .i64 t322, .int .i64 t323, .int .u8 t324, .int .u8 t325, .int .u8 t326, .int .u8 t327, .int .u8 0]) ?_ 6 _ rfl; (with_reducible repeat (first | refine blk_drewN ?_ _ | refine blk_drew ?_ | refine blk_alloc ?_ _)); refine blk_put (cs := #[.int .i64 t322, .int .i64 t323, .int .u8 t324, .int .u8 t325, .int .u8 t326, .int .u8 0, .int .u8 0]) ?_ 5 _ rfl; (with_reducible repeat (first | refine blk_drewN ?_ _ | refine blk_drew ?_ | refine blk_alloc ?_ _)); refine blk_put (cs := #[.int .i64 t322, .int .i64 t323, .int .u8 t324, .int .u8 t325, .int .u8 0, .int .u8 0, .int .u8 0]) ?_ 4 _ rfl; (with_reducible repeat (first | refine blk_drewN ?_ _ | refine blk_drew ?_ | refine blk_alloc ?_ _)); refine blk_put (cs := #[.int .i64 t322, .int .i64 t323, .int .u8 t324, .int .u8 0, .int .u8 0, .int .u8 0, .int .u8 0]) ?_ 3 _ rfl; (with_reducible repeat (first | refine blk_drewN ?_ _ | refine blk_drew ?_ | refine blk_alloc ?_ _)); refine blk_put (cs := #[.int .i64 t322, .int .i64 t323, .int .u8 0, .int .u8 0, .int .u8 0, .int .u8 0, .int .u8 0]) ?_ 2 _ rfl; (with_reducible repeat (first | refine blk_drewN ?_ _ | refine blk_drew ?_ | refine blk_alloc ?_ _)); refine blk_put (cs := #[.int .i64 t322, .int .i64 0, .int .u8 0, .int .u8 0, .int .u8 0, .int .u8 0, .int .u8 0]) ?_ 1 _ rfl; (with_reducible repeat (first | refine blk_drewN ?_ _ | refine blk_drew ?_ | refine blk_alloc ?_ _)); refine blk_put (cs := #[.int .i64 0, .int .i64 0, .int .u8 0, .int .u8 0, .int .u8 0, .int .u8 0, .int .u8 0]) ?_ 0 _ rfl; (with_reducible repeat (first | refine blk_drewN ?_ _ | refine blk_drew ?_ | refine blk_alloc ?_ _)); exact BK330.out) hb); have n2_ := Aside0.mk (below_step (by repeat (first | (with_reducible first | exact HB.out | apply below_alloc | apply pw_below_drewN | apply below_drew1 | refine below_set ?_ GE321.out | refine below_set ?_ GE330.out) | exact HB.out)) hb); clear BK321; clear BK330; clear HB; have BK321 := n0_; have BK330 := n1_; have HB := n2_; clear n0_ n1_ n2_; (try clear hb); (try clear hb2); (try clear hk); (try clear hi)) | ((with_reducible refine gate_dst (N := 12) rfl ?_); refine box_event ?hg (N := 12) ?hd (cs := #[.int .i64 0, .int .i64 0, .int .u8 0, .int .u8 0, .int .u8 0, .int .u8 0, .int .u8 0]) (t := 163) ?hr ?_; (case hd => rfl); (case hg => rfl); (case hr => first | (go_simp; done) | (go_simp; rfl)); intro gb339 hg w15 hbox hb; have n0_ := Aside0.mk (blk_below (g := gb321) (o := .cells #[.int .i64 0, .int .i64 0, .int .u8 0, .int .u8 0, .int .u8 0, .int .u8 0, .int .u8 0, .int .i64 0, .int .i64 0, .int .u8 0, .int .u8 0, .int .u8 0, .int .u8 0, .int .u8 0] 164 (0, 0)) (by (with_reducible repeat (first | refine blk_drewN ?_ _ | refine blk_drew ?_ | refine blk_alloc ?_ _)); exact BK321.out) hb); have n1_ := Aside0.mk (blk_below (g := gb330) (o := .cells #[.int .i64 t322, .int .i64 t323, .int .u8 t324, .int .u8 t325, .int .u8 t326, .int .u8 t327, .int .u8 t328] 163 (0, 0)) (by (with_reducible repeat (first | refine blk_drewN ?_ _ | refine blk_drew ?_ | refine blk_alloc ?_ _)); exact BK330.out) hb); have n2_ := Aside0.mk (below_step (by repeat (first | (with_reducible first | exact HB.out | apply below_alloc | apply pw_below_drewN | apply below_drew1 | refine below_set ?_ GE321.out | refine below_set ?_ GE330.out) | exact HB.out)) hb); have n3_ := Aside0.mk (hbox); have n4_ := Aside0.mk ((by rw [hg]; exact (below_size (by repeat (first | (with_reducible first | exact HB.out | apply below_alloc | apply pw_below_drewN | apply below_drew1 | refine below_set ?_ GE321.out | refine below_set ?_ GE330.out) | exact HB.out))) : w.heap.size ≤ gb339)); have n5_ := Aside0.mk ((by rw [hg]; exact (below_size (by repeat (first | (with_reducible first | exact HB.out | apply below_alloc | apply pw_below_drewN | apply below_drew1 | refine below_set ?_ GE321.out | refine below_set ?_ GE330.out) | exact HB.out))) : w.heap.size ≤ gb339)); have n6_ := Aside0.mk ((by rw [hg]; exact Nat.ne_of_lt (blk_lt (g := gb321) (o := .cells #[.int .i64 0, .int .i64 0, .int .u8 0, .int .u8 0, .int .u8 0, .int .u8 0, .int .u8 0, .int .i64 0, .int .i64 0, .int .u8 0, .int .u8 0, .int .u8 0, .int .u8 0, .int .u8 0] 164 (0, 0)) (by (with_reducible repeat (first | refine blk_drewN ?_ _ | refine blk_drew ?_ | refine blk_alloc ?_ _)); exact BK321.out)) : gb321 ≠ gb339)); have n7_ := Aside0.mk ((by rw [hg]; exact Nat.ne_of_gt (blk_lt (g := gb321) (o := .cells #[.int .i64 0, .int .i64 0, .int .u8 0, .int .u8 0, .int .u8 0, .int .u8 0, .int .u8 0, .int .i64 0, .int .i64 0, .int .u8 0, .int .u8 0, .int .u8 0, .int .u8 0, .int .u8 0] 164 (0, 0)) (by (with_reducible repeat (first | refine blk_drewN ?_ _ | refine blk_drew ?_ | refine blk_alloc ?_ _)); exact BK321.out)) : gb339 ≠ gb321)); have n8_ := Aside0.mk ((by rw [hg]; exact Nat.ne_of_lt (blk_lt (g := gb330) (o := .cells #[.int .i64 t322, .int .i64 t323, .int .u8 t324, .int .u8 t325, .int .u8 t326, .int .u8 t327, .int .u8 t328] 163 (0, 0)) (by (with_reducible repeat (first | refine blk_drewN ?_ _ | refine blk_drew ?_ | refine blk_alloc ?_ _)); exact BK330.out)) : gb330 ≠ gb339)); have n9_ := Aside0.mk ((by rw [hg]; exact Nat.ne_of_gt (blk_lt (g := gb330) (o := .cells #[.int .i64 t322, .int .i64 t323, .int .u8 t324, .int .u8 t325, .int .u8 t326, .int .u8 t327, .int .u8 t328] 163 (0, 0)) (by (with_reducible repeat (first | refine blk_drewN ?_ _ | refine blk_drew ?_ | refine blk_alloc ?_ _)); exact BK330.out)) : gb339 ≠ gb330)); clear BK321; clear BK330; clear HB; have BK321 := n0_; have BK330 := n1_; have HB := n2_; have BK339 := n3_; have GW339 := n4_; have GE339 := n5_; have NB321_339 := n6_; have NB339_321 := n7_; have NB330_339 := n8_; have NB339_330 := n9_; clear n0_ n1_ n2_ n3_ n4_ n5_ n6_ n7_ n8_ n9_; clear hb hbox hg; have hnb16 := NB339_321.out; have hnc16 := NB321_339.out; have hnb17 := NB339_330.out; have hnc17 := NB330_339.out; have hcz18_0 : w15.cell? ⟨gb339, 0, none⟩ = some (.int .i64 0) := (blk_cell BK339.out 0).trans rfl; have hcz18_1 : w15.cell? ⟨gb339, 1, none⟩ = some (.int .i64 0) := (blk_cell BK339.out 1).trans rfl; have hcz18_2 : w15.cell? ⟨gb339, 2, none⟩ = some (.int .u8 0) := (blk_cell BK339.out 2).trans rfl; have hcz18_3 : w15.cell? ⟨gb339, 3, none⟩ = some (.int .u8 0) := (blk_cell BK339.out 3).trans rfl; have hcz18_4 : w15.cell? ⟨gb339, 4, none⟩ = some (.int .u8 0) := (blk_cell BK339.out 4).trans rfl; have hcz18_5 : w15.cell? ⟨gb339, 5, none⟩ = some (.int .u8 0) := (blk_cell BK339.out 5).trans rfl; have hcz18_6 : w15.cell? ⟨gb339, 6, none⟩ = some (.int .u8 0) := (blk_cell BK339.out 6).trans rfl; have hfz18_0 := blk_frozen BK339.out 0; have hfz18_1 := blk_frozen BK339.out 1; have hfz18_2 := blk_frozen BK339.out 2; have hfz18_3 := blk_frozen BK339.out 3; have hfz18_4 := blk_frozen BK339.out 4; have hfz18_5 := blk_frozen BK339.out 5; have hfz18_6 := blk_frozen BK339.out 6; have hcz19_0 : w15.cell? ⟨gb330, 0, none⟩ = some (.int .i64 t322) := (blk_cell BK330.out 0).trans rfl; have hcz19_1 : w15.cell? ⟨gb330, 1, none⟩ = some (.int .i64 t323) := (blk_cell BK330.out 1).trans rfl; have hcz19_2 : w15.cell? ⟨gb330, 2, none⟩ = some (.int .u8 t324) := (blk_cell BK330.out 2).trans rfl; have hcz19_3 : w15.cell? ⟨gb330, 3, none⟩ = some (.int .u8 t325) := (blk_cell BK330.out 3).trans rfl; have hcz19_4 : w15.cell? ⟨gb330, 4, none⟩ = some (.int .u8 t326) := (blk_cell BK330.out 4).trans rfl; have hcz19_5 : w15.cell? ⟨gb330, 5, none⟩ = some (.int .u8 t327) := (blk_cell BK330.out 5).trans rfl; have hcz19_6 : w15.cell? ⟨gb330, 6, none⟩ = some (.int .u8 t328) := (blk_cell BK330.out 6).trans rfl; have hfz19_0 := blk_frozen BK330.out 0; have hfz19_1 := blk_frozen BK330.out 1; have hfz19_2 := blk_frozen BK330.out 2; have hfz19_3 := blk_frozen BK330.out 3; have hfz19_4 := blk_frozen BK330.out 4; have hfz19_5 := blk_frozen BK330.out 5; have hfz19_6 := blk_frozen BK330.out 6; have hcz20_0 : w15.cell? ⟨gb321, 0, none⟩ = some (.int .i64 0) := (blk_cell BK321.out 0).trans rfl; have hcz20_1 : w15.cell? ⟨gb321, 1, none⟩ = some (.int .i64 0) := (blk_cell BK321.out 1).trans rfl; have hcz20_2 : w15.cell? ⟨gb321, 2, none⟩ = some (.int .u8 0) := (blk_cell BK321.out 2).trans rfl; have hcz20_3 : w15.cell? ⟨gb321, 3, none⟩ = some (.int .u8 0) := (blk_cell BK321.out 3).trans rfl; have hcz20_4 : w15.cell? ⟨gb321, 4, none⟩ = some (.int .u8 0) := (blk_cell BK321.out 4).trans rfl; have hcz20_5 : w15.cell? ⟨gb321, 5, none⟩ = some (.int .u8 0) := (blk_cell BK321.out 5).trans rfl; have hcz20_6 : w15.cell? ⟨gb321, 6, none⟩ = some (.int .u8 0) := (blk_cell BK321.out 6).trans rfl; have hcz20_7 : w15.cell? ⟨gb321, 7, none⟩ = some (.int .i64 0) := (blk_cell BK321.out 7).trans rfl; have hcz20_8 : w15.cell? ⟨gb321, 8, none⟩ = some (.int .i64 0) := (blk_cell BK321.out 8).trans rfl; have hcz20_9 : w15.cell? ⟨gb321, 9, none⟩ = some (.int .u8 0) := (blk_cell BK321.out 9).trans rfl; have hcz20_10 : w15.cell? ⟨gb321, 10, none⟩ = some (.int .u8 0) := (blk_cell BK321.out 10).trans rfl; have hcz20_11 : w15.cell? ⟨gb321, 11, none⟩ = some (.int .u8 0) := (blk_cell BK321.out 11).trans rfl; have hcz20_12 : w15.cell? ⟨gb321, 12, none⟩ = some (.int .u8 0) := (blk_cell BK321.out 12).trans rfl; have hcz20_13 : w15.cell? ⟨gb321, 13, none⟩ = some (.int .u8 0) := (blk_cell BK321.out 13).trans rfl; have hfz20_0 := blk_frozen BK321.out 0; have hfz20_1 := blk_frozen BK321.out 1; have hfz20_2 := blk_frozen BK321.out 2; have hfz20_3 := blk_frozen BK321.out 3; have hfz20_4 := blk_frozen BK321.out 4; have hfz20_5 := blk_frozen BK321.out 5; have hfz20_6 := blk_frozen BK321.out 6; have hfz20_7 := blk_frozen BK321.out 7; have hfz20_8 := blk_frozen BK321.out 8; have hfz20_9 := blk_frozen BK321.out 9; have hfz20_10 := blk_frozen BK321.out 10; have hfz20_11 := blk_frozen BK321.out 11; have hfz20_12 := blk_frozen BK321.out 12; have hfz20_13 := blk_frozen BK321.out 13))
      refine bodyPost_ret (results_ct rfl _ _ gb321 164 #[.int .i64 t322, .int .i64 t323, .int .u8 t324, .int .u8 t325, .int .u8 t326, .int .u8 t327, .int .u8 t328, .int .i64 t331, .int .i64 t332, .int .u8 t333, .int .u8 t334, .int .u8 t335, .int .u8 t336, .int .u8 t337] (0, 0) _ rfl (by (with_reducible repeat (first | refine blk_drewN ?_ _ | refine blk_drew ?_ | refine blk_alloc ?_ _)); refine blk_put (cs := #[.int .i64 t322, .int .i64 t323, .int .u8 t324, .int .u8 t325, .int .u8 t326, .int .u8 t327, .int .u8 t328, .int .i64 t331, .int .i64 t332, .int .u8 t333, .int .u8 t334, .int .u8 t335, .int .u8 t336, .int .u8 0]) ?_ 13 _ rfl; (with_reducible repeat (first | refine blk_drewN ?_ _ | refine blk_drew ?_ | refine blk_alloc ?_ _)); refine blk_put (cs := #[.int .i64 t322, .int .i64 t323, .int .u8 t324, .int .u8 t325, .int .u8 t326, .int .u8 t327, .int .u8 t328, .int .i64 t331, .int .i64 t332, .int .u8 t333, .int .u8 t334, .int .u8 t335, .int .u8 0, .int .u8 0]) ?_ 12 _ rfl; (with_reducible repeat (first | refine blk_drewN ?_ _ | refine blk_drew ?_ | refine blk_alloc ?_ _)); refine blk_put (cs := #[.int .i64 t322, .int .i64 t323, .int .u8 t324, .int .u8 t325, .int .u8 t326, .int .u8 t327, .int .u8 t328, .int .i64 t331, .int .i64 t332, .int .u8 t333, .int .u8 t334, .int .u8 0, .int .u8 0, .int .u8 0]) ?_ 11 _ rfl; (with_reducible repeat (first | refine blk_drewN ?_ _ | refine blk_drew ?_ | refine blk_alloc ?_ _)); refine blk_put (cs := #[.int .i64 t322, .int .i64 t323, .int .u8 t324, .int .u8 t325, .int .u8 t326, .int .u8 t327, .int .u8 t328, .int .i64 t331, .int .i64 t332, .int .u8 t333, .int .u8 0, .int .u8 0, .int .u8 0, .int .u8 0]) ?_ 10 _ rfl; (with_reducible repeat (first | refine blk_drewN ?_ _ | refine blk_drew ?_ | refine blk_alloc ?_ _)); refine blk_put (cs := #[.int .i64 t322, .int .i64 t323, .int .u8 t324, .int .u8 t325, .int .u8 t326, .int .u8 t327, .int .u8 t328, .int .i64 t331, .int .i64 t332, .int .u8 0, .int .u8 0, .int .u8 0, .int .u8 0, .int .u8 0]) ?_ 9 _ rfl; (with_reducible repeat (first | refine blk_drewN ?_ _ | refine blk_drew ?_ | refine blk_alloc ?_ _)); refine blk_put (cs := #[.int .i64 t322, .int .i64 t323, .int .u8 t324, .int .u8 t325, .int .u8 t326, .int .u8 t327, .int .u8 t328, .int .i64 t331, .int .i64 0, .int .u8 0, .int .u8 0, .int .u8 0, .int .u8 0, .int .u8 0]) ?_ 8 _ rfl; (with_reducible repeat (first | refine blk_drewN ?_ _ | refine blk_drew ?_ | refine blk_alloc ?_ _)); refine blk_put (cs := #[.int .i64 t322, .int .i64 t323, .int .u8 t324, .int .u8 t325, .int .u8 t326, .int .u8 t327, .int .u8 t328, .int .i64 0, .int .i64 0, .int .u8 0, .int .u8 0, .int .u8 0, .int .u8 0, .int .u8 0]) ?_ 7 _ rfl; (with_reducible repeat (first | refine blk_drewN ?_ _ | refine blk_drew ?_ | refine blk_alloc ?_ _)); refine blk_put (cs := #[.int .i64 t322, .int .i64 t323, .int .u8 t324, .int .u8 t325, .int .u8 t326, .int .u8 t327, .int .u8 0, .int .i64 0, .int .i64 0, .int .u8 0, .int .u8 0, .int .u8 0, .int .u8 0, .int .u8 0]) ?_ 6 _ rfl; (with_reducible repeat (first | refine blk_drewN ?_ _ | refine blk_drew ?_ | refine blk_alloc ?_ _)); refine blk_put (cs := #[.int .i64 t322, .int .i64 t323, .int .u8 t324, .int .u8 t325, .int .u8 t326, .int .u8 0, .int .u8 0, .int .i64 0, .int .i64 0, .int .u8 0, .int .u8 0, .int .u8 0, .int .u8 0, .int .u8 0]) ?_ 5 _ rfl; (with_reducible repeat (first | refine blk_drewN ?_ _ | refine blk_drew ?_ | refine blk_alloc ?_ _)); refine blk_put (cs := #[.int .i64 t322, .int .i64 t323, .int .u8 t324, .int .u8 t325, .int .u8 0, .int .u8 0, .int .u8 0, .int .i64 0, .int .i64 0, .int .u8 0, .int .u8 0, .int .u8 0, .int .u8 0, .int .u8 0]) ?_ 4 _ rfl; (with_reducible repeat (first | refine blk_drewN ?_ _ | refine blk_drew ?_ | refine blk_alloc ?_ _)); refine blk_put (cs := #[.int .i64 t322, .int .i64 t323, .int .u8 t324, .int .u8 0, .int .u8 0, .int .u8 0, .int .u8 0, .int .i64 0, .int .i64 0, .int .u8 0, .int .u8 0, .int .u8 0, .int .u8 0, .int .u8 0]) ?_ 3 _ rfl; (with_reducible repeat (first | refine blk_drewN ?_ _ | refine blk_drew ?_ | refine blk_alloc ?_ _)); refine blk_put (cs := #[.int .i64 t322, .int .i64 t323, .int .u8 0, .int .u8 0, .int .u8 0, .int .u8 0, .int .u8 0, .int .i64 0, .int .i64 0, .int .u8 0, .int .u8 0, .int .u8 0, .int .u8 0, .int .u8 0]) ?_ 2 _ rfl; (with_reducible repeat (first | refine blk_drewN ?_ _ | refine blk_drew ?_ | refine blk_alloc ?_ _)); refine blk_put (cs := #[.int .i64 t322, .int .i64 0, .int .u8 0, .int .u8 0, .int .u8 0, .int .u8 0, .int .u8 0, .int .i64 0, .int .i64 0, .int .u8 0, .int .u8 0, .int .u8 0, .int .u8 0, .int .u8 0]) ?_ 1 _ rfl; (with_reducible repeat (first | refine blk_drewN ?_ _ | refine blk_drew ?_ | refine blk_alloc ?_ _)); refine blk_put (cs := #[.int .i64 0, .int .i64 0, .int .u8 0, .int .u8 0, .int .u8 0, .int .u8 0, .int .u8 0, .int .i64 0, .int .i64 0, .int .u8 0, .int .u8 0, .int .u8 0, .int .u8 0, .int .u8 0]) ?_ 0 _ rfl; (with_reducible repeat (first | refine blk_drewN ?_ _ | refine blk_drew ?_ | refine blk_alloc ?_ _)); refine blk_far ?_ NB321_339.out _; (with_reducible repeat (first | refine blk_drewN ?_ _ | refine blk_drew ?_ | refine blk_alloc ?_ _)); refine blk_far ?_ NB321_339.out _; (with_reducible repeat (first | refine blk_drewN ?_ _ | refine blk_drew ?_ | refine blk_alloc ?_ _)); refine blk_far ?_ NB321_339.out _; (with_reducible repeat (first | refine blk_drewN ?_ _ | refine blk_drew ?_ | refine blk_alloc ?_ _)); refine blk_far ?_ NB321_339.out _; (with_reducible repeat (first | refine blk_drewN ?_ _ | refine blk_drew ?_ | refine blk_alloc ?_ _)); refine blk_far ?_ NB321_339.out _; (with_reducible repeat (first | refine blk_drewN ?_ _ | refine blk_drew ?_ | refine blk_alloc ?_ _)); refine blk_far ?_ NB321_339.out _; (with_reducible repeat (first | refine blk_drewN ?_ _ | refine blk_drew ?_ | refine blk_alloc ?_ _)); refine blk_far ?_ NB321_339.out _; (with_reducible repeat (first | refine blk_drewN ?_ _ | refine blk_drew ?_ | refine blk_alloc ?_ _)); exact BK321.out) Tryz.underlying164 rfl (by kernel_rfl)) rfl ?_
      exact ⟨by first | rfl | (simp [errW_none, errW_some] <;> rfl) | (simp [*, errW_none, errW_some] <;> rfl), by repeat (first | (with_reducible first | exact HB.out | apply below_alloc | apply pw_below_drewN | apply below_drew1 | refine below_set ?_ GE321.out | refine below_set ?_ GE330.out | refine below_set ?_ GE339.out) | exact HB.out)⟩
    · rw [if_neg c8] at H
      have c8b0 : (t338 == 0) = false := beq_eq_false_iff_ne.mpr c8
      have c8b1 : (t338 != 0) = true := bne_iff_ne.mpr c8
      simp only [Option.some.injEq, Prod.mk.injEq] at H
      obtain ⟨rfl, rfl, rfl, rfl, rfl, rfl, rfl, rfl, rfl, rfl, rfl, rfl, rfl, rfl, rfl⟩ := H
      go_enter Tryz.func115, Tryz.ntmps115
      go_wp2_with (first | ((with_reducible refine gate_dst (N := 8) rfl ?_); refine box_event ?hg (N := 8) ?hd (cs := #[.int .i64 0, .int .i64 0, .int .u8 0, .int .u8 0, .int .u8 0, .int .u8 0, .int .u8 0, .int .i64 0, .int .i64 0, .int .u8 0, .int .u8 0, .int .u8 0, .int .u8 0, .int .u8 0]) (t := 164) ?hr ?_; (case hd => rfl); (case hg => rfl); (case hr => first | (go_simp; done) | (go_simp; rfl)); intro gb321 hg w21 hbox hb; have n0_ := Aside0.mk (below_step (by repeat (first | (with_reducible first | exact HB.out | apply below_alloc | apply pw_below_drewN | apply below_drew1) | exact HB.out)) hb); have n1_ := Aside0.mk (hbox); have n2_ := Aside0.mk ((by rw [hg]; exact (below_size (by repeat (first | (with_reducible first | exact HB.out | apply below_alloc | apply pw_below_drewN | apply below_drew1) | exact HB.out))) : w.heap.size ≤ gb321)); have n3_ := Aside0.mk ((by rw [hg]; exact (below_size (by repeat (first | (with_reducible first | exact HB.out | apply below_alloc | apply pw_below_drewN | apply below_drew1) | exact HB.out))) : w.heap.size ≤ gb321)); clear HB; have HB := n0_; have BK321 := n1_; have GW321 := n2_; have GE321 := n3_; clear n0_ n1_ n2_ n3_; clear hb hbox hg) | ((with_reducible refine gate_callee (f := 127) rfl ?_); refine goesL_ (some 16) rfl rfl Tryz.func127 (by kernel_rfl) rfl #[.int .i64 a0, .int .u8 a2] rfl (by (try simp only [List.map_toArray, List.map_cons, List.map_nil]); first | done | rfl | (simp only [List.length_drop, List.length_take]; rfl)) ?_; (with_reducible refine (trellis_edge.calls a0 a2 t322 t323 t324 t325 t326 t327 t328 t329 _ A5.out).mono ?_); rintro e w22 ⟨rfl, hb⟩; refine ⟨_, rfl, ?_⟩; have n0_ := Aside0.mk (blk_below (g := gb321) (o := .cells #[.int .i64 0, .int .i64 0, .int .u8 0, .int .u8 0, .int .u8 0, .int .u8 0, .int .u8 0, .int .i64 0, .int .i64 0, .int .u8 0, .int .u8 0, .int .u8 0, .int .u8 0, .int .u8 0] 164 (0, 0)) (by (with_reducible repeat (first | refine blk_drewN ?_ _ | refine blk_drew ?_ | refine blk_alloc ?_ _)); exact BK321.out) hb); have n1_ := Aside0.mk (below_step (by repeat (first | (with_reducible first | exact HB.out | apply below_alloc | apply pw_below_drewN | apply below_drew1 | refine below_set ?_ GE321.out) | exact HB.out)) hb); clear BK321; clear HB; have BK321 := n0_; have HB := n1_; clear n0_ n1_; (try clear hb); (try clear hb2); (try clear hk); (try clear hi)) | ((with_reducible refine gate_dst (N := 10) rfl ?_); refine box_event ?hg (N := 10) ?hd (cs := #[.int .i64 0, .int .i64 0, .int .u8 0, .int .u8 0, .int .u8 0, .int .u8 0, .int .u8 0]) (t := 163) ?hr ?_; (case hd => rfl); (case hg => rfl); (case hr => first | (go_simp; done) | (go_simp; rfl)); intro gb330 hg w23 hbox hb; have n0_ := Aside0.mk (blk_below (g := gb321) (o := .cells #[.int .i64 0, .int .i64 0, .int .u8 0, .int .u8 0, .int .u8 0, .int .u8 0, .int .u8 0, .int .i64 0, .int .i64 0, .int .u8 0, .int .u8 0, .int .u8 0, .int .u8 0, .int .u8 0] 164 (0, 0)) (by (with_reducible repeat (first | refine blk_drewN ?_ _ | refine blk_drew ?_ | refine blk_alloc ?_ _)); exact BK321.out) hb); have n1_ := Aside0.mk (below_step (by repeat (first | (with_reducible first | exact HB.out | apply below_alloc | apply pw_below_drewN | apply below_drew1 | refine below_set ?_ GE321.out) | exact HB.out)) hb); have n2_ := Aside0.mk (hbox); have n3_ := Aside0.mk ((by rw [hg]; exact (below_size (by repeat (first | (with_reducible first | exact HB.out | apply below_alloc | apply pw_below_drewN | apply below_drew1 | refine below_set ?_ GE321.out) | exact HB.out))) : w.heap.size ≤ gb330)); have n4_ := Aside0.mk ((by rw [hg]; exact (below_size (by repeat (first | (with_reducible first | exact HB.out | apply below_alloc | apply pw_below_drewN | apply below_drew1 | refine below_set ?_ GE321.out) | exact HB.out))) : w.heap.size ≤ gb330)); have n5_ := Aside0.mk ((by rw [hg]; exact Nat.ne_of_lt (blk_lt (g := gb321) (o := .cells #[.int .i64 0, .int .i64 0, .int .u8 0, .int .u8 0, .int .u8 0, .int .u8 0, .int .u8 0, .int .i64 0, .int .i64 0, .int .u8 0, .int .u8 0, .int .u8 0, .int .u8 0, .int .u8 0] 164 (0, 0)) (by (with_reducible repeat (first | refine blk_drewN ?_ _ | refine blk_drew ?_ | refine blk_alloc ?_ _)); exact BK321.out)) : gb321 ≠ gb330)); have n6_ := Aside0.mk ((by rw [hg]; exact Nat.ne_of_gt (blk_lt (g := gb321) (o := .cells #[.int .i64 0, .int .i64 0, .int .u8 0, .int .u8 0, .int .u8 0, .int .u8 0, .int .u8 0, .int .i64 0, .int .i64 0, .int .u8 0, .int .u8 0, .int .u8 0, .int .u8 0, .int .u8 0] 164 (0, 0)) (by (with_reducible repeat (first | refine blk_drewN ?_ _ | refine blk_drew ?_ | refine blk_alloc ?_ _)); exact BK321.out)) : gb330 ≠ gb321)); clear BK321; clear HB; have BK321 := n0_; have HB := n1_; have BK330 := n2_; have GW330 := n3_; have GE330 := n4_; have NB321_330 := n5_; have NB330_321 := n6_; clear n0_ n1_ n2_ n3_ n4_ n5_ n6_; clear hb hbox hg; have hnb24 := NB330_321.out; have hnc24 := NB321_330.out; have hcz25_0 : w23.cell? ⟨gb330, 0, none⟩ = some (.int .i64 0) := (blk_cell BK330.out 0).trans rfl; have hcz25_1 : w23.cell? ⟨gb330, 1, none⟩ = some (.int .i64 0) := (blk_cell BK330.out 1).trans rfl; have hcz25_2 : w23.cell? ⟨gb330, 2, none⟩ = some (.int .u8 0) := (blk_cell BK330.out 2).trans rfl; have hcz25_3 : w23.cell? ⟨gb330, 3, none⟩ = some (.int .u8 0) := (blk_cell BK330.out 3).trans rfl; have hcz25_4 : w23.cell? ⟨gb330, 4, none⟩ = some (.int .u8 0) := (blk_cell BK330.out 4).trans rfl; have hcz25_5 : w23.cell? ⟨gb330, 5, none⟩ = some (.int .u8 0) := (blk_cell BK330.out 5).trans rfl; have hcz25_6 : w23.cell? ⟨gb330, 6, none⟩ = some (.int .u8 0) := (blk_cell BK330.out 6).trans rfl; have hfz25_0 := blk_frozen BK330.out 0; have hfz25_1 := blk_frozen BK330.out 1; have hfz25_2 := blk_frozen BK330.out 2; have hfz25_3 := blk_frozen BK330.out 3; have hfz25_4 := blk_frozen BK330.out 4; have hfz25_5 := blk_frozen BK330.out 5; have hfz25_6 := blk_frozen BK330.out 6) | ((with_reducible refine gate_callee (f := 127) rfl ?_); refine goesL_ (some 26) rfl rfl Tryz.func127 (by kernel_rfl) rfl #[.int .i64 a1, .int .u8 a3] rfl (by (try simp only [List.map_toArray, List.map_cons, List.map_nil]); first | done | rfl | (simp only [List.length_drop, List.length_take]; rfl)) ?_; (with_reducible refine (trellis_edge.calls a1 a3 t331 t332 t333 t334 t335 t336 t337 t338 _ A7.out).mono ?_); rintro e w26 ⟨rfl, hb⟩; refine ⟨_, rfl, ?_⟩; have n0_ := Aside0.mk (blk_below (g := gb321) (o := .cells #[.int .i64 0, .int .i64 0, .int .u8 0, .int .u8 0, .int .u8 0, .int .u8 0, .int .u8 0, .int .i64 0, .int .i64 0, .int .u8 0, .int .u8 0, .int .u8 0, .int .u8 0, .int .u8 0] 164 (0, 0)) (by (with_reducible repeat (first | refine blk_drewN ?_ _ | refine blk_drew ?_ | refine blk_alloc ?_ _)); refine blk_far ?_ NB321_330.out _; (with_reducible repeat (first | refine blk_drewN ?_ _ | refine blk_drew ?_ | refine blk_alloc ?_ _)); refine blk_far ?_ NB321_330.out _; (with_reducible repeat (first | refine blk_drewN ?_ _ | refine blk_drew ?_ | refine blk_alloc ?_ _)); refine blk_far ?_ NB321_330.out _; (with_reducible repeat (first | refine blk_drewN ?_ _ | refine blk_drew ?_ | refine blk_alloc ?_ _)); refine blk_far ?_ NB321_330.out _; (with_reducible repeat (first | refine blk_drewN ?_ _ | refine blk_drew ?_ | refine blk_alloc ?_ _)); refine blk_far ?_ NB321_330.out _; (with_reducible repeat (first | refine blk_drewN ?_ _ | refine blk_drew ?_ | refine blk_alloc ?_ _)); refine blk_far ?_ NB321_330.out _; (with_reducible repeat (first | refine blk_drewN ?_ _ | refine blk_drew ?_ | refine blk_alloc ?_ _)); refine blk_far ?_ NB321_330.out _; (with_reducible repeat (first | refine blk_drewN ?_ _ | refine blk_drew ?_ | refine blk_alloc ?_ _)); exact BK321.out) hb); have n1_ := Aside0.mk (blk_below (g := gb330) (o := .cells #[.int .i64 t322, .int .i64 t323, .int .u8 t324, .int .u8 t325, .int .u8 t326, .int .u8 t327, .int .u8 t328] 163 (0, 0)) (by (with_reducible repeat (first | refine blk_drewN ?_ _ | refine blk_drew ?_ | refine blk_alloc ?_ _)); refine blk_put (cs := #[.int .i64 t322, .int .i64 t323, .int .u8 t324, .int .u8 t325, .int .u8 t326, .int .u8 t327, .int .u8 0]) ?_ 6 _ rfl; (with_reducible repeat (first | refine blk_drewN ?_ _ | refine blk_drew ?_ | refine blk_alloc ?_ _)); refine blk_put (cs := #[.int .i64 t322, .int .i64 t323, .int .u8 t324, .int .u8 t325, .int .u8 t326, .int .u8 0, .int .u8 0]) ?_ 5 _ rfl; (with_reducible repeat (first | refine blk_drewN ?_ _ | refine blk_drew ?_ | refine blk_alloc ?_ _)); refine blk_put (cs := #[.int .i64 t322, .int .i64 t323, .int .u8 t324, .int .u8 t325, .int .u8 0, .int .u8 0, .int .u8 0]) ?_ 4 _ rfl; (with_reducible repeat (first | refine blk_drewN ?_ _ | refine blk_drew ?_ | refine blk_alloc ?_ _)); refine blk_put (cs := #[.int .i64 t322, .int .i64 t323, .int .u8 t324, .int .u8 0, .int .u8 0, .int .u8 0, .int .u8 0]) ?_ 3 _ rfl; (with_reducible repeat (first | refine blk_drewN ?_ _ | refine blk_drew ?_ | refine blk_alloc ?_ _)); refine blk_put (cs := #[.int .i64 t322, .int .i64 t323, .int .u8 0, .int .u8 0, .int .u8 0, .int .u8 0, .int .u8 0]) ?_ 2 _ rfl; (with_reducible repeat (first | refine blk_drewN ?_ _ | refine blk_drew ?_ | refine blk_alloc ?_ _)); refine blk_put (cs := #[.int .i64 t322, .int .i64 0, .int .u8 0, .int .u8 0, .int .u8 0, .int .u8 0, .int .u8 0]) ?_ 1 _ rfl; (with_reducible repeat (first | refine blk_drewN ?_ _ | refine blk_drew ?_ | refine blk_alloc ?_ _)); refine blk_put (cs := #[.int .i64 0, .int .i64 0, .int .u8 0, .int .u8 0, .int .u8 0, .int .u8 0, .int .u8 0]) ?_ 0 _ rfl; (with_reducible repeat (first | refine blk_drewN ?_ _ | refine blk_drew ?_ | refine blk_alloc ?_ _)); exact BK330.out) hb); have n2_ := Aside0.mk (below_step (by repeat (first | (with_reducible first | exact HB.out | apply below_alloc | apply pw_below_drewN | apply below_drew1 | refine below_set ?_ GE321.out | refine below_set ?_ GE330.out) | exact HB.out)) hb); clear BK321; clear BK330; clear HB; have BK321 := n0_; have BK330 := n1_; have HB := n2_; clear n0_ n1_ n2_; (try clear hb); (try clear hb2); (try clear hk); (try clear hi)) | ((with_reducible refine gate_dst (N := 12) rfl ?_); refine box_event ?hg (N := 12) ?hd (cs := #[.int .i64 0, .int .i64 0, .int .u8 0, .int .u8 0, .int .u8 0, .int .u8 0, .int .u8 0]) (t := 163) ?hr ?_; (case hd => rfl); (case hg => rfl); (case hr => first | (go_simp; done) | (go_simp; rfl)); intro gb339 hg w27 hbox hb; have n0_ := Aside0.mk (blk_below (g := gb321) (o := .cells #[.int .i64 0, .int .i64 0, .int .u8 0, .int .u8 0, .int .u8 0, .int .u8 0, .int .u8 0, .int .i64 0, .int .i64 0, .int .u8 0, .int .u8 0, .int .u8 0, .int .u8 0, .int .u8 0] 164 (0, 0)) (by (with_reducible repeat (first | refine blk_drewN ?_ _ | refine blk_drew ?_ | refine blk_alloc ?_ _)); exact BK321.out) hb); have n1_ := Aside0.mk (blk_below (g := gb330) (o := .cells #[.int .i64 t322, .int .i64 t323, .int .u8 t324, .int .u8 t325, .int .u8 t326, .int .u8 t327, .int .u8 t328] 163 (0, 0)) (by (with_reducible repeat (first | refine blk_drewN ?_ _ | refine blk_drew ?_ | refine blk_alloc ?_ _)); exact BK330.out) hb); have n2_ := Aside0.mk (below_step (by repeat (first | (with_reducible first | exact HB.out | apply below_alloc | apply pw_below_drewN | apply below_drew1 | refine below_set ?_ GE321.out | refine below_set ?_ GE330.out) | exact HB.out)) hb); have n3_ := Aside0.mk (hbox); have n4_ := Aside0.mk ((by rw [hg]; exact (below_size (by repeat (first | (with_reducible first | exact HB.out | apply below_alloc | apply pw_below_drewN | apply below_drew1 | refine below_set ?_ GE321.out | refine below_set ?_ GE330.out) | exact HB.out))) : w.heap.size ≤ gb339)); have n5_ := Aside0.mk ((by rw [hg]; exact (below_size (by repeat (first | (with_reducible first | exact HB.out | apply below_alloc | apply pw_below_drewN | apply below_drew1 | refine below_set ?_ GE321.out | refine below_set ?_ GE330.out) | exact HB.out))) : w.heap.size ≤ gb339)); have n6_ := Aside0.mk ((by rw [hg]; exact Nat.ne_of_lt (blk_lt (g := gb321) (o := .cells #[.int .i64 0, .int .i64 0, .int .u8 0, .int .u8 0, .int .u8 0, .int .u8 0, .int .u8 0, .int .i64 0, .int .i64 0, .int .u8 0, .int .u8 0, .int .u8 0, .int .u8 0, .int .u8 0] 164 (0, 0)) (by (with_reducible repeat (first | refine blk_drewN ?_ _ | refine blk_drew ?_ | refine blk_alloc ?_ _)); exact BK321.out)) : gb321 ≠ gb339)); have n7_ := Aside0.mk ((by rw [hg]; exact Nat.ne_of_gt (blk_lt (g := gb321) (o := .cells #[.int .i64 0, .int .i64 0, .int .u8 0, .int .u8 0, .int .u8 0, .int .u8 0, .int .u8 0, .int .i64 0, .int .i64 0, .int .u8 0, .int .u8 0, .int .u8 0, .int .u8 0, .int .u8 0] 164 (0, 0)) (by (with_reducible repeat (first | refine blk_drewN ?_ _ | refine blk_drew ?_ | refine blk_alloc ?_ _)); exact BK321.out)) : gb339 ≠ gb321)); have n8_ := Aside0.mk ((by rw [hg]; exact Nat.ne_of_lt (blk_lt (g := gb330) (o := .cells #[.int .i64 t322, .int .i64 t323, .int .u8 t324, .int .u8 t325, .int .u8 t326, .int .u8 t327, .int .u8 t328] 163 (0, 0)) (by (with_reducible repeat (first | refine blk_drewN ?_ _ | refine blk_drew ?_ | refine blk_alloc ?_ _)); exact BK330.out)) : gb330 ≠ gb339)); have n9_ := Aside0.mk ((by rw [hg]; exact Nat.ne_of_gt (blk_lt (g := gb330) (o := .cells #[.int .i64 t322, .int .i64 t323, .int .u8 t324, .int .u8 t325, .int .u8 t326, .int .u8 t327, .int .u8 t328] 163 (0, 0)) (by (with_reducible repeat (first | refine blk_drewN ?_ _ | refine blk_drew ?_ | refine blk_alloc ?_ _)); exact BK330.out)) : gb339 ≠ gb330)); clear BK321; clear BK330; clear HB; have BK321 := n0_; have BK330 := n1_; have HB := n2_; have BK339 := n3_; have GW339 := n4_; have GE339 := n5_; have NB321_339 := n6_; have NB339_321 := n7_; have NB330_339 := n8_; have NB339_330 := n9_; clear n0_ n1_ n2_ n3_ n4_ n5_ n6_ n7_ n8_ n9_; clear hb hbox hg; have hnb28 := NB339_321.out; have hnc28 := NB321_339.out; have hnb29 := NB339_330.out; have hnc29 := NB330_339.out; have hcz30_0 : w27.cell? ⟨gb339, 0, none⟩ = some (.int .i64 0) := (blk_cell BK339.out 0).trans rfl; have hcz30_1 : w27.cell? ⟨gb339, 1, none⟩ = some (.int .i64 0) := (blk_cell BK339.out 1).trans rfl; have hcz30_2 : w27.cell? ⟨gb339, 2, none⟩ = some (.int .u8 0) := (blk_cell BK339.out 2).trans rfl; have hcz30_3 : w27.cell? ⟨gb339, 3, none⟩ = some (.int .u8 0) := (blk_cell BK339.out 3).trans rfl; have hcz30_4 : w27.cell? ⟨gb339, 4, none⟩ = some (.int .u8 0) := (blk_cell BK339.out 4).trans rfl; have hcz30_5 : w27.cell? ⟨gb339, 5, none⟩ = some (.int .u8 0) := (blk_cell BK339.out 5).trans rfl; have hcz30_6 : w27.cell? ⟨gb339, 6, none⟩ = some (.int .u8 0) := (blk_cell BK339.out 6).trans rfl; have hfz30_0 := blk_frozen BK339.out 0; have hfz30_1 := blk_frozen BK339.out 1; have hfz30_2 := blk_frozen BK339.out 2; have hfz30_3 := blk_frozen BK339.out 3; have hfz30_4 := blk_frozen BK339.out 4; have hfz30_5 := blk_frozen BK339.out 5; have hfz30_6 := blk_frozen BK339.out 6; have hcz31_0 : w27.cell? ⟨gb321, 0, none⟩ = some (.int .i64 0) := (blk_cell BK321.out 0).trans rfl; have hcz31_1 : w27.cell? ⟨gb321, 1, none⟩ = some (.int .i64 0) := (blk_cell BK321.out 1).trans rfl; have hcz31_2 : w27.cell? ⟨gb321, 2, none⟩ = some (.int .u8 0) := (blk_cell BK321.out 2).trans rfl; have hcz31_3 : w27.cell? ⟨gb321, 3, none⟩ = some (.int .u8 0) := (blk_cell BK321.out 3).trans rfl; have hcz31_4 : w27.cell? ⟨gb321, 4, none⟩ = some (.int .u8 0) := (blk_cell BK321.out 4).trans rfl; have hcz31_5 : w27.cell? ⟨gb321, 5, none⟩ = some (.int .u8 0) := (blk_cell BK321.out 5).trans rfl; have hcz31_6 : w27.cell? ⟨gb321, 6, none⟩ = some (.int .u8 0) := (blk_cell BK321.out 6).trans rfl; have hcz31_7 : w27.cell? ⟨gb321, 7, none⟩ = some (.int .i64 0) := (blk_cell BK321.out 7).trans rfl; have hcz31_8 : w27.cell? ⟨gb321, 8, none⟩ = some (.int .i64 0) := (blk_cell BK321.out 8).trans rfl; have hcz31_9 : w27.cell? ⟨gb321, 9, none⟩ = some (.int .u8 0) := (blk_cell BK321.out 9).trans rfl; have hcz31_10 : w27.cell? ⟨gb321, 10, none⟩ = some (.int .u8 0) := (blk_cell BK321.out 10).trans rfl; have hcz31_11 : w27.cell? ⟨gb321, 11, none⟩ = some (.int .u8 0) := (blk_cell BK321.out 11).trans rfl; have hcz31_12 : w27.cell? ⟨gb321, 12, none⟩ = some (.int .u8 0) := (blk_cell BK321.out 12).trans rfl; have hcz31_13 : w27.cell? ⟨gb321, 13, none⟩ = some (.int .u8 0) := (blk_cell BK321.out 13).trans rfl; have hfz31_0 := blk_frozen BK321.out 0; have hfz31_1 := blk_frozen BK321.out 1; have hfz31_2 := blk_frozen BK321.out 2; have hfz31_3 := blk_frozen BK321.out 3; have hfz31_4 := blk_frozen BK321.out 4; have hfz31_5 := blk_frozen BK321.out 5; have hfz31_6 := blk_frozen BK321.out 6; have hfz31_7 := blk_frozen BK321.out 7; have hfz31_8 := blk_frozen BK321.out 8; have hfz31_9 := blk_frozen BK321.out 9; have hfz31_10 := blk_frozen BK321.out 10; have hfz31_11 := blk_frozen BK321.out 11; have hfz31_12 := blk_frozen BK321.out 12; have hfz31_13 := blk_frozen BK321.out 13))
      refine bodyPost_ret (results_ct rfl _ _ gb321 164 #[.int .i64 0, .int .i64 0, .int .u8 0, .int .u8 0, .int .u8 0, .int .u8 0, .int .u8 0, .int .i64 0, .int .i64 0, .int .u8 0, .int .u8 0, .int .u8 0, .int .u8 0, .int .u8 0] (0, 0) _ rfl (by (with_reducible repeat (first | refine blk_drewN ?_ _ | refine blk_drew ?_ | refine blk_alloc ?_ _)); refine blk_put (cs := #[.int .i64 0, .int .i64 0, .int .u8 0, .int .u8 0, .int .u8 0, .int .u8 0, .int .u8 0, .int .i64 0, .int .i64 0, .int .u8 0, .int .u8 0, .int .u8 0, .int .u8 0, .int .u8 0]) ?_ 13 _ rfl; (with_reducible repeat (first | refine blk_drewN ?_ _ | refine blk_drew ?_ | refine blk_alloc ?_ _)); refine blk_put (cs := #[.int .i64 0, .int .i64 0, .int .u8 0, .int .u8 0, .int .u8 0, .int .u8 0, .int .u8 0, .int .i64 0, .int .i64 0, .int .u8 0, .int .u8 0, .int .u8 0, .int .u8 0, .int .u8 0]) ?_ 12 _ rfl; (with_reducible repeat (first | refine blk_drewN ?_ _ | refine blk_drew ?_ | refine blk_alloc ?_ _)); refine blk_put (cs := #[.int .i64 0, .int .i64 0, .int .u8 0, .int .u8 0, .int .u8 0, .int .u8 0, .int .u8 0, .int .i64 0, .int .i64 0, .int .u8 0, .int .u8 0, .int .u8 0, .int .u8 0, .int .u8 0]) ?_ 11 _ rfl; (with_reducible repeat (first | refine blk_drewN ?_ _ | refine blk_drew ?_ | refine blk_alloc ?_ _)); refine blk_put (cs := #[.int .i64 0, .int .i64 0, .int .u8 0, .int .u8 0, .int .u8 0, .int .u8 0, .int .u8 0, .int .i64 0, .int .i64 0, .int .u8 0, .int .u8 0, .int .u8 0, .int .u8 0, .int .u8 0]) ?_ 10 _ rfl; (with_reducible repeat (first | refine blk_drewN ?_ _ | refine blk_drew ?_ | refine blk_alloc ?_ _)); refine blk_put (cs := #[.int .i64 0, .int .i64 0, .int .u8 0, .int .u8 0, .int .u8 0, .int .u8 0, .int .u8 0, .int .i64 0, .int .i64 0, .int .u8 0, .int .u8 0, .int .u8 0, .int .u8 0, .int .u8 0]) ?_ 9 _ rfl; (with_reducible repeat (first | refine blk_drewN ?_ _ | refine blk_drew ?_ | refine blk_alloc ?_ _)); refine blk_put (cs := #[.int .i64 0, .int .i64 0, .int .u8 0, .int .u8 0, .int .u8 0, .int .u8 0, .int .u8 0, .int .i64 0, .int .i64 0, .int .u8 0, .int .u8 0, .int .u8 0, .int .u8 0, .int .u8 0]) ?_ 8 _ rfl; (with_reducible repeat (first | refine blk_drewN ?_ _ | refine blk_drew ?_ | refine blk_alloc ?_ _)); refine blk_put (cs := #[.int .i64 0, .int .i64 0, .int .u8 0, .int .u8 0, .int .u8 0, .int .u8 0, .int .u8 0, .int .i64 0, .int .i64 0, .int .u8 0, .int .u8 0, .int .u8 0, .int .u8 0, .int .u8 0]) ?_ 7 _ rfl; (with_reducible repeat (first | refine blk_drewN ?_ _ | refine blk_drew ?_ | refine blk_alloc ?_ _)); refine blk_put (cs := #[.int .i64 0, .int .i64 0, .int .u8 0, .int .u8 0, .int .u8 0, .int .u8 0, .int .u8 0, .int .i64 0, .int .i64 0, .int .u8 0, .int .u8 0, .int .u8 0, .int .u8 0, .int .u8 0]) ?_ 6 _ rfl; (with_reducible repeat (first | refine blk_drewN ?_ _ | refine blk_drew ?_ | refine blk_alloc ?_ _)); refine blk_put (cs := #[.int .i64 0, .int .i64 0, .int .u8 0, .int .u8 0, .int .u8 0, .int .u8 0, .int .u8 0, .int .i64 0, .int .i64 0, .int .u8 0, .int .u8 0, .int .u8 0, .int .u8 0, .int .u8 0]) ?_ 5 _ rfl; (with_reducible repeat (first | refine blk_drewN ?_ _ | refine blk_drew ?_ | refine blk_alloc ?_ _)); refine blk_put (cs := #[.int .i64 0, .int .i64 0, .int .u8 0, .int .u8 0, .int .u8 0, .int .u8 0, .int .u8 0, .int .i64 0, .int .i64 0, .int .u8 0, .int .u8 0, .int .u8 0, .int .u8 0, .int .u8 0]) ?_ 4 _ rfl; (with_reducible repeat (first | refine blk_drewN ?_ _ | refine blk_drew ?_ | refine blk_alloc ?_ _)); refine blk_put (cs := #[.int .i64 0, .int .i64 0, .int .u8 0, .int .u8 0, .int .u8 0, .int .u8 0, .int .u8 0, .int .i64 0, .int .i64 0, .int .u8 0, .int .u8 0, .int .u8 0, .int .u8 0, .int .u8 0]) ?_ 3 _ rfl; (with_reducible repeat (first | refine blk_drewN ?_ _ | refine blk_drew ?_ | refine blk_alloc ?_ _)); refine blk_put (cs := #[.int .i64 0, .int .i64 0, .int .u8 0, .int .u8 0, .int .u8 0, .int .u8 0, .int .u8 0, .int .i64 0, .int .i64 0, .int .u8 0, .int .u8 0, .int .u8 0, .int .u8 0, .int .u8 0]) ?_ 2 _ rfl; (with_reducible repeat (first | refine blk_drewN ?_ _ | refine blk_drew ?_ | refine blk_alloc ?_ _)); refine blk_put (cs := #[.int .i64 0, .int .i64 0, .int .u8 0, .int .u8 0, .int .u8 0, .int .u8 0, .int .u8 0, .int .i64 0, .int .i64 0, .int .u8 0, .int .u8 0, .int .u8 0, .int .u8 0, .int .u8 0]) ?_ 1 _ rfl; (with_reducible repeat (first | refine blk_drewN ?_ _ | refine blk_drew ?_ | refine blk_alloc ?_ _)); refine blk_put (cs := #[.int .i64 0, .int .i64 0, .int .u8 0, .int .u8 0, .int .u8 0, .int .u8 0, .int .u8 0, .int .i64 0, .int .i64 0, .int .u8 0, .int .u8 0, .int .u8 0, .int .u8 0, .int .u8 0]) ?_ 0 _ rfl; (with_reducible repeat (first | refine blk_drewN ?_ _ | refine blk_drew ?_ | refine blk_alloc ?_ _)); refine blk_far ?_ NB321_339.out _; (with_reducible repeat (first | refine blk_drewN ?_ _ | refine blk_drew ?_ | refine blk_alloc ?_ _)); refine blk_far ?_ NB321_339.out _; (with_reducible repeat (first | refine blk_drewN ?_ _ | refine blk_drew ?_ | refine blk_alloc ?_ _)); refine blk_far ?_ NB321_339.out _; (with_reducible repeat (first | refine blk_drewN ?_ _ | refine blk_drew ?_ | refine blk_alloc ?_ _)); refine blk_far ?_ NB321_339.out _; (with_reducible repeat (first | refine blk_drewN ?_ _ | refine blk_drew ?_ | refine blk_alloc ?_ _)); refine blk_far ?_ NB321_339.out _; (with_reducible repeat (first | refine blk_drewN ?_ _ | refine blk_drew ?_ | refine blk_alloc ?_ _)); refine blk_far ?_ NB321_339.out _; (with_reducible repeat (first | refine blk_drewN ?_ _ | refine blk_drew ?_ | refine blk_alloc ?_ _)); refine blk_far ?_ NB321_339.out _; (with_reducible repeat (first | refine blk_drewN ?_ _ | refine blk_drew ?_ | refine blk_alloc ?_ _)); exact BK321.out) Tryz.underlying164 rfl (by kernel_rfl)) rfl ?_
      exact ⟨by first | rfl | (simp [errW_none, errW_some] <;> rfl) | (simp [*, errW_none, errW_some] <;> rfl), by repeat (first | (with_reducible first | exact HB.out | apply below_alloc | apply pw_below_drewN | apply below_drew1 | refine below_set ?_ GE321.out | refine below_set ?_ GE330.out | refine below_set ?_ GE339.out) | exact HB.out)⟩
  · rw [if_neg c6] at H
    have c6b0 : (t329 == 0) = false := beq_eq_false_iff_ne.mpr c6
    have c6b1 : (t329 != 0) = true := bne_iff_ne.mpr c6
    simp only [Option.some.injEq, Prod.mk.injEq] at H
    obtain ⟨rfl, rfl, rfl, rfl, rfl, rfl, rfl, rfl, rfl, rfl, rfl, rfl, rfl, rfl, rfl⟩ := H
    go_enter Tryz.func115, Tryz.ntmps115
    go_wp2_with (first | ((with_reducible refine gate_dst (N := 8) rfl ?_); refine box_event ?hg (N := 8) ?hd (cs := #[.int .i64 0, .int .i64 0, .int .u8 0, .int .u8 0, .int .u8 0, .int .u8 0, .int .u8 0, .int .i64 0, .int .i64 0, .int .u8 0, .int .u8 0, .int .u8 0, .int .u8 0, .int .u8 0]) (t := 164) ?hr ?_; (case hd => rfl); (case hg => rfl); (case hr => first | (go_simp; done) | (go_simp; rfl)); intro gb321 hg w32 hbox hb; have n0_ := Aside0.mk (below_step (by repeat (first | (with_reducible first | exact HB.out | apply below_alloc | apply pw_below_drewN | apply below_drew1) | exact HB.out)) hb); have n1_ := Aside0.mk (hbox); have n2_ := Aside0.mk ((by rw [hg]; exact (below_size (by repeat (first | (with_reducible first | exact HB.out | apply below_alloc | apply pw_below_drewN | apply below_drew1) | exact HB.out))) : w.heap.size ≤ gb321)); have n3_ := Aside0.mk ((by rw [hg]; exact (below_size (by repeat (first | (with_reducible first | exact HB.out | apply below_alloc | apply pw_below_drewN | apply below_drew1) | exact HB.out))) : w.heap.size ≤ gb321)); clear HB; have HB := n0_; have BK321 := n1_; have GW321 := n2_; have GE321 := n3_; clear n0_ n1_ n2_ n3_; clear hb hbox hg) | ((with_reducible refine gate_callee (f := 127) rfl ?_); refine goesL_ (some 16) rfl rfl Tryz.func127 (by kernel_rfl) rfl #[.int .i64 a0, .int .u8 a2] rfl (by (try simp only [List.map_toArray, List.map_cons, List.map_nil]); first | done | rfl | (simp only [List.length_drop, List.length_take]; rfl)) ?_; (with_reducible refine (trellis_edge.calls a0 a2 t322 t323 t324 t325 t326 t327 t328 t329 _ A5.out).mono ?_); rintro e w33 ⟨rfl, hb⟩; refine ⟨_, rfl, ?_⟩; have n0_ := Aside0.mk (blk_below (g := gb321) (o := .cells #[.int .i64 0, .int .i64 0, .int .u8 0, .int .u8 0, .int .u8 0, .int .u8 0, .int .u8 0, .int .i64 0, .int .i64 0, .int .u8 0, .int .u8 0, .int .u8 0, .int .u8 0, .int .u8 0] 164 (0, 0)) (by (with_reducible repeat (first | refine blk_drewN ?_ _ | refine blk_drew ?_ | refine blk_alloc ?_ _)); exact BK321.out) hb); have n1_ := Aside0.mk (below_step (by repeat (first | (with_reducible first | exact HB.out | apply below_alloc | apply pw_below_drewN | apply below_drew1 | refine below_set ?_ GE321.out) | exact HB.out)) hb); clear BK321; clear HB; have BK321 := n0_; have HB := n1_; clear n0_ n1_; (try clear hb); (try clear hb2); (try clear hk); (try clear hi)) | ((with_reducible refine gate_dst (N := 10) rfl ?_); refine box_event ?hg (N := 10) ?hd (cs := #[.int .i64 0, .int .i64 0, .int .u8 0, .int .u8 0, .int .u8 0, .int .u8 0, .int .u8 0]) (t := 163) ?hr ?_; (case hd => rfl); (case hg => rfl); (case hr => first | (go_simp; done) | (go_simp; rfl)); intro gb330 hg w34 hbox hb; have n0_ := Aside0.mk (blk_below (g := gb321) (o := .cells #[.int .i64 0, .int .i64 0, .int .u8 0, .int .u8 0, .int .u8 0, .int .u8 0, .int .u8 0, .int .i64 0, .int .i64 0, .int .u8 0, .int .u8 0, .int .u8 0, .int .u8 0, .int .u8 0] 164 (0, 0)) (by (with_reducible repeat (first | refine blk_drewN ?_ _ | refine blk_drew ?_ | refine blk_alloc ?_ _)); exact BK321.out) hb); have n1_ := Aside0.mk (below_step (by repeat (first | (with_reducible first | exact HB.out | apply below_alloc | apply pw_below_drewN | apply below_drew1 | refine below_set ?_ GE321.out) | exact HB.out)) hb); have n2_ := Aside0.mk (hbox); have n3_ := Aside0.mk ((by rw [hg]; exact (below_size (by repeat (first | (with_reducible first | exact HB.out | apply below_alloc | apply pw_below_drewN | apply below_drew1 | refine below_set ?_ GE321.out) | exact HB.out))) : w.heap.size ≤ gb330)); have n4_ := Aside0.mk ((by rw [hg]; exact (below_size (by repeat (first | (with_reducible first | exact HB.out | apply below_alloc | apply pw_below_drewN | apply below_drew1 | refine below_set ?_ GE321.out) | exact HB.out))) : w.heap.size ≤ gb330)); have n5_ := Aside0.mk ((by rw [hg]; exact Nat.ne_of_lt (blk_lt (g := gb321) (o := .cells #[.int .i64 0, .int .i64 0, .int .u8 0, .int .u8 0, .int .u8 0, .int .u8 0, .int .u8 0, .int .i64 0, .int .i64 0, .int .u8 0, .int .u8 0, .int .u8 0, .int .u8 0, .int .u8 0] 164 (0, 0)) (by (with_reducible repeat (first | refine blk_drewN ?_ _ | refine blk_drew ?_ | refine blk_alloc ?_ _)); exact BK321.out)) : gb321 ≠ gb330)); have n6_ := Aside0.mk ((by rw [hg]; exact Nat.ne_of_gt (blk_lt (g := gb321) (o := .cells #[.int .i64 0, .int .i64 0, .int .u8 0, .int .u8 0, .int .u8 0, .int .u8 0, .int .u8 0, .int .i64 0, .int .i64 0, .int .u8 0, .int .u8 0, .int .u8 0, .int .u8 0, .int .u8 0] 164 (0, 0)) (by (with_reducible repeat (first | refine blk_drewN ?_ _ | refine blk_drew ?_ | refine blk_alloc ?_ _)); exact BK321.out)) : gb330 ≠ gb321)); clear BK321; clear HB; have BK321 := n0_; have HB := n1_; have BK330 := n2_; have GW330 := n3_; have GE330 := n4_; have NB321_330 := n5_; have NB330_321 := n6_; clear n0_ n1_ n2_ n3_ n4_ n5_ n6_; clear hb hbox hg; have hnb35 := NB330_321.out; have hnc35 := NB321_330.out; have hcz36_0 : w34.cell? ⟨gb330, 0, none⟩ = some (.int .i64 0) := (blk_cell BK330.out 0).trans rfl; have hcz36_1 : w34.cell? ⟨gb330, 1, none⟩ = some (.int .i64 0) := (blk_cell BK330.out 1).trans rfl; have hcz36_2 : w34.cell? ⟨gb330, 2, none⟩ = some (.int .u8 0) := (blk_cell BK330.out 2).trans rfl; have hcz36_3 : w34.cell? ⟨gb330, 3, none⟩ = some (.int .u8 0) := (blk_cell BK330.out 3).trans rfl; have hcz36_4 : w34.cell? ⟨gb330, 4, none⟩ = some (.int .u8 0) := (blk_cell BK330.out 4).trans rfl; have hcz36_5 : w34.cell? ⟨gb330, 5, none⟩ = some (.int .u8 0) := (blk_cell BK330.out 5).trans rfl; have hcz36_6 : w34.cell? ⟨gb330, 6, none⟩ = some (.int .u8 0) := (blk_cell BK330.out 6).trans rfl; have hfz36_0 := blk_frozen BK330.out 0; have hfz36_1 := blk_frozen BK330.out 1; have hfz36_2 := blk_frozen BK330.out 2; have hfz36_3 := blk_frozen BK330.out 3; have hfz36_4 := blk_frozen BK330.out 4; have hfz36_5 := blk_frozen BK330.out 5; have hfz36_6 := blk_frozen BK330.out 6; have hcz37_0 : w34.cell? ⟨gb321, 0, none⟩ = some (.int .i64 0) := (blk_cell BK321.out 0).trans rfl; have hcz37_1 : w34.cell? ⟨gb321, 1, none⟩ = some (.int .i64 0) := (blk_cell BK321.out 1).trans rfl; have hcz37_2 : w34.cell? ⟨gb321, 2, none⟩ = some (.int .u8 0) := (blk_cell BK321.out 2).trans rfl; have hcz37_3 : w34.cell? ⟨gb321, 3, none⟩ = some (.int .u8 0) := (blk_cell BK321.out 3).trans rfl; have hcz37_4 : w34.cell? ⟨gb321, 4, none⟩ = some (.int .u8 0) := (blk_cell BK321.out 4).trans rfl; have hcz37_5 : w34.cell? ⟨gb321, 5, none⟩ = some (.int .u8 0) := (blk_cell BK321.out 5).trans rfl; have hcz37_6 : w34.cell? ⟨gb321, 6, none⟩ = some (.int .u8 0) := (blk_cell BK321.out 6).trans rfl; have hcz37_7 : w34.cell? ⟨gb321, 7, none⟩ = some (.int .i64 0) := (blk_cell BK321.out 7).trans rfl; have hcz37_8 : w34.cell? ⟨gb321, 8, none⟩ = some (.int .i64 0) := (blk_cell BK321.out 8).trans rfl; have hcz37_9 : w34.cell? ⟨gb321, 9, none⟩ = some (.int .u8 0) := (blk_cell BK321.out 9).trans rfl; have hcz37_10 : w34.cell? ⟨gb321, 10, none⟩ = some (.int .u8 0) := (blk_cell BK321.out 10).trans rfl; have hcz37_11 : w34.cell? ⟨gb321, 11, none⟩ = some (.int .u8 0) := (blk_cell BK321.out 11).trans rfl; have hcz37_12 : w34.cell? ⟨gb321, 12, none⟩ = some (.int .u8 0) := (blk_cell BK321.out 12).trans rfl; have hcz37_13 : w34.cell? ⟨gb321, 13, none⟩ = some (.int .u8 0) := (blk_cell BK321.out 13).trans rfl; have hfz37_0 := blk_frozen BK321.out 0; have hfz37_1 := blk_frozen BK321.out 1; have hfz37_2 := blk_frozen BK321.out 2; have hfz37_3 := blk_frozen BK321.out 3; have hfz37_4 := blk_frozen BK321.out 4; have hfz37_5 := blk_frozen BK321.out 5; have hfz37_6 := blk_frozen BK321.out 6; have hfz37_7 := blk_frozen BK321.out 7; have hfz37_8 := blk_frozen BK321.out 8; have hfz37_9 := blk_frozen BK321.out 9; have hfz37_10 := blk_frozen BK321.out 10; have hfz37_11 := blk_frozen BK321.out 11; have hfz37_12 := blk_frozen BK321.out 12; have hfz37_13 := blk_frozen BK321.out 13))
    refine bodyPost_ret (results_ct rfl _ _ gb321 164 #[.int .i64 0, .int .i64 0, .int .u8 0, .int .u8 0, .int .u8 0, .int .u8 0, .int .u8 0, .int .i64 0, .int .i64 0, .int .u8 0, .int .u8 0, .int .u8 0, .int .u8 0, .int .u8 0] (0, 0) _ rfl (by (with_reducible repeat (first | refine blk_drewN ?_ _ | refine blk_drew ?_ | refine blk_alloc ?_ _)); refine blk_put (cs := #[.int .i64 0, .int .i64 0, .int .u8 0, .int .u8 0, .int .u8 0, .int .u8 0, .int .u8 0, .int .i64 0, .int .i64 0, .int .u8 0, .int .u8 0, .int .u8 0, .int .u8 0, .int .u8 0]) ?_ 13 _ rfl; (with_reducible repeat (first | refine blk_drewN ?_ _ | refine blk_drew ?_ | refine blk_alloc ?_ _)); refine blk_put (cs := #[.int .i64 0, .int .i64 0, .int .u8 0, .int .u8 0, .int .u8 0, .int .u8 0, .int .u8 0, .int .i64 0, .int .i64 0, .int .u8 0, .int .u8 0, .int .u8 0, .int .u8 0, .int .u8 0]) ?_ 12 _ rfl; (with_reducible repeat (first | refine blk_drewN ?_ _ | refine blk_drew ?_ | refine blk_alloc ?_ _)); refine blk_put (cs := #[.int .i64 0, .int .i64 0, .int .u8 0, .int .u8 0, .int .u8 0, .int .u8 0, .int .u8 0, .int .i64 0, .int .i64 0, .int .u8 0, .int .u8 0, .int .u8 0, .int .u8 0, .int .u8 0]) ?_ 11 _ rfl; (with_reducible repeat (first | refine blk_drewN ?_ _ | refine blk_drew ?_ | refine blk_alloc ?_ _)); refine blk_put (cs := #[.int .i64 0, .int .i64 0, .int .u8 0, .int .u8 0, .int .u8 0, .int .u8 0, .int .u8 0, .int .i64 0, .int .i64 0, .int .u8 0, .int .u8 0, .int .u8 0, .int .u8 0, .int .u8 0]) ?_ 10 _ rfl; (with_reducible repeat (first | refine blk_drewN ?_ _ | refine blk_drew ?_ | refine blk_alloc ?_ _)); refine blk_put (cs := #[.int .i64 0, .int .i64 0, .int .u8 0, .int .u8 0, .int .u8 0, .int .u8 0, .int .u8 0, .int .i64 0, .int .i64 0, .int .u8 0, .int .u8 0, .int .u8 0, .int .u8 0, .int .u8 0]) ?_ 9 _ rfl; (with_reducible repeat (first | refine blk_drewN ?_ _ | refine blk_drew ?_ | refine blk_alloc ?_ _)); refine blk_put (cs := #[.int .i64 0, .int .i64 0, .int .u8 0, .int .u8 0, .int .u8 0, .int .u8 0, .int .u8 0, .int .i64 0, .int .i64 0, .int .u8 0, .int .u8 0, .int .u8 0, .int .u8 0, .int .u8 0]) ?_ 8 _ rfl; (with_reducible repeat (first | refine blk_drewN ?_ _ | refine blk_drew ?_ | refine blk_alloc ?_ _)); refine blk_put (cs := #[.int .i64 0, .int .i64 0, .int .u8 0, .int .u8 0, .int .u8 0, .int .u8 0, .int .u8 0, .int .i64 0, .int .i64 0, .int .u8 0, .int .u8 0, .int .u8 0, .int .u8 0, .int .u8 0]) ?_ 7 _ rfl; (with_reducible repeat (first | refine blk_drewN ?_ _ | refine blk_drew ?_ | refine blk_alloc ?_ _)); refine blk_put (cs := #[.int .i64 0, .int .i64 0, .int .u8 0, .int .u8 0, .int .u8 0, .int .u8 0, .int .u8 0, .int .i64 0, .int .i64 0, .int .u8 0, .int .u8 0, .int .u8 0, .int .u8 0, .int .u8 0]) ?_ 6 _ rfl; (with_reducible repeat (first | refine blk_drewN ?_ _ | refine blk_drew ?_ | refine blk_alloc ?_ _)); refine blk_put (cs := #[.int .i64 0, .int .i64 0, .int .u8 0, .int .u8 0, .int .u8 0, .int .u8 0, .int .u8 0, .int .i64 0, .int .i64 0, .int .u8 0, .int .u8 0, .int .u8 0, .int .u8 0, .int .u8 0]) ?_ 5 _ rfl; (with_reducible repeat (first | refine blk_drewN ?_ _ | refine blk_drew ?_ | refine blk_alloc ?_ _)); refine blk_put (cs := #[.int .i64 0, .int .i64 0, .int .u8 0, .int .u8 0, .int .u8 0, .int .u8 0, .int .u8 0, .int .i64 0, .int .i64 0, .int .u8 0, .int .u8 0, .int .u8 0, .int .u8 0, .int .u8 0]) ?_ 4 _ rfl; (with_reducible repeat (first | refine blk_drewN ?_ _ | refine blk_drew ?_ | refine blk_alloc ?_ _)); refine blk_put (cs := #[.int .i64 0, .int .i64 0, .int .u8 0, .int .u8 0, .int .u8 0, .int .u8 0, .int .u8 0, .int .i64 0, .int .i64 0, .int .u8 0, .int .u8 0, .int .u8 0, .int .u8 0, .int .u8 0]) ?_ 3 _ rfl; (with_reducible repeat (first | refine blk_drewN ?_ _ | refine blk_drew ?_ | refine blk_alloc ?_ _)); refine blk_put (cs := #[.int .i64 0, .int .i64 0, .int .u8 0, .int .u8 0, .int .u8 0, .int .u8 0, .int .u8 0, .int .i64 0, .int .i64 0, .int .u8 0, .int .u8 0, .int .u8 0, .int .u8 0, .int .u8 0]) ?_ 2 _ rfl; (with_reducible repeat (first | refine blk_drewN ?_ _ | refine blk_drew ?_ | refine blk_alloc ?_ _)); refine blk_put (cs := #[.int .i64 0, .int .i64 0, .int .u8 0, .int .u8 0, .int .u8 0, .int .u8 0, .int .u8 0, .int .i64 0, .int .i64 0, .int .u8 0, .int .u8 0, .int .u8 0, .int .u8 0, .int .u8 0]) ?_ 1 _ rfl; (with_reducible repeat (first | refine blk_drewN ?_ _ | refine blk_drew ?_ | refine blk_alloc ?_ _)); refine blk_put (cs := #[.int .i64 0, .int .i64 0, .int .u8 0, .int .u8 0, .int .u8 0, .int .u8 0, .int .u8 0, .int .i64 0, .int .i64 0, .int .u8 0, .int .u8 0, .int .u8 0, .int .u8 0, .int .u8 0]) ?_ 0 _ rfl; (with_reducible repeat (first | refine blk_drewN ?_ _ | refine blk_drew ?_ | refine blk_alloc ?_ _)); refine blk_far ?_ NB321_330.out _; (with_reducible repeat (first | refine blk_drewN ?_ _ | refine blk_drew ?_ | refine blk_alloc ?_ _)); refine blk_far ?_ NB321_330.out _; (with_reducible repeat (first | refine blk_drewN ?_ _ | refine blk_drew ?_ | refine blk_alloc ?_ _)); refine blk_far ?_ NB321_330.out _; (with_reducible repeat (first | refine blk_drewN ?_ _ | refine blk_drew ?_ | refine blk_alloc ?_ _)); refine blk_far ?_ NB321_330.out _; (with_reducible repeat (first | refine blk_drewN ?_ _ | refine blk_drew ?_ | refine blk_alloc ?_ _)); refine blk_far ?_ NB321_330.out _; (with_reducible repeat (first | refine blk_drewN ?_ _ | refine blk_drew ?_ | refine blk_alloc ?_ _)); refine blk_far ?_ NB321_330.out _; (with_reducible repeat (first | refine blk_drewN ?_ _ | refine blk_drew ?_ | refine blk_alloc ?_ _)); refine blk_far ?_ NB321_330.out _; (with_reducible repeat (first | refine blk_drewN ?_ _ | refine blk_drew ?_ | refine blk_alloc ?_ _)); exact BK321.out) Tryz.underlying164 rfl (by kernel_rfl)) rfl ?_
    exact ⟨by first | rfl | (simp [errW_none, errW_some] <;> rfl) | (simp [*, errW_none, errW_some] <;> rfl), by repeat (first | (with_reducible first | exact HB.out | apply below_alloc | apply pw_below_drewN | apply below_drew1 | refine below_set ?_ GE321.out | refine below_set ?_ GE330.out) | exact HB.out)⟩
end
-- YtknanbnjbilciaaGreatDoorP113
section
attribute [local go_sem] max2_int min2_int max_two min_two max_three min_three max_four min_four
set_option linter.unusedVariables false
set_option linter.unusedSimpArgs false

/-! ### trellis_From: function 108 -/
def trellis_From.f (a0 : Int) : Option (Int × Int × Int × Int × Int × Int × Int × Int × Int × Int × Int × Int × Int × Int × Int) := (trellis_two.f a0 a0 0 1).bind fun bt341 => (some (bt341.1, bt341.2.1, bt341.2.2.1, bt341.2.2.2.1, bt341.2.2.2.2.1, bt341.2.2.2.2.2.1, bt341.2.2.2.2.2.2.1, bt341.2.2.2.2.2.2.2.1, bt341.2.2.2.2.2.2.2.2.1, bt341.2.2.2.2.2.2.2.2.2.1, bt341.2.2.2.2.2.2.2.2.2.2.1, bt341.2.2.2.2.2.2.2.2.2.2.2.1, bt341.2.2.2.2.2.2.2.2.2.2.2.2.1, bt341.2.2.2.2.2.2.2.2.2.2.2.2.2.1, bt341.2.2.2.2.2.2.2.2.2.2.2.2.2.2))
set_option maxHeartbeats 8000000 in
set_option maxRecDepth 100000 in
theorem trellis_From.calls (a0 : Int) (r1 : Int) (r2 : Int) (r3 : Int) (r4 : Int) (r5 : Int) (r6 : Int) (r7 : Int) (r8 : Int) (r9 : Int) (r10 : Int) (r11 : Int) (r12 : Int) (r13 : Int) (r14 : Int) (r15 : Int) (w : World) (h : trellis_From.f a0 = some (r1, r2, r3, r4, r5, r6, r7, r8, r9, r10, r11, r12, r13, r14, r15)) (hT_ : TP w := by first | assumption | exact TP_of (by assumption : TP _) (by repeat (first | (with_reducible first | apply below_alloc | apply pw_below_drewN | apply below_drew1 | refine below_set ?_ (Aside0.out (by assumption))) | exact Aside0.out (by assumption) | exact Below.refl _ _))) :
    Calls Tryz.prog 108 #[.int .i64 a0] w fun e w' => e = .returned (.tuple #[.agg #[.int .i64 r1, .int .i64 r2, .int .u8 r3, .int .u8 r4, .int .u8 r5, .int .u8 r6, .int .u8 r7, .int .i64 r8, .int .i64 r9, .int .u8 r10, .int .u8 r11, .int .u8 r12, .int .u8 r13, .int .u8 r14], .int .i64 r15]) ∧ Below w.heap.size w w' := by
  have hu164 := Tryz.underlying164
  have HB := Aside0.mk (Below.refl w.heap.size w)
  have H : ((trellis_two.f a0 a0 0 1).bind fun bt341 => (some (bt341.1, bt341.2.1, bt341.2.2.1, bt341.2.2.2.1, bt341.2.2.2.2.1, bt341.2.2.2.2.2.1, bt341.2.2.2.2.2.2.1, bt341.2.2.2.2.2.2.2.1, bt341.2.2.2.2.2.2.2.2.1, bt341.2.2.2.2.2.2.2.2.2.1, bt341.2.2.2.2.2.2.2.2.2.2.1, bt341.2.2.2.2.2.2.2.2.2.2.2.1, bt341.2.2.2.2.2.2.2.2.2.2.2.2.1, bt341.2.2.2.2.2.2.2.2.2.2.2.2.2.1, bt341.2.2.2.2.2.2.2.2.2.2.2.2.2.2))) = some (r1, r2, r3, r4, r5, r6, r7, r8, r9, r10, r11, r12, r13, r14, r15) := h
  clear h
  replace H := Option.bind_eq_some_iff.mp H
  obtain ⟨⟨t341, t342, t343, t344, t345, t346, t347, t348, t349, t350, t351, t352, t353, t354, t355⟩, A20, H⟩ := H
  replace H : (some (t341, t342, t343, t344, t345, t346, t347, t348, t349, t350, t351, t352, t353, t354, t355)) = some (r1, r2, r3, r4, r5, r6, r7, r8, r9, r10, r11, r12, r13, r14, r15) := H
  have A2 := Aside0.mk A20
  clear A20
  simp only [Option.some.injEq, Prod.mk.injEq] at H
  obtain ⟨rfl, rfl, rfl, rfl, rfl, rfl, rfl, rfl, rfl, rfl, rfl, rfl, rfl, rfl, rfl⟩ := H
  go_enter Tryz.func108, Tryz.ntmps108
  go_wp2_with (first | ((with_reducible refine gate_dst (N := 2) rfl ?_); refine box_event ?hg (N := 2) ?hd (cs := #[.int .i64 0, .int .i64 0, .int .u8 0, .int .u8 0, .int .u8 0, .int .u8 0, .int .u8 0, .int .i64 0, .int .i64 0, .int .u8 0, .int .u8 0, .int .u8 0, .int .u8 0, .int .u8 0]) (t := 164) ?hr ?_; (case hd => rfl); (case hg => rfl); (case hr => first | (go_simp; done) | (go_simp; rfl)); intro gb340 hg w3 hbox hb; have n0_ := Aside0.mk (below_step (by repeat (first | (with_reducible first | exact HB.out | apply below_alloc | apply pw_below_drewN | apply below_drew1) | exact HB.out)) hb); have n1_ := Aside0.mk (hbox); have n2_ := Aside0.mk ((by rw [hg]; exact (below_size (by repeat (first | (with_reducible first | exact HB.out | apply below_alloc | apply pw_below_drewN | apply below_drew1) | exact HB.out))) : w.heap.size ≤ gb340)); have n3_ := Aside0.mk ((by rw [hg]; exact (below_size (by repeat (first | (with_reducible first | exact HB.out | apply below_alloc | apply pw_below_drewN | apply below_drew1) | exact HB.out))) : w.heap.size ≤ gb340)); clear HB; have HB := n0_; have BK340 := n1_; have GW340 := n2_; have GE340 := n3_; clear n0_ n1_ n2_ n3_; clear hb hbox hg) | ((with_reducible refine gate_callee (f := 115) rfl ?_); refine goesL_ (some 6) rfl rfl Tryz.func115 (by kernel_rfl) rfl #[.int .i64 a0, .int .i64 a0, .int .u8 0, .int .u8 1] rfl (by (try simp only [List.map_toArray, List.map_cons, List.map_nil]); first | done | rfl | (simp only [List.length_drop, List.length_take]; rfl)) ?_; (with_reducible refine (trellis_two.calls a0 a0 0 1 t341 t342 t343 t344 t345 t346 t347 t348 t349 t350 t351 t352 t353 t354 t355 _ A2.out).mono ?_); rintro e w4 ⟨rfl, hb⟩; refine ⟨_, rfl, ?_⟩; have n0_ := Aside0.mk (blk_below (g := gb340) (o := .cells #[.int .i64 0, .int .i64 0, .int .u8 0, .int .u8 0, .int .u8 0, .int .u8 0, .int .u8 0, .int .i64 0, .int .i64 0, .int .u8 0, .int .u8 0, .int .u8 0, .int .u8 0, .int .u8 0] 164 (0, 0)) (by (with_reducible repeat (first | refine blk_drewN ?_ _ | refine blk_drew ?_ | refine blk_alloc ?_ _)); exact BK340.out) hb); have n1_ := Aside0.mk (below_step (by repeat (first | (with_reducible first | exact HB.out | apply below_alloc | apply pw_below_drewN | apply below_drew1 | refine below_set ?_ GE340.out) | exact HB.out)) hb); clear BK340; clear HB; have BK340 := n0_; have HB := n1_; clear n0_ n1_; (try clear hb); (try clear hb2); (try clear hk); (try clear hi); have hcz5_0 : w4.cell? ⟨gb340, 0, none⟩ = some (.int .i64 0) := (blk_cell BK340.out 0).trans rfl; have hcz5_1 : w4.cell? ⟨gb340, 1, none⟩ = some (.int .i64 0) := (blk_cell BK340.out 1).trans rfl; have hcz5_2 : w4.cell? ⟨gb340, 2, none⟩ = some (.int .u8 0) := (blk_cell BK340.out 2).trans rfl; have hcz5_3 : w4.cell? ⟨gb340, 3, none⟩ = some (.int .u8 0) := (blk_cell BK340.out 3).trans rfl; have hcz5_4 : w4.cell? ⟨gb340, 4, none⟩ = some (.int .u8 0) := (blk_cell BK340.out 4).trans rfl; have hcz5_5 : w4.cell? ⟨gb340, 5, none⟩ = some (.int .u8 0) := (blk_cell BK340.out 5).trans rfl; have hcz5_6 : w4.cell? ⟨gb340, 6, none⟩ = some (.int .u8 0) := (blk_cell BK340.out 6).trans rfl; have hcz5_7 : w4.cell? ⟨gb340, 7, none⟩ = some (.int .i64 0) := (blk_cell BK340.out 7).trans rfl; have hcz5_8 : w4.cell? ⟨gb340, 8, none⟩ = some (.int .i64 0) := (blk_cell BK340.out 8).trans rfl; have hcz5_9 : w4.cell? ⟨gb340, 9, none⟩ = some (.int .u8 0) := (blk_cell BK340.out 9).trans rfl; have hcz5_10 : w4.cell? ⟨gb340, 10, none⟩ = some (.int .u8 0) := (blk_cell BK340.out 10).trans rfl; have hcz5_11 : w4.cell? ⟨gb340, 11, none⟩ = some (.int .u8 0) := (blk_cell BK340.out 11).trans rfl; have hcz5_12 : w4.cell? ⟨gb340, 12, none⟩ = some (.int .u8 0) := (blk_cell BK340.out 12).trans rfl; have hcz5_13 : w4.cell? ⟨gb340, 13, none⟩ = some (.int .u8 0) := (blk_cell BK340.out 13).trans rfl; have hfz5_0 := blk_frozen BK340.out 0; have hfz5_1 := blk_frozen BK340.out 1; have hfz5_2 := blk_frozen BK340.out 2; have hfz5_3 := blk_frozen BK340.out 3; have hfz5_4 := blk_frozen BK340.out 4; have hfz5_5 := blk_frozen BK340.out 5; have hfz5_6 := blk_frozen BK340.out 6; have hfz5_7 := blk_frozen BK340.out 7; have hfz5_8 := blk_frozen BK340.out 8; have hfz5_9 := blk_frozen BK340.out 9; have hfz5_10 := blk_frozen BK340.out 10; have hfz5_11 := blk_frozen BK340.out 11; have hfz5_12 := blk_frozen BK340.out 12; have hfz5_13 := blk_frozen BK340.out 13))
  refine bodyPost_ret (results_ct rfl _ _ gb340 164 #[.int .i64 t341, .int .i64 t342, .int .u8 t343, .int .u8 t344, .int .u8 t345, .int .u8 t346, .int .u8 t347, .int .i64 t348, .int .i64 t349, .int .u8 t350, .int .u8 t351, .int .u8 t352, .int .u8 t353, .int .u8 t354] (0, 0) _ rfl (by (with_reducible repeat (first | refine blk_drewN ?_ _ | refine blk_drew ?_ | refine blk_alloc ?_ _)); refine blk_put (cs := #[.int .i64 t341, .int .i64 t342, .int .u8 t343, .int .u8 t344, .int .u8 t345, .int .u8 t346, .int .u8 t347, .int .i64 t348, .int .i64 t349, .int .u8 t350, .int .u8 t351, .int .u8 t352, .int .u8 t353, .int .u8 0]) ?_ 13 _ rfl; (with_reducible repeat (first | refine blk_drewN ?_ _ | refine blk_drew ?_ | refine blk_alloc ?_ _)); refine blk_put (cs := #[.int .i64 t341, .int .i64 t342, .int .u8 t343, .int .u8 t344, .int .u8 t345, .int .u8 t346, .int .u8 t347, .int .i64 t348, .int .i64 t349, .int .u8 t350, .int .u8 t351, .int .u8 t352, .int .u8 0, .int .u8 0]) ?_ 12 _ rfl; (with_reducible repeat (first | refine blk_drewN ?_ _ | refine blk_drew ?_ | refine blk_alloc ?_ _)); refine blk_put (cs := #[.int .i64 t341, .int .i64 t342, .int .u8 t343, .int .u8 t344, .int .u8 t345, .int .u8 t346, .int .u8 t347, .int .i64 t348, .int .i64 t349, .int .u8 t350, .int .u8 t351, .int .u8 0, .int .u8 0, .int .u8 0]) ?_ 11 _ rfl; (with_reducible repeat (first | refine blk_drewN ?_ _ | refine blk_drew ?_ | refine blk_alloc ?_ _)); refine blk_put (cs := #[.int .i64 t341, .int .i64 t342, .int .u8 t343, .int .u8 t344, .int .u8 t345, .int .u8 t346, .int .u8 t347, .int .i64 t348, .int .i64 t349, .int .u8 t350, .int .u8 0, .int .u8 0, .int .u8 0, .int .u8 0]) ?_ 10 _ rfl; (with_reducible repeat (first | refine blk_drewN ?_ _ | refine blk_drew ?_ | refine blk_alloc ?_ _)); refine blk_put (cs := #[.int .i64 t341, .int .i64 t342, .int .u8 t343, .int .u8 t344, .int .u8 t345, .int .u8 t346, .int .u8 t347, .int .i64 t348, .int .i64 t349, .int .u8 0, .int .u8 0, .int .u8 0, .int .u8 0, .int .u8 0]) ?_ 9 _ rfl; (with_reducible repeat (first | refine blk_drewN ?_ _ | refine blk_drew ?_ | refine blk_alloc ?_ _)); refine blk_put (cs := #[.int .i64 t341, .int .i64 t342, .int .u8 t343, .int .u8 t344, .int .u8 t345, .int .u8 t346, .int .u8 t347, .int .i64 t348, .int .i64 0, .int .u8 0, .int .u8 0, .int .u8 0, .int .u8 0, .int .u8 0]) ?_ 8 _ rfl; (with_reducible repeat (first | refine blk_drewN ?_ _ | refine blk_drew ?_ | refine blk_alloc ?_ _)); refine blk_put (cs := #[.int .i64 t341, .int .i64 t342, .int .u8 t343, .int .u8 t344, .int .u8 t345, .int .u8 t346, .int .u8 t347, .int .i64 0, .int .i64 0, .int .u8 0, .int .u8 0, .int .u8 0, .int .u8 0, .int .u8 0]) ?_ 7 _ rfl; (with_reducible repeat (first | refine blk_drewN ?_ _ | refine blk_drew ?_ | refine blk_alloc ?_ _)); refine blk_put (cs := #[.int .i64 t341, .int .i64 t342, .int .u8 t343, .int .u8 t344, .int .u8 t345, .int .u8 t346, .int .u8 0, .int .i64 0, .int .i64 0, .int .u8 0, .int .u8 0, .int .u8 0, .int .u8 0, .int .u8 0]) ?_ 6 _ rfl; (with_reducible repeat (first | refine blk_drewN ?_ _ | refine blk_drew ?_ | refine blk_alloc ?_ _)); refine blk_put (cs := #[.int .i64 t341, .int .i64 t342, .int .u8 t343, .int .u8 t344, .int .u8 t345, .int .u8 0, .int .u8 0, .int .i64 0, .int .i64 0, .int .u8 0, .int .u8 0, .int .u8 0, .int .u8 0, .int .u8 0]) ?_ 5 _ rfl; (with_reducible repeat (first | refine blk_drewN ?_ _ | refine blk_drew ?_ | refine blk_alloc ?_ _)); refine blk_put (cs := #[.int .i64 t341, .int .i64 t342, .int .u8 t343, .int .u8 t344, .int .u8 0, .int .u8 0, .int .u8 0, .int .i64 0, .int .i64 0, .int .u8 0, .int .u8 0, .int .u8 0, .int .u8 0, .int .u8 0]) ?_ 4 _ rfl; (with_reducible repeat (first | refine blk_drewN ?_ _ | refine blk_drew ?_ | refine blk_alloc ?_ _)); refine blk_put (cs := #[.int .i64 t341, .int .i64 t342, .int .u8 t343, .int .u8 0, .int .u8 0, .int .u8 0, .int .u8 0, .int .i64 0, .int .i64 0, .int .u8 0, .int .u8 0, .int .u8 0, .int .u8 0, .int .u8 0]) ?_ 3 _ rfl; (with_reducible repeat (first | refine blk_drewN ?_ _ | refine blk_drew ?_ | refine blk_alloc ?_ _)); refine blk_put (cs := #[.int .i64 t341, .int .i64 t342, .int .u8 0, .int .u8 0, .int .u8 0, .int .u8 0, .int .u8 0, .int .i64 0, .int .i64 0, .int .u8 0, .int .u8 0, .int .u8 0, .int .u8 0, .int .u8 0]) ?_ 2 _ rfl; (with_reducible repeat (first | refine blk_drewN ?_ _ | refine blk_drew ?_ | refine blk_alloc ?_ _)); refine blk_put (cs := #[.int .i64 t341, .int .i64 0, .int .u8 0, .int .u8 0, .int .u8 0, .int .u8 0, .int .u8 0, .int .i64 0, .int .i64 0, .int .u8 0, .int .u8 0, .int .u8 0, .int .u8 0, .int .u8 0]) ?_ 1 _ rfl; (with_reducible repeat (first | refine blk_drewN ?_ _ | refine blk_drew ?_ | refine blk_alloc ?_ _)); refine blk_put (cs := #[.int .i64 0, .int .i64 0, .int .u8 0, .int .u8 0, .int .u8 0, .int .u8 0, .int .u8 0, .int .i64 0, .int .i64 0, .int .u8 0, .int .u8 0, .int .u8 0, .int .u8 0, .int .u8 0]) ?_ 0 _ rfl; (with_reducible repeat (first | refine blk_drewN ?_ _ | refine blk_drew ?_ | refine blk_alloc ?_ _)); exact BK340.out) Tryz.underlying164 rfl (by kernel_rfl)) rfl ?_
  exact ⟨by first | rfl | (simp [errW_none, errW_some] <;> rfl) | (simp [*, errW_none, errW_some] <;> rfl), by repeat (first | (with_reducible first | exact HB.out | apply below_alloc | apply pw_below_drewN | apply below_drew1 | refine below_set ?_ GE340.out) | exact HB.out)⟩
end
-- YtknanbnjbilciaaGreatDoorP21
section
attribute [local go_sem] max2_int min2_int max_two min_two max_three min_three max_four min_four
set_option linter.unusedVariables false
set_option linter.unusedSimpArgs false

/-! ### pattern_one: function 86 -/
def pattern_one.f (a0 : Int) (a1 : Int) : Option (Bool) := if a0 ≥ 0 then (if a0 < 4 then (some (decide (a1 ≥ 0))) else (some false)) else (some false)
set_option maxHeartbeats 8000000 in
set_option maxRecDepth 100000 in
theorem pattern_one.calls (a0 : Int) (a1 : Int) (r : Bool) (w : World) (h : pattern_one.f a0 a1 = some r) :
    Calls Tryz.prog 86 #[.int .i64 a0, .int .i64 a1] w fun e w' => e = .returned (.bool r) ∧ Drawn0 w w' := by
  have H : (if a0 ≥ 0 then (if a0 < 4 then (some (decide (a1 ≥ 0))) else (some false)) else (some false)) = some r := h
  clear h
  by_cases c3 : a0 ≥ 0
  · rw [if_pos c3] at H
    have c3b0 : decide (0 ≤ a0) = true := decide_eq_true c3
    clear c3
    by_cases c4 : a0 < 4
    · rw [if_pos c4] at H
      have c4b0 : decide (a0 < 4) = true := decide_eq_true c4
      clear c4
      obtain rfl := Option.some.inj H
      go_enter Tryz.func86, Tryz.ntmps86
      go_wp2
      go_ret
      exact ⟨by first | rfl | (simp; done) | (simp [*]; done), by repeat (first | exact Drawn0.refl _ | apply Drawn0.step)⟩
    · rw [if_neg c4] at H
      have c4b0 : decide (a0 < 4) = false := decide_eq_false c4
      clear c4
      obtain rfl := Option.some.inj H
      go_enter Tryz.func86, Tryz.ntmps86
      go_wp2
      go_ret
      exact ⟨by first | rfl | (simp; done) | (simp [*]; done), by repeat (first | exact Drawn0.refl _ | apply Drawn0.step)⟩
  · rw [if_neg c3] at H
    have c3b0 : decide (0 ≤ a0) = false := decide_eq_false c3
    clear c3
    obtain rfl := Option.some.inj H
    go_enter Tryz.func86, Tryz.ntmps86
    go_wp2
    go_ret
    exact ⟨by first | rfl | (simp; done) | (simp [*]; done), by repeat (first | exact Drawn0.refl _ | apply Drawn0.step)⟩
end
-- YtknanbnjbilciaaGreatDoorP22
section
attribute [local go_sem] max2_int min2_int max_two min_two max_three min_three max_four min_four
set_option linter.unusedVariables false
set_option linter.unusedSimpArgs false

/-! ### pattern_Version: function 68 -/
def pattern_Version.f (a0 : Int) (a1 : Int) : Option (Int × Int) := (pattern_one.f a0 a1).bind fun t153 => (if t153 = true then (some (Int.tmod (wrap64 ((wrap64 (a0 + 4)) - (Int.tmod a1 4))) 4, 0)) else (some (0, 1)))
set_option maxHeartbeats 8000000 in
set_option maxRecDepth 100000 in
theorem pattern_Version.calls (a0 : Int) (a1 : Int) (r1 : Int) (r2 : Int) (w : World) (h : pattern_Version.f a0 a1 = some (r1, r2)) :
    Calls Tryz.prog 68 #[.int .i64 a0, .int .i64 a1] w fun e w' => e = .returned (.tuple #[.int .i64 r1, .int .i64 r2]) ∧ Drawn0 w w' := by
  have H : ((pattern_one.f a0 a1).bind fun t153 => (if t153 = true then (some (Int.tmod (wrap64 ((wrap64 (a0 + 4)) - (Int.tmod a1 4))) 4, 0)) else (some (0, 1)))) = some (r1, r2) := h
  clear h
  replace H := Option.bind_eq_some_iff.mp H
  obtain ⟨t153, A30, H⟩ := H
  replace H : (if t153 = true then (some (Int.tmod (wrap64 ((wrap64 (a0 + 4)) - (Int.tmod a1 4))) 4, 0)) else (some (0, 1))) = some (r1, r2) := H
  have A3 := Aside0.mk A30
  clear A30
  by_cases c4 : t153 = true
  · subst c4
    have H1 : (some (Int.tmod (wrap64 ((wrap64 (a0 + 4)) - (Int.tmod a1 4))) 4, 0)) = some (r1, r2) := by rw [if_pos rfl] at H; exact H
    clear H
    have H := H1
    clear H1
    simp only [Option.some.injEq, Prod.mk.injEq] at H
    obtain ⟨rfl, rfl⟩ := H
    go_enter Tryz.func68, Tryz.ntmps68
    go_wp2_with (first | ((with_reducible refine gate_callee (f := 86) rfl ?_); refine goesL_ (some 8) rfl rfl Tryz.func86 (by kernel_rfl) rfl #[.int .i64 a0, .int .i64 a1] rfl (by (try simp only [List.map_toArray, List.map_cons, List.map_nil]); first | done | rfl | (simp only [List.length_drop, List.length_take]; rfl)) ?_; (with_reducible refine (pattern_one.calls a0 a1 true _ A3.out).mono ?_); rintro e w' ⟨rfl, ⟨nd, rfl⟩⟩; refine ⟨_, rfl, ?_⟩))
    go_ret2
    exact ⟨by first | rfl | (simp; done) | (simp [*]; done), by repeat (first | exact Drawn0.refl _ | apply Drawn0.step)⟩
  · replace c4 := Bool.eq_false_iff.mpr c4
    subst c4
    have H1 : (some (0, 1)) = some (r1, r2) := by rw [if_neg (show ¬ (false = true) by decide)] at H; exact H
    clear H
    have H := H1
    clear H1
    simp only [Option.some.injEq, Prod.mk.injEq] at H
    obtain ⟨rfl, rfl⟩ := H
    go_enter Tryz.func68, Tryz.ntmps68
    go_wp2_with (first | ((with_reducible refine gate_callee (f := 86) rfl ?_); refine goesL_ (some 8) rfl rfl Tryz.func86 (by kernel_rfl) rfl #[.int .i64 a0, .int .i64 a1] rfl (by (try simp only [List.map_toArray, List.map_cons, List.map_nil]); first | done | rfl | (simp only [List.length_drop, List.length_take]; rfl)) ?_; (with_reducible refine (pattern_one.calls a0 a1 false _ A3.out).mono ?_); rintro e w' ⟨rfl, ⟨nd, rfl⟩⟩; refine ⟨_, rfl, ?_⟩))
    go_ret2
    exact ⟨by first | rfl | (simp; done) | (simp [*]; done), by repeat (first | exact Drawn0.refl _ | apply Drawn0.step)⟩
end
end Go.Proofs.YtknanbnjbilciaaGreatDoor.P
namespace Go.Proofs.YtknanbnjbilciaaGreatDoor.P
open Go Go.Proofs Go.RowKit Go.Proofs.YtknanbnjbilciaaGreatDoorW.PrintWords Go.Proofs.YtknanbnjbilciaaGreatDoorW.PrintLast Go.Proofs.YtknanbnjbilciaaGreatDoorW.PrintMore
set_option linter.unusedVariables false
set_option linter.unusedSimpArgs false
-- YtknanbnjbilciaaGreatDoorPMBase
section
section
/-- But for block a nothing has turned. -/
structure Put1 (a : Nat) (w w' : World) : Prop where
  os : w'.os = w.os
  tape : w'.tape = w.tape
  output : w'.output = w.output
  size : w'.heap.size = w.heap.size
  block : ∀ k, k ≠ a → w'.heap[k]? = w.heap[k]?
theorem Put1.refl (a : Nat) (w : World) : Put1 a w w := ⟨rfl, rfl, rfl, rfl, fun _ _ => rfl⟩
theorem Put1.trans {a : Nat} {w w1 w2 : World} (h : Put1 a w w1) (k : Put1 a w1 w2) : Put1 a w w2 :=
  ⟨k.os.trans h.os, k.tape.trans h.tape, k.output.trans h.output, k.size.trans h.size, fun i hi => (k.block i hi).trans (h.block i hi)⟩
theorem Put1.set (a i : Nat) (w : World) (x : Value) : Put1 a w (w.setCell ⟨a, i, none⟩ x) :=
  ⟨rfl, rfl, rfl, by simp, fun k hk => Below.heap_setCell w ⟨a, i, none⟩ x k hk⟩
theorem Put1.below {a B : Nat} {w w' : World} (h : Put1 a w w') (hB : B ≤ a) : Below B w w' := ⟨h.os, h.tape, h.output, Nat.le_of_eq h.size.symm, fun k hk => h.block k (by omega)⟩
end
section
attribute [local go_sem] run_index_arr
/-- In which version a stream stands. -/
def ver (s t : Nat) : Nat := (s + 4 - t % 4) % 4
theorem ver_lt (s t : Nat) : ver s t < 4 := Nat.mod_lt _ (by decide)
theorem version_f (s t : Nat) (hs : s < 4) (ht : t ≤ 100000) : pattern_Version.f (s : Int) (t : Int) = some (((ver s t : Nat) : Int), 0) := by
  unfold pattern_Version.f pattern_one.f
  have h1 : (decide ((s : Int) ≥ 0)) = true := decide_eq_true (by omega)
  have h2 : (decide ((s : Int) < 4)) = true := decide_eq_true (by omega)
  have h3 : (decide ((t : Int) ≥ 0)) = true := decide_eq_true (by omega)
  simp [h1, h2, h3]
  have e : Int.tmod (t : Int) 4 = ((t % 4 : Nat) : Int) := by rw [Int.tmod_eq_emod_of_nonneg (by omega)]; omega
  rw [if_pos (by omega), e]
  have e2 : wrap64 (wrap64 ((s : Int) + 4) - ((t % 4 : Nat) : Int)) = ((s + 4 - t % 4 : Nat) : Int) := by unfold wrap64; omega
  rw [e2, Int.tmod_eq_emod_of_nonneg (by omega)]
  unfold ver
  simp
/-- What some bits weigh, stream by stream. -/
def wsum (W : Nat → Int) (o : Nat → Int) (t : Nat) : Nat → Int
  | 0 => 0
  | j + 1 => wsum W o t j + o j * W (ver j t)
theorem wsum_in {W o : Nat → Int} (hW : ∀ v, v < 4 → 0 ≤ W v ∧ W v ≤ 7) (ho : ∀ s, o s = 0 ∨ o s = 1) (t : Nat) : ∀ j : Nat, 0 ≤ wsum W o t j ∧ wsum W o t j ≤ 7 * (j : Int)
  | 0 => by simp [wsum]
  | j + 1 => by
    have h := wsum_in hW ho t j
    have hv := hW _ (ver_lt j t)
    unfold wsum
    rcases ho j with e | e <;> rw [e] <;> omega
def o4 (a b c d : Int) : Nat → Int
  | 0 => a
  | 1 => b
  | 2 => c
  | _ => d
end
section
def par (n : Nat) : Nat := (n % 2 + n / 2 % 2 + n / 4 % 2 + n / 8 % 2 + n / 16 % 2 + n / 32 % 2 + n / 64 % 2) % 2
def tapN : Nat → Nat
  | 0 => 79
  | 1 => 87
  | 2 => 109
  | _ => 121
/-- What stream j tells of state s and bit i. -/
def ob (s i j : Nat) : Int := (par ((i * 64 + s) &&& tapN j) : Nat)
theorem ob_bit (s i j : Nat) : ob s i j = 0 ∨ ob s i j = 1 := by
  unfold ob par
  generalize (((i * 64 + s) &&& tapN j) % 2 + ((i * 64 + s) &&& tapN j) / 2 % 2 + ((i * 64 + s) &&& tapN j) / 4 % 2 + ((i * 64 + s) &&& tapN j) / 8 % 2 + ((i * 64 + s) &&& tapN j) / 16 % 2 + ((i * 64 + s) &&& tapN j) / 32 % 2 + ((i * 64 + s) &&& tapN j) / 64 % 2) = m
  omega
def outIs (n : Nat) : Bool := decide (conv_out.f (n : Int) = some (ob (n % 64) (n / 64) 0, ob (n % 64) (n / 64) 1, ob (n % 64) (n / 64) 2, ob (n % 64) (n / 64) 3))
theorem out_all : (List.range 128).all outIs = true := by decide +kernel
def wordIs (n : Nat) : Bool := decide (conv_word.f ((n % 64 : Nat) : Int) ((n / 64 : Nat) : Int) = some (n : Int))
theorem word_all : (List.range 128).all wordIs = true := by decide +kernel
theorem edge_f (s i : Nat) (hs : s < 64) (hi : i < 2) : trellis_edge.f (s : Int) (i : Int) = some ((s : Int), ((32 * i + s / 2 : Nat) : Int), (i : Int), ob s i 0, ob s i 1, ob s i 2, ob s i 3, 0) := by
  have hn : 64 * i + s < 128 := by omega
  have e1 := of_decide_eq_true (List.all_eq_true.1 out_all (64 * i + s) (List.mem_range.2 hn))
  have e2 := of_decide_eq_true (List.all_eq_true.1 word_all (64 * i + s) (List.mem_range.2 hn))
  have q1 : (64 * i + s) % 64 = s := by omega
  have q2 : (64 * i + s) / 64 = i := by omega
  rw [q1, q2] at e1 e2
  have e3 : conv_right.f (s : Int) (i : Int) = some true := by
    unfold conv_right.f
    rw [if_pos (by omega), if_pos (by omega), decide_eq_true (by omega)]
  have e4 : wrap64 (((64 * i + s : Nat) : Int) / 2) = ((32 * i + s / 2 : Nat) : Int) := by unfold wrap64; omega
  unfold trellis_edge.f conv_Out.f conv_Next.f
  rw [e3]
  simp only [Option.bind_some, if_true, e2, e1, e4]
theorem from_f (s : Nat) (h : s < 64) : trellis_From.f (s : Int) = some ((s : Int), ((s / 2 : Nat) : Int), 0, ob s 0 0, ob s 0 1, ob s 0 2, ob s 0 3, (s : Int), ((32 + s / 2 : Nat) : Int), 1, ob s 1 0, ob s 1 1, ob s 1 2, ob s 1 3, 0) := by
  have e0 := edge_f s 0 h (by decide)
  have e1 := edge_f s 1 h (by decide)
  have f0 : trellis_edge.f (s : Int) 0 = some ((s : Int), ((s / 2 : Nat) : Int), 0, ob s 0 0, ob s 0 1, ob s 0 2, ob s 0 3, 0) := by
    have q : (32 * 0 + s / 2 : Nat) = s / 2 := by omega
    rw [← q]; exact e0
  have f1 : trellis_edge.f (s : Int) 1 = some ((s : Int), ((32 + s / 2 : Nat) : Int), 1, ob s 1 0, ob s 1 1, ob s 1 2, ob s 1 3, 0) := by
    have q : (32 * 1 + s / 2 : Nat) = 32 + s / 2 := by omega
    rw [← q]; exact e1
  unfold trellis_From.f trellis_two.f
  rw [f0, f1]
  simp only [Option.bind_some, if_true]
theorem o4_ob (s i : Nat) : ∀ j, o4 (ob s i 0) (ob s i 1) (ob s i 2) (ob s i 3) j = 0 ∨ o4 (ob s i 0) (ob s i 1) (ob s i 2) (ob s i 3) j = 1 := by
  intro j
  match j with
  | 0 => exact ob_bit s i 0
  | 1 => exact ob_bit s i 1
  | 2 => exact ob_bit s i 2
  | j + 3 => exact ob_bit s i 3
/-- What the edge of state s and bit i weighs at a step. -/
def ew (W : Nat → Int) (s i t : Nat) : Int := wsum W (o4 (ob s i 0) (ob s i 1) (ob s i 2) (ob s i 3)) t 4
theorem ew_in {W : Nat → Int} (hW : ∀ v, v < 4 → 0 ≤ W v ∧ W v ≤ 7) (s i t : Nat) : 0 ≤ ew W s i t ∧ ew W s i t ≤ 28 := by
  have := wsum_in hW (o4_ob s i) t 4
  unfold ew; omega
end
section
end
section
end
section
/-- Where an edge leads. -/
def dst (s i : Nat) : Nat := 32 * i + s / 2
theorem setCells_blk {b t : Nat} : ∀ (vs : List Value) (o : Nat) (w : World) (C : Array Value), w.heap[b]? = some (.cells C t (0, 0)) →
    ∃ C' : Array Value, (w.setCells b o vs).heap[b]? = some (.cells C' t (0, 0)) ∧ C'.size = C.size ∧ (∀ j, (j < o ∨ o + vs.length ≤ j) → C'[j]? = C[j]?) ∧ (∀ j v, vs[j]? = some v → o + j < C.size → C'[o + j]? = some v)
  | [], o, w, C, h => ⟨C, h, rfl, fun _ _ => rfl, fun j v hv => by simp at hv⟩
  | x :: r, o, w, C, h => by
    obtain ⟨C', h1, h2, h3, h4⟩ := setCells_blk r (o + 1) (w.setCell ⟨b, o, none⟩ x) (C.setIfInBounds o x) (blk_put h o x rfl)
    refine ⟨C', h1, by rw [h2]; simp, fun j hj => ?_, fun j v hv hb => ?_⟩
    · rw [h3 j (by simp only [List.length_cons] at hj; omega), Array.getElem?_setIfInBounds, if_neg (by simp only [List.length_cons] at hj; omega)]
    · cases j with
      | zero =>
        injection hv with hv
        subst hv
        rw [Nat.add_zero, h3 o (by omega), Array.getElem?_setIfInBounds, if_pos rfl, if_pos (by omega)]
      | succ j =>
        have e : o + (j + 1) = o + 1 + j := by omega
        rw [e]
        exact h4 j v hv (by simp; omega)
theorem Put1.cells_ (b : Nat) : ∀ (vs : List Value) (o : Nat) (w : World), Put1 b w (w.setCells b o vs)
  | [], _, w => Put1.refl b w
  | x :: r, o, w => (Put1.set b o w x).trans (Put1.cells_ b r (o + 1) _)
end
section
end
section
end
section
/-- An edge's weight. -/
def en (W : Nat → Int) (s i t : Nat) : Nat := (ew W s i t).toNat
end
section
/-- The step behind a step, modulo four. -/
def nx (t : Nat) : Nat := (t + 1) % 4
theorem nx_lt (t : Nat) : nx t < 4 := Nat.mod_lt _ (by decide)
/-- A way from state 0, by a first edge of bit 1: where it ends, at which step (modulo four), its weight. -/
inductive Way (W : Nat → Int) : Nat → Nat → Nat → Prop
  | first (t : Nat) (h : t < 4) : Way W 32 (nx t) (en W 0 1 t)
  | next (s t x i : Nat) (h : Way W s t x) (hs : s ≠ 0) (hi : i < 2) : Way W (dst s i) (nx t) (x + en W s i t)
/-- The least weight of a detour. -/
def IsLeast (W : Nat → Int) (n : Nat) : Prop := (∃ t, Way W 0 t n) ∧ ∀ t x, Way W 0 t x → n ≤ x
theorem IsLeast.same {W : Nat → Int} {n m : Nat} (h : IsLeast W n) (k : IsLeast W m) : n = m := by
  obtain ⟨t, ht⟩ := h.1
  obtain ⟨u, hu⟩ := k.1
  have h1 := k.2 t n ht
  have h2 := h.2 u m hu
  omega
theorem Way.lt {W : Nat → Int} {s t x : Nat} (h : Way W s t x) : s < 64 ∧ t < 4 := by
  induction h with
  | first t h => exact ⟨by decide, nx_lt t⟩
  | next s t x i h hs hi ih => exact ⟨by unfold dst; omega, nx_lt t⟩
theorem ew_nat {W : Nat → Int} (hW : ∀ v, v < 4 → 0 ≤ W v ∧ W v ≤ 7) (s i t : Nat) : ew W s i t = (en W s i t : Int) := by unfold en; have := (ew_in hW s i t).1; omega
def far : Int := 1073741824
theorem set_getD (L : List Int) (q j : Nat) (v : Int) (hq : q < L.length) : (L.set q v).getD j 0 = if j = q then v else L.getD j 0 := by
  rw [List.getD_eq_getElem?_getD, List.getElem?_set]
  by_cases e : q = j
  · subst e; rw [if_pos rfl, if_pos hq, if_pos rfl]; rfl
  · rw [if_neg e, if_neg (fun h => e h.symm), List.getD_eq_getElem?_getD]
end
end
end Go.Proofs.YtknanbnjbilciaaGreatDoor.P
namespace Go.Proofs.YtknanbnjbilciaaGreatDoor.P
open Go.RowKit Go.Proofs.YtknanbnjbilciaaGreatDoorW.PrintWords Go.Proofs.YtknanbnjbilciaaGreatDoorW.PrintLast Go.Proofs.YtknanbnjbilciaaGreatDoorW.PrintMore
set_option linter.unusedVariables false
-- YtknanbnjbilciaaGreatDoorPPlain
theorem rd_get (l : List Int) (i : Nat) (h : i < l.length) : rd l (i : Int) = l[i] := by
  unfold rd
  simp [List.getD_eq_getElem?_getD, h]
theorem rd_getD (l : List Int) (i : Nat) : rd l (i : Int) = l.getD i 0 := by
  unfold rd; simp
theorem wrap_in {n : Int} (h0 : -9223372036854775808 ≤ n) (h1 : n ≤ 9223372036854775807) : wrap64 n = n := by
  unfold wrap64; omega
theorem wrap_succ (i : Nat) (h : (i : Int) < 9223372036854775807) : wrap64 ((i : Int) + 1) = ((i + 1 : Nat) : Int) := by
  rw [wrap_in (by omega) (by omega)]; omega
theorem u8_of_wf {l : List Int} (h : ∀ x ∈ l, (Lit.int .u8 x).wf = true) : ∀ x ∈ l, 0 ≤ x ∧ x ≤ 255 := fun x hx => Go.bounds_u8 (h x hx)
theorem pred {k d : Nat} (h : d < k) : ∃ m, k = m + 1 := ⟨k - 1, by omega⟩
theorem drop_cons {α : Type} (l : List α) (i : Nat) (h : i < l.length) : l.drop i = l[i] :: l.drop (i + 1) := List.drop_eq_getElem_cons h
theorem take_snoc {α : Type} (l : List α) (i : Nat) (h : i < l.length) : l.take (i + 1) = l.take i ++ [l[i]] := by
  rw [List.take_succ_eq_append_getElem h]
/-- f, so many times. -/
def it {α : Type} (f : α → α) : Nat → α → α
  | 0, x => x
  | n + 1, x => it f n (f x)
theorem it_succ {α : Type} (f : α → α) (n : Nat) (x : α) : it f (n + 1) x = it f n (f x) := rfl
theorem it_add {α : Type} (f : α → α) (m n : Nat) : ∀ x : α, it f (m + n) x = it f n (it f m x) := by
  induction m with
  | zero => intro x; simp [it]
  | succ m ih => intro x; rw [show m + 1 + n = (m + n) + 1 from by omega, it_succ, ih, it_succ]
theorem it_last {α : Type} (f : α → α) (n : Nat) (x : α) : it f (n + 1) x = f (it f n x) := by
  rw [it_add f n 1]; rfl
-- YtknanbnjbilciaaGreatDoorPBit
def isb (x : Int) : Prop := x = 0 ∨ x = 1
theorem isb01 {x : Int} (h : isb x) : 0 ≤ x ∧ x ≤ 1 := by unfold isb at h; omega
theorem isb_of {x : Int} (h0 : 0 ≤ x) (h1 : x ≤ 1) : isb x := by unfold isb; omega
theorem getD_isb {l : List Int} (h : ∀ x ∈ l, isb x) (i : Nat) : isb (l.getD i 0) := by
  by_cases hi : i < l.length
  · rw [List.getD_eq_getElem?_getD, List.getElem?_eq_getElem hi]; exact h _ (List.getElem_mem hi)
  · rw [List.getD_eq_getElem?_getD, List.getElem?_eq_none (by omega)]; exact .inl rfl
theorem xor_isb {x y : Int} (hx : isb x) (hy : isb y) : isb (Go.bits .xor .u8 x y) := by
  rcases hx with rfl | rfl <;> rcases hy with rfl | rfl <;> (unfold isb; decide +kernel)
theorem and_isb {x y : Int} (hx : isb x) (hy : isb y) : isb (Go.bits .and .u8 x y) := by
  rcases hx with rfl | rfl <;> rcases hy with rfl | rfl <;> (unfold isb; decide +kernel)
theorem xor_zero {x : Int} (hx : isb x) : Go.bits .xor .u8 x 0 = x := by
  rcases hx with rfl | rfl <;> decide +kernel
theorem step_lin {p q t x y : Int} (hp : isb p) (hq : isb q) (ht : isb t) (hx : isb x) (hy : isb y) :
    Go.bits .xor .u8 (Go.bits .xor .u8 p q) (Go.bits .and .u8 t (Go.bits .xor .u8 x y)) = Go.bits .xor .u8 (Go.bits .xor .u8 p (Go.bits .and .u8 t x)) (Go.bits .xor .u8 q (Go.bits .and .u8 t y)) := by
  rcases hp with rfl | rfl <;> rcases hq with rfl | rfl <;> rcases ht with rfl | rfl <;> rcases hx with rfl | rfl <;> rcases hy with rfl | rfl <;> decide +kernel
end Go.Proofs.YtknanbnjbilciaaGreatDoor.P
namespace Go.Proofs.YtknanbnjbilciaaGreatDoor.P
open Go.RowKit Go.Proofs.YtknanbnjbilciaaGreatDoorW.PrintWords Go.Proofs.YtknanbnjbilciaaGreatDoorW.PrintLast Go.Proofs.YtknanbnjbilciaaGreatDoorW.PrintMore
-- YtknanbnjbilciaaGreatDoorP10
section
attribute [local go_sem] max2_int min2_int max_two min_two max_three min_three max_four min_four
set_option linter.unusedVariables false
set_option linter.unusedSimpArgs false

/-! ### bits_Right_1: function 70 -/
def bits_Right_1.f (a0 : Int) : Option (Bool) := some (decide (a0 > 1))
set_option maxHeartbeats 8000000 in
set_option maxRecDepth 100000 in
theorem bits_Right_1.calls (a0 : Int) (r : Bool) (w : World) (h : bits_Right_1.f a0 = some r) :
    Calls Tryz.prog 70 #[.int .u8 a0] w fun e w' => e = .returned (.bool r) ∧ Drawn0 w w' := by
  have H : (some (decide (a0 > 1))) = some r := h
  clear h
  obtain rfl := Option.some.inj H
  go_enter Tryz.func70, Tryz.ntmps70
  go_wp2
  go_ret
  exact ⟨by first | rfl | (simp; done) | (simp [*]; done), by repeat (first | exact Drawn0.refl _ | apply Drawn0.step)⟩
end
-- YtknanbnjbilciaaGreatDoorP11
section
attribute [local go_sem] max2_int min2_int max_two min_two max_three min_three max_four min_four
set_option linter.unusedVariables false
set_option linter.unusedSimpArgs false

/-! ### slices_IndexFunc_byte_byte: function 98 -/
def slices_IndexFunc_byte_byte.l0 : Nat → List Int → Int → Int → Option (Int)
  | 0, _, _, _ => none
  | k + 1, x0, x7, x8 => if x8 < x7 then (if 0 ≤ x8 then (if x8 < (x0.length : Int) then ((bits_Right_1.f (rd x0 x8)).bind fun t126 => (if t126 = true then (some x8) else (slices_IndexFunc_byte_byte.l0 k x0 x7 (wrap64 (x8 + 1))))) else (none)) else (none)) else (some (-1))
def slices_IndexFunc_byte_byte.f (k : Nat) (l0 : List Int)  : Option (Int) := slices_IndexFunc_byte_byte.l0 k l0 (l0.length : Int) 0
theorem slices_IndexFunc_byte_byte.mono_l : ∀ k, (∀ y0 y1 y2, LeO (slices_IndexFunc_byte_byte.l0 k y0 y1 y2) (slices_IndexFunc_byte_byte.l0 (k + 1) y0 y1 y2))
  | 0 => fun _ _ _ r h => by simp [slices_IndexFunc_byte_byte.l0] at h
  | k + 1 => by
    have ih0 := slices_IndexFunc_byte_byte.mono_l k
    · intro y0 y1 y2
      unfold slices_IndexFunc_byte_byte.l0
      repeat' first
      | (with_reducible exact ih0 _ _ _)
      | (with_reducible exact LeO.refl _)
      | (with_reducible exact LeO.none _)
      | (with_reducible refine LeO.ite ?_ ?_)
      | (with_reducible refine LeO.bind ?_ (fun _ => ?_))
      | exact ih0 _ _ _
      | exact LeO.none _
      | refine LeO.ite ?_ ?_
      | refine LeO.bind ?_ (fun _ => ?_)
theorem slices_IndexFunc_byte_byte.mono : ∀ a0 k, LeO (slices_IndexFunc_byte_byte.f k a0) (slices_IndexFunc_byte_byte.f (k + 1) a0) := by
  intro a0 k
  have ih0 := slices_IndexFunc_byte_byte.mono_l k
  unfold slices_IndexFunc_byte_byte.f
  repeat' first
      | (with_reducible exact ih0 _ _ _)
      | (with_reducible exact LeO.refl _)
      | (with_reducible exact LeO.none _)
      | (with_reducible refine LeO.ite ?_ ?_)
      | (with_reducible refine LeO.bind ?_ (fun _ => ?_))
      | exact ih0 _ _ _
      | exact LeO.none _
      | refine LeO.ite ?_ ?_
      | refine LeO.bind ?_ (fun _ => ?_)
set_option maxHeartbeats 8000000 in
set_option maxRecDepth 100000 in
theorem slices_IndexFunc_byte_byte.calls (k : Nat) (A0 : Option Addr) (c0 : Nat) (l0 : List Int)  (r : Int) (w : World) (hr0 : Kd.C (Kd.int .u8) w A0 l0.length l0) (hc0 : l0.length ≤ c0) (h : slices_IndexFunc_byte_byte.f k l0 = some r) :
    Calls Tryz.prog 98 #[.slice A0 l0.length c0, .func (.func 70) #[] #[]] w fun e w' => e = .returned (.int .i64 r) ∧ Drawn0 w w' := by
  have HR0 := Aside0.mk hr0
  have HC0 := Aside0.mk hc0
  clear hr0 hc0
  have H : (slices_IndexFunc_byte_byte.l0 k l0 (l0.length : Int) 0) = some r := h
  clear h
  have H' := Aside0.mk H
  clear H
  go_enter Tryz.func98, Tryz.ntmps98
  go_wp2
  go_loopg [8] k (fun kq v8 w' => ∃ (x8_1 : Int), v8 = .int .i64 x8_1 ∧ Aside0 (slices_IndexFunc_byte_byte.l0 kq l0 (l0.length : Int) x8_1 = some r) ∧ Aside0 (kq ≤ k) ∧ Drawn0 w w')
  case atStart => exact ⟨(0), (by first | rfl | (simp; done) | (simp [*]; done)), H', ⟨Nat.le_refl _⟩, by repeat (first | exact Drawn0.refl _ | apply Drawn0.step)⟩
  case round =>
    clear H'
    try clear p2
    obtain ⟨x8_1, rfl, HA, HK1, ⟨m1, rfl⟩⟩ := hrel
    cases gk with
    | zero => exact absurd HA.out (by simp [slices_IndexFunc_byte_byte.l0])
    | succ k1 =>
      have H := HA.out
      clear HA
      simp only [slices_IndexFunc_byte_byte.l0] at H
      by_cases c3 : x8_1 < (l0.length : Int)
      · rw [if_pos c3] at H
        have c3b0 : decide (x8_1 < (l0.length : Int)) = true := decide_eq_true c3
        clear c3
        by_cases c4 : 0 ≤ x8_1
        · rw [if_pos c4] at H
          have c4b0 : decide (0 ≤ x8_1) = true := decide_eq_true c4
          clear c4
          by_cases c5 : x8_1 < (l0.length : Int)
          · rw [if_pos c5] at H
            have c5b0 : decide (x8_1 < (l0.length : Int)) = true := decide_eq_true c5
            clear c5
            replace H := Option.bind_eq_some_iff.mp H
            obtain ⟨t126, A60, H⟩ := H
            replace H : (if t126 = true then (some x8_1) else (slices_IndexFunc_byte_byte.l0 k1 l0 (l0.length : Int) (wrap64 (x8_1 + 1)))) = some r := H
            have A6 := Aside0.mk A60
            clear A60
            by_cases c7 : t126 = true
            · subst c7
              have H1 : (some x8_1) = some r := by rw [if_pos rfl] at H; exact H
              clear H
              have H := H1
              clear H1
              obtain rfl := Option.some.inj H
              have p125 : 0 ≤ (x8_1 : Int) := of_decide_eq_true (by first | (with_reducible assumption) | assumption)
              have q125 : x8_1 < (l0.length : Int) := of_decide_eq_true (by first | (with_reducible assumption) | assumption)
              obtain ⟨ad125, e125, hx125_0⟩ := Kd.at_int HR0.out x8_1 p125 q125
              cases e125
              replace p125 := eq_true p125
              replace q125 := eq_true q125
              go_wp2_with (first | (go_at_call 70; (with_reducible refine (bits_Right_1.calls (rd l0 x8_1) true _ A6.out).mono ?_); rintro e w' ⟨rfl, ⟨nd, rfl⟩⟩))
              go_ret
              exact ⟨by first | rfl | (simp; done) | (simp [*]; done), by repeat (first | exact Drawn0.refl _ | apply Drawn0.step)⟩
            · replace c7 := Bool.eq_false_iff.mpr c7
              subst c7
              have H1 : (slices_IndexFunc_byte_byte.l0 k1 l0 (l0.length : Int) (wrap64 (x8_1 + 1))) = some r := by rw [if_neg (show ¬ (false = true) by decide)] at H; exact H
              clear H
              have H := H1
              clear H1
              have H' := Aside0.mk H
              clear H
              have p125 : 0 ≤ (x8_1 : Int) := of_decide_eq_true (by first | (with_reducible assumption) | assumption)
              have q125 : x8_1 < (l0.length : Int) := of_decide_eq_true (by first | (with_reducible assumption) | assumption)
              obtain ⟨ad125, e125, hx125_0⟩ := Kd.at_int HR0.out x8_1 p125 q125
              cases e125
              replace p125 := eq_true p125
              replace q125 := eq_true q125
              go_wp2_with (first | (go_at_call 70; (with_reducible refine (bits_Right_1.calls (rd l0 x8_1) false _ A6.out).mono ?_); rintro e w' ⟨rfl, ⟨nd, rfl⟩⟩))
              go_roundg k1
              case measure => have := HK1.out; omega
              case rel => exact ⟨(wrap64 (x8_1 + 1)), (by first | rfl | (simp; done) | (simp [*]; done)), H', ⟨by have := HK1.out; omega⟩, by repeat (first | exact Drawn0.refl _ | apply Drawn0.step)⟩
          · rw [if_neg c5] at H
            exact absurd H (by simp)
        · rw [if_neg c4] at H
          exact absurd H (by simp)
      · rw [if_neg c3] at H
        have c3b0 : decide (x8_1 < (l0.length : Int)) = false := decide_eq_false c3
        clear c3
        obtain rfl := Option.some.inj H
        go_wp2
        go_ret
        exact ⟨by first | rfl | (simp; done) | (simp [*]; done), by repeat (first | exact Drawn0.refl _ | apply Drawn0.step)⟩
end
-- YtknanbnjbilciaaGreatDoorP12
section
attribute [local go_sem] max2_int min2_int max_two min_two max_three min_three max_four min_four
set_option linter.unusedVariables false
set_option linter.unusedSimpArgs false

/-! ### slices_ContainsFunc_byte_byte: function 69 -/
def slices_ContainsFunc_byte_byte.f (k : Nat) (l0 : List Int)  : Option (Bool) := (slices_IndexFunc_byte_byte.f k l0).bind fun t127 => (some (decide (t127 ≥ 0)))
theorem slices_ContainsFunc_byte_byte.mono : ∀ a0 k, LeO (slices_ContainsFunc_byte_byte.f k a0) (slices_ContainsFunc_byte_byte.f (k + 1) a0) := by
  intro a0 k
  unfold slices_ContainsFunc_byte_byte.f
  repeat' first
      | (with_reducible exact slices_IndexFunc_byte_byte.mono _ _)
      | (with_reducible exact LeO.refl _)
      | (with_reducible exact LeO.none _)
      | (with_reducible refine LeO.ite ?_ ?_)
      | (with_reducible refine LeO.bind ?_ (fun _ => ?_))
      | exact slices_IndexFunc_byte_byte.mono _ _
      | exact LeO.none _
      | refine LeO.ite ?_ ?_
      | refine LeO.bind ?_ (fun _ => ?_)
set_option maxHeartbeats 8000000 in
set_option maxRecDepth 100000 in
theorem slices_ContainsFunc_byte_byte.calls (k : Nat) (A0 : Option Addr) (c0 : Nat) (l0 : List Int)  (r : Bool) (w : World) (hr0 : Kd.C (Kd.int .u8) w A0 l0.length l0) (hc0 : l0.length ≤ c0) (h : slices_ContainsFunc_byte_byte.f k l0 = some r) :
    Calls Tryz.prog 69 #[.slice A0 l0.length c0, .func (.func 70) #[] #[]] w fun e w' => e = .returned (.bool r) ∧ Drawn0 w w' := by
  have HR0 := Aside0.mk hr0
  have HC0 := Aside0.mk hc0
  clear hr0 hc0
  have H : ((slices_IndexFunc_byte_byte.f k l0).bind fun t127 => (some (decide (t127 ≥ 0)))) = some r := h
  clear h
  replace H := Option.bind_eq_some_iff.mp H
  obtain ⟨t127, A30, H⟩ := H
  replace H : (some (decide (t127 ≥ 0))) = some r := H
  have A3 := Aside0.mk A30
  clear A30
  obtain rfl := Option.some.inj H
  go_enter Tryz.func69, Tryz.ntmps69
  go_wp2_with (first | ((with_reducible refine gate_callee (f := 98) rfl ?_); refine goesL_ (some 7) rfl rfl Tryz.func98 (by kernel_rfl) rfl #[.slice A0 l0.length c0, .func (.func 70) #[] #[]] rfl (by (try simp only [List.map_toArray, List.map_cons, List.map_nil]); first | done | rfl | (simp only [List.length_drop, List.length_take]; rfl)) ?_; (with_reducible refine (slices_IndexFunc_byte_byte.calls k _ _ l0  t127 _ ?side1 ?side2 A3.out).mono ?_); (case side1 => repeat (first | exact HR0.out | (with_reducible refine Kd.C_alloc ?_ _) | (with_reducible refine Kd.C_drewN ?_ _) | (with_reducible refine Kd.C_drew ?_))); (case side2 => exact HC0.out); rintro e w' ⟨rfl, ⟨nd, rfl⟩⟩; refine ⟨_, rfl, ?_⟩))
  go_ret
  exact ⟨by first | rfl | (simp; done) | (simp [*]; done), by repeat (first | exact Drawn0.refl _ | apply Drawn0.step)⟩
end
-- YtknanbnjbilciaaGreatDoorP13
section
attribute [local go_sem] max2_int min2_int max_two min_two max_three min_three max_four min_four
set_option linter.unusedVariables false
set_option linter.unusedSimpArgs false

/-! ### bits_Right: function 35 -/
def bits_Right.f (k : Nat) (l0 : List Int) : Option (Bool) := (slices_ContainsFunc_byte_byte.f k l0).bind fun t128 => (some (!t128))
theorem bits_Right.mono : ∀ a0 k, LeO (bits_Right.f k a0) (bits_Right.f (k + 1) a0) := by
  intro a0 k
  unfold bits_Right.f
  repeat' first
      | (with_reducible exact slices_ContainsFunc_byte_byte.mono _ _)
      | (with_reducible exact LeO.refl _)
      | (with_reducible exact LeO.none _)
      | (with_reducible refine LeO.ite ?_ ?_)
      | (with_reducible refine LeO.bind ?_ (fun _ => ?_))
      | exact slices_ContainsFunc_byte_byte.mono _ _
      | exact LeO.none _
      | refine LeO.ite ?_ ?_
      | refine LeO.bind ?_ (fun _ => ?_)
set_option maxHeartbeats 8000000 in
set_option maxRecDepth 100000 in
theorem bits_Right.calls (k : Nat) (A0 : Option Addr) (c0 : Nat) (l0 : List Int) (r : Bool) (w : World) (hr0 : Kd.C (Kd.int .u8) w A0 l0.length l0) (hc0 : l0.length ≤ c0) (h : bits_Right.f k l0 = some r) :
    Calls Tryz.prog 35 #[.slice A0 l0.length c0] w fun e w' => e = .returned (.bool r) ∧ Drawn0 w w' := by
  have HR0 := Aside0.mk hr0
  have HC0 := Aside0.mk hc0
  clear hr0 hc0
  have H : ((slices_ContainsFunc_byte_byte.f k l0).bind fun t128 => (some (!t128))) = some r := h
  clear h
  replace H := Option.bind_eq_some_iff.mp H
  obtain ⟨t128, A20, H⟩ := H
  replace H : (some (!t128)) = some r := H
  have A2 := Aside0.mk A20
  clear A20
  obtain rfl := Option.some.inj H
  go_enter Tryz.func35, Tryz.ntmps35
  go_wp2_with (first | ((with_reducible refine gate_callee (f := 69) rfl ?_); refine goesL_ (some 4) rfl rfl Tryz.func69 (by kernel_rfl) rfl #[.slice A0 l0.length c0, .func (.func 70) #[] #[]] rfl (by (try simp only [List.map_toArray, List.map_cons, List.map_nil]); first | done | rfl | (simp only [List.length_drop, List.length_take]; rfl)) ?_; (with_reducible refine (slices_ContainsFunc_byte_byte.calls k _ _ l0  t128 _ ?side1 ?side2 A2.out).mono ?_); (case side1 => repeat (first | exact HR0.out | (with_reducible refine Kd.C_alloc ?_ _) | (with_reducible refine Kd.C_drewN ?_ _) | (with_reducible refine Kd.C_drew ?_))); (case side2 => exact HC0.out); rintro e w' ⟨rfl, ⟨nd, rfl⟩⟩; refine ⟨_, rfl, ?_⟩))
  go_ret
  exact ⟨by first | rfl | (simp; done) | (simp [*]; done), by repeat (first | exact Drawn0.refl _ | apply Drawn0.step)⟩
end
-- YtknanbnjbilciaaGreatDoorP14
section
attribute [local go_sem] max2_int min2_int max_two min_two max_three min_three max_four min_four
set_option linter.unusedVariables false
set_option linter.unusedSimpArgs false

/-! ### conv_Steps: function 65 -/
def conv_Steps.f (a0 : Int) : Option (Int) := if a0 < 0 then (some 0) else (some (wrap64 (a0 + 6)))
set_option maxHeartbeats 8000000 in
set_option maxRecDepth 100000 in
theorem conv_Steps.calls (a0 : Int) (r : Int) (w : World) (h : conv_Steps.f a0 = some r) :
    Calls Tryz.prog 65 #[.int .i64 a0] w fun e w' => e = .returned (.int .i64 r) ∧ Drawn0 w w' := by
  have H : (if a0 < 0 then (some 0) else (some (wrap64 (a0 + 6)))) = some r := h
  clear h
  by_cases c2 : a0 < 0
  · rw [if_pos c2] at H
    have c2b0 : decide (a0 < 0) = true := decide_eq_true c2
    clear c2
    obtain rfl := Option.some.inj H
    go_enter Tryz.func65, Tryz.ntmps65
    go_wp2
    go_ret
    exact ⟨by first | rfl | (simp; done) | (simp [*]; done), by repeat (first | exact Drawn0.refl _ | apply Drawn0.step)⟩
  · rw [if_neg c2] at H
    have c2b0 : decide (a0 < 0) = false := decide_eq_false c2
    clear c2
    obtain rfl := Option.some.inj H
    go_enter Tryz.func65, Tryz.ntmps65
    go_wp2
    go_ret
    exact ⟨by first | rfl | (simp; done) | (simp [*]; done), by repeat (first | exact Drawn0.refl _ | apply Drawn0.step)⟩
end
end Go.Proofs.YtknanbnjbilciaaGreatDoor.P
