/- spectrum's counter: rows of numbers, each in a block of its own; empty, add. No condition but bounds. -/
import Derived.Test.YtijpnlmejphfhaaDoorPExtra
import Derived.Test.YtijpnlmejphfhaaDoorWTab
import Derived.Test.YtijpnlmejphfhaaDoorWKept
import Derived.Test.YtijpnlmejphfhaaDoorWAt
import Derived.Deep.MidRow
namespace Go.Proofs.YtijpnlmejphfhaaDoor.P
open Go Go.Proofs Go.RowKit Go.Proofs.YtijpnlmejphfhaaDoorW.PrintWords Go.Proofs.YtijpnlmejphfhaaDoorW.PrintLast Go.Proofs.YtijpnlmejphfhaaDoorW.PrintMore
set_option linter.unusedVariables false
set_option linter.unusedSimpArgs false

def ints (l : List Int) : Array Value := (nums .i64 l).toArray
theorem ints_size (l : List Int) : (ints l).size = l.length := by simp [ints, nums]
theorem ints_get (l : List Int) (j : Nat) (h : j < l.length) : (ints l)[j]? = some (.int .i64 (l.getD j 0)) := by
  simp [ints, nums, List.getD_eq_getElem?_getD, List.getElem?_eq_getElem h]
theorem ints_set (l : List Int) (j : Nat) (x : Int) : (ints l).setIfInBounds j (.int .i64 x) = ints (l.set j x) := by
  simp [ints, nums, List.map_set]
theorem ints_cell {w : World} {a : Nat} {l : List Int} (h : w.heap[a]? = some (.cells (ints l) 3 (0, 0))) (j : Nat) (hj : j < l.length) : w.cell? ⟨a, j, none⟩ = some (.int .i64 (l.getD j 0)) :=
  (blk_cell h j).trans (ints_get l j hj)
theorem ints_made (n : Nat) : madeCells #[.int .i64 0] n = ints (List.replicate n 0) := by
  apply Array.ext
  · rw [size_madeCells, ints_size, List.length_replicate]
  · intro i h1 h2
    rw [size_madeCells] at h1
    simp [madeCells, ints, nums]
    rw [Nat.mod_one]; rfl
/-- But for block a nothing has turned. -/
structure Put1 (a : Nat) (w w' : World) : Prop where
  os : w'.os = w.os
  tape : w'.tape = w.tape
  output : w'.output = w.output
  size : w'.heap.size = w.heap.size
  block : ∀ k, k ≠ a → w'.heap[k]? = w.heap[k]?
theorem Put1.refl (a : Nat) (w : World) : Put1 a w w := ⟨rfl, rfl, rfl, rfl, fun _ _ => rfl⟩
theorem Put1.trans {a : Nat} {w w1 w2 : World} (h : Put1 a w w1) (k : Put1 a w1 w2) : Put1 a w w2 :=
  ⟨k.os.trans h.os, k.tape.trans h.tape, k.output.trans h.output, k.size.trans h.size, fun i hi => (k.block i hi).trans (h.block i hi)⟩
theorem Put1.set (a i : Nat) (w : World) (x : Value) : Put1 a w (w.setCell ⟨a, i, none⟩ x) :=
  ⟨rfl, rfl, rfl, by simp, fun k hk => Below.heap_setCell w ⟨a, i, none⟩ x k hk⟩
theorem Put1.below {a B : Nat} {w w' : World} (h : Put1 a w w') (hB : B ≤ a) : Below B w w' := ⟨h.os, h.tape, h.output, Nat.le_of_eq h.size.symm, fun k hk => h.block k (by omega)⟩
theorem i64_info : (Tryd.prog.info? 3).map (fun i => (i.zero, i.size, i.bytes)) = some (some (.int .i64 0), 1, 8) := by kernel_rfl
set_option maxRecDepth 100000 in
theorem empty_calls {w : World} {g N : Nat} (h : w.cell? ⟨g, 4, none⟩ = some (.int .i64 ((N : Int) - 1))) (hN : N ≤ 1000) :
    Calls Tryd.prog 38 #[.pointer (some ⟨g, 0, none⟩)] w fun e w' => e = .returned (.slice (some ⟨w.heap.size, 0, none⟩) N N) ∧ w' = w.alloc (.cells (ints (List.replicate N 0)) 3) := by
  have km := print_make (P := Tryd.prog) 24 3 .i64 8 Tryd.underlying24 i64_info (by omega) N (by omega)
  have hw : wrap64 ((N : Int) - 1 + 1) = (N : Int) := by unfold wrap64; omega
  rw [ints_made] at km
  obtain ⟨m, hm⟩ : ∃ m : Int, m = (N : Int) - 1 := ⟨_, rfl⟩
  rw [← hm] at h hw
  clear hm
  go_enter Tryd.func38, Tryd.ntmps38
  go_wp2
  go_ret
  exact ⟨by simp, rfl⟩
/-- The rows added, b further on, up to place i of the second. -/
def addI (x y : List Int) (b i : Nat) : List Int := (List.range x.length).map fun j => if b ≤ j ∧ j < b + i then wrap64 (x.getD j 0 + y.getD (j - b) 0) else x.getD j 0
theorem addI_length (x y : List Int) (b i : Nat) : (addI x y b i).length = x.length := by simp [addI]
theorem addI_get (x y : List Int) (b i j : Nat) (h : j < x.length) : (addI x y b i).getD j 0 = if b ≤ j ∧ j < b + i then wrap64 (x.getD j 0 + y.getD (j - b) 0) else x.getD j 0 := by
  have hl : j < (addI x y b i).length := by rw [addI_length]; exact h
  rw [List.getD_eq_getElem?_getD, List.getElem?_eq_getElem hl]
  simp [addI]
theorem addI_zero (x y : List Int) (b : Nat) : addI x y b 0 = x := by
  apply List.ext_getElem
  · rw [addI_length]
  · intro j h1 h2
    simp only [addI, List.getElem_map, List.getElem_range]
    rw [if_neg (by omega), List.getD_eq_getElem?_getD, List.getElem?_eq_getElem h2]; rfl
theorem addI_succ (x y : List Int) (b i : Nat) (h : b + i < x.length) : (addI x y b i).set (b + i) (wrap64 (x.getD (b + i) 0 + y.getD i 0)) = addI x y b (i + 1) := by
  apply List.ext_getElem
  · simp [addI_length]
  · intro j h1 h2
    rw [List.getElem_set]
    simp only [addI, List.getElem_map, List.getElem_range]
    by_cases e : b + i = j
    · subst e
      rw [if_pos rfl, if_pos (by omega), Nat.add_sub_cancel_left]
    · rw [if_neg e]
      by_cases q : b ≤ j ∧ j < b + i
      · rw [if_pos q, if_pos (by omega)]
      · rw [if_neg q, if_neg (by omega)]
theorem addI_stop (x y : List Int) (b i : Nat) (h : x.length ≤ b + i) : addI x y b i = addI x y b (i + 1) := by
  apply List.ext_getElem
  · simp [addI_length]
  · intro j h1 h2
    simp only [addI, List.getElem_map, List.getElem_range]
    rw [addI_length] at h1
    by_cases q : b ≤ j
    · rw [if_pos (by omega), if_pos (by omega)]
    · rw [if_neg (by omega), if_neg (by omega)]
set_option maxRecDepth 100000 in
set_option maxHeartbeats 4000000 in
theorem add_calls {w : World} {g a c N : Nat} {x y : List Int} (h : w.cell? ⟨g, 4, none⟩ = some (.int .i64 ((N : Int) - 1))) (hga : g ≠ a) (hx : w.heap[a]? = some (.cells (ints x) 3 (0, 0))) (hy : w.heap[c]? = some (.cells (ints y) 3 (0, 0)))
    (hac : a ≠ c) (hxl : x.length = N) (hyl : y.length = N) (hN : N ≤ 1000) (b : Nat) (hb : b ≤ 100000) :
    Calls Tryd.prog 40 #[.pointer (some ⟨g, 0, none⟩), .slice (some ⟨a, 0, none⟩) N N, .slice (some ⟨c, 0, none⟩) N N, .int .i64 (b : Int)] w fun e w' =>
      e = .returned (.tuple #[]) ∧ w'.heap[a]? = some (.cells (ints (addI x y b N)) 3 (0, 0)) ∧ Put1 a w w' := by
  have HH := Aside0.mk h
  have HX := Aside0.mk hx
  have HY := Aside0.mk hy
  have HL := Aside0.mk (And.intro hxl hyl)
  obtain ⟨m, hm⟩ : ∃ m : Int, m = (N : Int) - 1 := ⟨_, rfl⟩
  have HM := Aside0.mk hm
  clear h hx hy hxl hyl hm
  go_enter Tryd.func40, Tryd.ntmps40
  go_wp2_with fail
  go_loopw [12] (fun v12 wr => ∃ (i : Nat), v12 = .int .i64 (i : Int) ∧ i ≤ N ∧ Aside0 (wr.heap[a]? = some (.cells (ints (addI x y b i)) 3 (0, 0))) ∧ Aside0 (Put1 a w wr)) (fun v12 _ => N - (intOf v12).toNat)
  case atStart => exact ⟨0, by simp, by omega, ⟨by rw [addI_zero]; exact HX.out⟩, ⟨Put1.refl _ _⟩⟩
  case round =>
    obtain ⟨i, rfl, hi, HA, HP⟩ := hrel
    by_cases hlt : i < N
    · have hlb : decide ((i : Int) < (N : Int)) = true := decide_eq_true (by omega)
      have hc4 : wr.cell? ⟨g, 4, none⟩ = some (.int .i64 m) := by rw [World.cell?_of_block (w := w) (HP.out.block g hga), HM.out]; exact HH.out
      have hcy : wr.cell? ⟨c, i, none⟩ = some (.int .i64 (y.getD i 0)) := ints_cell ((HP.out.block c hac.symm).trans HY.out) i (by have := HL.out.2; omega)
      obtain ⟨yi, hyi⟩ : ∃ yi, yi = y.getD i 0 := ⟨_, rfl⟩
      rw [← hyi] at hcy
      have HYI := Aside0.mk hyi
      clear hyi
      by_cases hle : b + i < N
      · have hcx : wr.cell? ⟨a, b + i, none⟩ = some (.int .i64 (x.getD (b + i) 0)) := by
          have hl : b + i < (addI x y b i).length := by rw [addI_length]; have := HL.out.1; omega
          have e := ints_cell HA.out (b + i) hl
          rw [addI_get x y b i _ (by have := HL.out.1; omega), if_neg (by omega)] at e
          exact e
        have hfz := blk_frozen HA.out (b + i)
        have hle1 : decide ((i : Int) + (b : Int) ≤ m) = true := decide_eq_true (by have := HM.out; omega)
        have hbn : (i : Int) + (b : Int) < (N : Int) := by omega
        obtain ⟨xb, hxb⟩ : ∃ xb, xb = x.getD (b + i) 0 := ⟨_, rfl⟩
        rw [← hxb] at hcx
        have HXB := Aside0.mk hxb
        obtain ⟨z, hz⟩ : ∃ z, wrap64 (xb + yi) = z := ⟨_, rfl⟩
        have HP2 := Aside0.mk (HP.out.trans (Put1.set a (b + i) wr (.int .i64 z)))
        have HA2 := Aside0.mk (show (wr.setCell ⟨a, b + i, none⟩ (.int .i64 z)).heap[a]? = some (.cells (ints (addI x y b (i + 1))) 3 (0, 0)) by
          rw [← addI_succ x y b i (by have := HL.out.1; omega), ← ints_set, ← HXB.out, ← HYI.out, hz]
          exact blk_put HA.out (b + i) _ rfl)
        rw [Nat.add_comm b i] at hcx hfz HP2 HA2
        clear hxb HA HP
        go_wp2_with fail
        go_roundw
        case rel => exact ⟨i + 1, by simp, by omega, HA2, HP2⟩
        case measure => simp [intOf]; omega
      · have hw1 : wrap64 ((i : Int) + (b : Int)) = (i : Int) + (b : Int) := by unfold wrap64; omega
        have hle1 : decide ((i : Int) + (b : Int) ≤ m) = false := decide_eq_false (by have := HM.out; omega)
        have HA2 := Aside0.mk (show wr.heap[a]? = some (.cells (ints (addI x y b (i + 1))) 3 (0, 0)) by rw [← addI_stop x y b i (by have := HL.out.1; omega)]; exact HA.out)
        go_wp2_with fail
        go_roundw
        case rel => exact ⟨i + 1, by simp, by omega, HA2, HP⟩
        case measure => simp [intOf]; omega
    · obtain rfl : i = N := by omega
      have hlb : decide ((i : Int) < (i : Int)) = false := decide_eq_false (by omega)
      go_wp2_with fail
      refine bodyPost_end (results_none rfl _ _ _) rfl ?_
      exact ⟨by simp, HA.out, HP.out⟩
end Go.Proofs.YtijpnlmejphfhaaDoor.P
