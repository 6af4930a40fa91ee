/- The bit writer's methods by hand: a pointer to a struct that holds the row of bits. What they come to; the frame: but for the writer's own block and its row nothing turns. No condition but lengths. -/
import Derived.Test.YtmajbcglpcagoaaBPlain
import Derived.Test.YtmajbcglpcagoaaB0
import Derived.RangeFuncBox
import Derived.Deep.DrawnRows
namespace Go.Proofs.Ytmajbcglpcagoaa.B
open Go Go.RowKit Go.Proofs.YtmajbcglpcagoaaW.PrintWords Go.Proofs.YtmajbcglpcagoaaW.PrintLast Go.Proofs.YtmajbcglpcagoaaW.PrintMore
set_option linter.unusedVariables false
set_option linter.unusedSimpArgs false
attribute [local go_sem ↓] Go.wp_at_zero Go.wp_at_succ

/-- But for block g and v's own row nothing has turned. -/
structure Fr (g : Nat) (v : Value) (w w' : World) : Prop where
  os : w'.os = w.os
  tape : w'.tape = w.tape
  output : w'.output = w.output
  size : w.heap.size ≤ w'.heap.size
  block : ∀ k, k < w.heap.size → k ≠ g → some k ≠ v.ownBlock → w'.heap[k]? = w.heap[k]?
theorem Fr.refl (g : Nat) (v : Value) (w : World) : Fr g v w w := ⟨rfl, rfl, rfl, Nat.le_refl _, fun _ _ _ _ => rfl⟩
/-- v' is v's row, or a newer one. -/
def Newer (w : World) (v v' : Value) : Prop := v'.ownBlock = v.ownBlock ∨ ∀ b, v'.ownBlock = some b → w.heap.size ≤ b
theorem Newer.refl (w : World) (v : Value) : Newer w v v := .inl rfl
theorem Newer.trans {w w1 : World} {v v1 v2 : Value} (h : Newer w v v1) (hs : w.heap.size ≤ w1.heap.size) (k : Newer w1 v1 v2) : Newer w v v2 := by
  rcases k with k | k
  · rcases h with h | h
    · exact .inl (k.trans h)
    · exact .inr fun b hb => h b (k ▸ hb)
  · exact .inr fun b hb => Nat.le_trans hs (k b hb)
theorem Fr.trans {g : Nat} {v v1 : Value} {w w1 w2 : World} (h : Fr g v w w1) (hn : Newer w v v1) (k : Fr g v1 w1 w2) : Fr g v w w2 :=
  ⟨k.os.trans h.os, k.tape.trans h.tape, k.output.trans h.output, Nat.le_trans h.size k.size, fun i hi hg hv => by
    rw [k.block i (Nat.lt_of_lt_of_le hi h.size) hg ?_, h.block i hi hg hv]
    rcases hn with hn | hn
    · rw [hn]; exact hv
    · intro e; have := hn i e.symm; omega⟩
theorem Fr.below {g : Nat} {v : Value} {w w' : World} (h : Fr g v w w') {B : Nat} (hB : B ≤ w.heap.size) (hg : B ≤ g) (hv : ∀ b, v.ownBlock = some b → B ≤ b) : Below B w w' :=
  ⟨h.os, h.tape, h.output, h.size, fun k hk => h.block k (by omega) (by omega) (fun e => by have := hv k e.symm; omega)⟩
/-- The writer at block g holds xs. -/
structure WS (w : World) (n₀ g : Nat) (v : Value) (xs : List Int) : Prop where
  box : Boxed w g 37 v
  low : n₀ ≤ g
  row : w.ownsRow n₀ 5 1 v xs.length (nums .u8 xs)
theorem WS.kept {w w' : World} {n₀ g : Nat} {v : Value} {xs : List Int} (h : WS w n₀ g v xs) (hg : w'.heap[g]? = w.heap[g]?) (hr : ∀ b, v.ownBlock = some b → w'.heap[b]? = w.heap[b]?) : WS w' n₀ g v xs := by
  refine ⟨hg.trans h.box, h.low, h.row.1, ?_⟩
  rcases h.row.2 with hn | ⟨b, cap, cur, rfl, hb, hc, rest⟩
  · exact .inl hn
  · exact .inr ⟨b, cap, cur, rfl, hb, (hr b rfl).trans hc, rest⟩
theorem WS.ne {w : World} {n₀ g : Nat} {v : Value} {xs : List Int} (h : WS w n₀ g v xs) : some g ≠ v.ownBlock := h.box.not_row (by decide) h.row
theorem WS.lt {w : World} {n₀ g : Nat} {v : Value} {xs : List Int} (h : WS w n₀ g v xs) : g < w.heap.size := h.box.lt
theorem WS.far {w w' : World} {n₀ g g' : Nat} {v v' : Value} {xs : List Int} (h : WS w n₀ g v xs) (hf : Fr g' v' w w') (hgg : g ≠ g') (h1 : some g ≠ v'.ownBlock) (h2 : ∀ b, v.ownBlock = some b → b ≠ g' ∧ some b ≠ v'.ownBlock) : WS w' n₀ g v xs :=
  h.kept (hf.block g h.lt hgg h1) fun b hb => hf.block b (h.row.lt b hb).2 (h2 b hb).1 (h2 b hb).2
theorem WS.below {w w' : World} {n₀ g : Nat} {v : Value} {xs : List Int} (h : WS w n₀ g v xs) (hb : Below w.heap.size w w') : WS w' n₀ g v xs :=
  h.kept (hb.block g h.lt) fun b e => hb.block b (h.row.lt b e).2

def bitioWidthF (n : Int) : Bool := decide (1 ≤ n) && decide (n ≤ 32)
set_option maxRecDepth 100000 in
set_option maxHeartbeats 4000000 in
theorem bitioWidth_calls (n : Int) (w : World) : Calls Try.prog 30 #[.int .i64 n] w fun e w' => e = .returned (.bool (bitioWidthF n)) ∧ Below w.heap.size w w' := by
  unfold bitioWidthF
  go_enter Try.func30, Try.ntmps30
  by_cases h1 : 1 ≤ n
  · by_cases h2 : n ≤ 32
    · have h1' : decide (1 ≤ n) = true := decide_eq_true h1
      have h2' : decide (n ≤ 32) = true := decide_eq_true h2
      go_wp2
      go_ret
      exact ⟨by simp [*], by repeat (first | (with_reducible first | exact Below.refl _ _ | apply below_drew1) | exact Below.refl _ _)⟩
    · have h1' : decide (1 ≤ n) = true := decide_eq_true h1
      have h2' : decide (n ≤ 32) = false := decide_eq_false h2
      go_wp2
      go_ret
      exact ⟨by simp [*], by repeat (first | (with_reducible first | exact Below.refl _ _ | apply below_drew1) | exact Below.refl _ _)⟩
  · have h1' : decide (1 ≤ n) = false := decide_eq_false h1
    go_wp2
    go_ret
    exact ⟨by simp [*], by repeat (first | (with_reducible first | exact Below.refl _ _ | apply below_drew1) | exact Below.refl _ _)⟩
theorem u8_info : (Try.prog.info? 5).map (fun i => (i.zero, i.size, i.bytes)) = some (some (.int .u8 0), 1, 1) := by kernel_rfl
def bitv (n : Int) (i : Nat) : Int := IntKind.u8.wrap (Go.bits .and .i64 (n / 2 ^ i) 1)
def putE (n wide : Int) : Int := if bitioWidthF wide = true then (if n < 0 then 5 else if n / 2 ^ wide.toNat = 0 then 0 else 5) else 1
def bitL (n : Int) (W r : Nat) : List Int := (List.range (W - r)).map fun j => bitv n (W - 1 - j)
def putL (n wide : Int) : List Int := if putE n wide = 0 then bitL n wide.toNat 0 else []
theorem Fr.of_below {g : Nat} {v : Value} {w w' : World} (h : Below w.heap.size w w') : Fr g v w w' := ⟨h.os, h.tape, h.output, h.size, fun k hk _ _ => h.block k hk⟩
theorem WS.appended {w w2 : World} {n₀ g gg cap : Nat} {v : Value} {xs : List Int} {x : Int} {o : Obj} (h : WS w n₀ g v xs)
    (hown : w2.ownsRow n₀ 5 1 (.slice (some ⟨gg, 0, none⟩) (xs.length + 1) cap) (xs.length + 1) (nums .u8 xs ++ [.int .u8 x]))
    (hgrow : (w.alloc o).drew.grownBy w2 v.ownBlock) (hat : v.ownBlock = some gg ∨ gg = w.heap.size + 1) :
    WS (w2.setCell ⟨g, 0, none⟩ (.slice (some ⟨gg, 0, none⟩) (xs.length + 1) cap)) n₀ g (.slice (some ⟨gg, 0, none⟩) (xs.length + 1) cap) (xs ++ [x]) ∧
      Fr g v w (w2.setCell ⟨g, 0, none⟩ (.slice (some ⟨gg, 0, none⟩) (xs.length + 1) cap)) ∧ Newer w v (.slice (some ⟨gg, 0, none⟩) (xs.length + 1) cap) := by
  have hgrow' : (w.alloc o).grownBy w2 v.ownBlock := ⟨hgrow.os, hgrow.tape, hgrow.output, hgrow.size, hgrow.block⟩
  have hb : Boxed w2 g 37 v := (h.box.alloc o).kept hgrow' h.ne
  have hs := grownBy_setCell' w2 g (.slice (some ⟨gg, 0, none⟩) (xs.length + 1) cap)
  refine ⟨⟨hb.set _, h.low, ?_⟩, ⟨hs.os.trans hgrow'.os, hs.tape.trans hgrow'.tape, hs.output.trans hgrow'.output, ?_, ?_⟩, ?_⟩
  · have := hown.kept hs (.inr (hb.not_row (by decide) hown).symm)
    rw [List.length_append, show [x].length = 1 from rfl, show nums .u8 (xs ++ [x]) = nums .u8 xs ++ [.int .u8 x] from by simp [nums]]
    exact this
  · have h1 := hgrow'.size
    have h2 := hs.size
    rw [World.size_alloc] at h1
    omega
  · intro k hk hkg hkv
    have h1 : (w.alloc o).heap[k]? = w.heap[k]? := Below.heap_alloc w o k hk
    rw [hs.block k (by have := hgrow'.size; rw [World.size_alloc] at this; omega) (fun e => hkg (by injection e)), hgrow'.block k (by rw [World.size_alloc]; omega) hkv, h1]
  · rcases hat with e | e
    · exact .inl e.symm
    · exact .inr fun b hb' => by
        have : b = gg := by simpa [Value.ownBlock] using hb'.symm
        omega
theorem bitL_succ (n : Int) (W r : Nat) (hr : r + 1 ≤ W) : bitL n W r = bitL n W (r + 1) ++ [bitv n r] := by
  unfold bitL
  rw [show W - r = (W - (r + 1)) + 1 by omega, List.range_succ, List.map_append]
  congr 1
  show [bitv n (W - 1 - (W - (r + 1)))] = _
  congr 2; omega
set_option maxRecDepth 100000 in
set_option maxHeartbeats 4000000 in
theorem bitioPut_calls (n₀ g : Nat) (v : Value) (xs : List Int) (n wide : Int) (w : World) (h : WS w n₀ g v xs) (hlen : xs.length ≤ 1000000) :
    Calls Try.prog 13 #[.pointer (some ⟨g, 0, none⟩), .int .i64 n, .int .i64 wide] w fun e w' => e = .returned (.int .i64 (putE n wide)) ∧ ∃ v', WS w' n₀ g v' (xs ++ putL n wide) ∧ Fr g v w w' ∧ Newer w v v' := by
  obtain ⟨i0, hi, hz0, hz1, hz2⟩ := info_parts u8_info
  cases hwd : bitioWidthF wide with
  | false =>
    have e1 : putE n wide = 1 := by unfold putE; rw [hwd]; rfl
    have e2 : putL n wide = [] := by unfold putL; rw [e1]; rfl
    rw [e1, e2, List.append_nil]
    go_enter Try.func13, Try.ntmps13
    go_wp2_with (go_at_call 30; refine (bitioWidth_calls wide _).mono ?_; rintro e w1 ⟨rfl, hb⟩; simp only [hwd])
    go_ret
    exact ⟨by simp, v, h.below hb, Fr.of_below hb, Newer.refl _ _⟩
  | true =>
    have hwide : 1 ≤ wide ∧ wide ≤ 32 := by simpa [bitioWidthF] using hwd
    by_cases hn : n < 0
    · have e1 : putE n wide = 5 := by unfold putE; rw [hwd, if_pos rfl, if_pos hn]
      have e2 : putL n wide = [] := by unfold putL; rw [e1]; rfl
      have hn' : decide (n < 0) = true := decide_eq_true hn
      rw [e1, e2, List.append_nil]
      go_enter Try.func13, Try.ntmps13
      go_wp2_with (go_at_call 30; refine (bitioWidth_calls wide _).mono ?_; rintro e w1 ⟨rfl, hb⟩; simp only [hwd])
      go_ret
      exact ⟨by simp, v, h.below hb, Fr.of_below hb, Newer.refl _ _⟩
    · have hn' : decide (n < 0) = false := decide_eq_false hn
      obtain ⟨W, rfl⟩ := Int.eq_ofNat_of_zero_le (show 0 ≤ wide by omega)
      by_cases hs : n / 2 ^ W = 0
      · have e1 : putE n (W : Int) = 0 := by unfold putE; rw [hwd, if_pos rfl, if_neg hn, Int.toNat_natCast, if_pos hs]
        have hs' : (n / 2 ^ W != 0) = false := by simp [hs]
        have e2 : putL n (W : Int) = bitL n W 0 := by unfold putL; rw [e1]; rfl
        rw [e1, e2]
        go_enter Try.func13, Try.ntmps13
        go_wp2_with (go_at_call 30; refine (bitioWidth_calls (W : Int) _).mono ?_; rintro e w1 ⟨rfl, hb⟩; simp only [hwd])
        have hW := hwide
        go_loopw [7] (fun v7 wr => ∃ r : Nat, r ≤ W ∧ v7 = .int .i64 ((r : Int) - 1) ∧ ∃ v', Aside0 (WS wr n₀ g v' (xs ++ bitL n W r)) ∧ Aside0 (Fr g v w wr) ∧ Aside0 (Newer w v v')) (fun v7 _ => (intOf v7 + 1).toNat)
        case atStart =>
          refine ⟨W, Nat.le_refl _, by simp, v, ⟨?_⟩, ⟨Fr.of_below hb⟩, ⟨Newer.refl _ _⟩⟩
          unfold bitL; rw [Nat.sub_self, List.range_zero, List.map_nil, List.append_nil]; exact h.below hb
        case round =>
          obtain ⟨r, hr, rfl, v1, HS, HF, HN⟩ := hrel
          cases r with
          | zero =>
            go_wp2
            go_ret
            exact ⟨by simp, v1, HS.out, HF.out, HN.out⟩
          | succ r =>
            have e8 : (((r + 1 : Nat) : Int) - 1) = (r : Int) := by omega
            rw [e8]
            have hc := HS.out.box.cell
            have hf := HS.out.box.frozen
            go_wp2
            have hne := HS.out.ne
            have hlt := HS.out.lt
            have hl1 : (xs ++ bitL n W (r + 1)).length ≤ 1000100 := by
              rw [List.length_append]; unfold bitL; rw [List.length_map, List.length_range]; omega
            go_region_law
              (refine step_append_lies _ (by rfl) _ _ _ (by rfl) n₀ 5 i0 _ 1 1 Try.underlying22 hi hz0 hz1 hz2 rfl (by omega) v1 _ (nums .u8 (xs ++ bitL n W (r + 1))) (by rfl) (((HS.out.row).alloc _).drew)
                    ⟨wr.heap.size, 0, none⟩ 1 1 [.int .u8 (bitv n r)] (by rfl) (by rfl) (World.news_of_block (cs := #[.int .u8 (bitv n r)]) (t := 5) (fr := (0, 0)) (heap_alloc_new wr _)) (by simp [Value.oneCell'])
                    (by omega) (by unfold maxLen; omega) (by omega) (by have := HS.out.low; simp; omega) (wr.heap.size + 1) (by simp) ?_; intro gg cap w2 hown1 hgrow hat hlt2; have hc2 : w2.cell? ⟨g, 0, none⟩ = some v1 := (hgrow.cell_far _ (by simp; omega) hne).trans (HS.out.box.alloc _).cell; have hf2 : w2.frozen? ⟨g, 0, none⟩ = false := (hgrow.frozen_far _ (by simp; omega) hne).trans (HS.out.box.alloc _).frozen)
            all_goals
              go_wp2
              obtain ⟨hS2, hF2, hN2⟩ := HS.out.appended hown1 hgrow hat
              rw [List.length_append] at hS2 hF2 hN2
              go_roundw
              case rel =>
                refine ⟨r, by omega, by simp, _, ⟨?_⟩, ⟨HF.out.trans HN.out hF2⟩, ⟨HN.out.trans HF.out.size hN2⟩⟩
                rw [bitL_succ n W r hr, ← List.append_assoc]
                exact hS2
              case measure => simp [intOf]
      · have e1 : putE n (W : Int) = 5 := by unfold putE; rw [hwd, if_pos rfl, if_neg hn, Int.toNat_natCast, if_neg hs]
        have hs' : (n / 2 ^ W != 0) = true := by simp [hs]
        have e2 : putL n (W : Int) = [] := by unfold putL; rw [e1]; rfl
        rw [e1, e2, List.append_nil]
        go_enter Try.func13, Try.ntmps13
        go_wp2_with (go_at_call 30; refine (bitioWidth_calls (W : Int) _).mono ?_; rintro e w1 ⟨rfl, hb⟩; simp only [hwd])
        go_ret
        exact ⟨by simp, v, h.below hb, Fr.of_below hb, Newer.refl _ _⟩
end Go.Proofs.Ytmajbcglpcagoaa.B
