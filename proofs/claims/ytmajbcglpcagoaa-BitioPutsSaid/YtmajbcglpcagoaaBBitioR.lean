/- The bit reader's methods by hand: a pointer to a struct that holds what is left of a row of bits. No condition but lengths. -/
import Derived.Test.YtmajbcglpcagoaaBBitioW
import Derived.Test.YtmajbcglpcagoaaB15
import Derived.Test.YtmajbcglpcagoaaB18
namespace Go.Proofs.Ytmajbcglpcagoaa.B
open Go Go.RowKit Go.Proofs.YtmajbcglpcagoaaW.PrintWords Go.Proofs.YtmajbcglpcagoaaW.PrintLast Go.Proofs.YtmajbcglpcagoaaW.PrintMore
set_option linter.unusedVariables false
set_option linter.unusedSimpArgs false
attribute [local go_sem ↓] Go.wp_at_zero Go.wp_at_succ

/-- But for block g nothing has turned. -/
abbrev Fg (g : Nat) (w w' : World) : Prop := Fr g (.slice none 0 0) w w'
theorem Fg.trans {g : Nat} {w w1 w2 : World} (h : Fg g w w1) (k : Fg g w1 w2) : Fg g w w2 := Fr.trans h (Newer.refl _ _) k
theorem Fg.at {g : Nat} {w w' : World} (h : Fg g w w') (k : Nat) (hk : k < w.heap.size) (hg : k ≠ g) : w'.heap[k]? = w.heap[k]? := h.block k hk hg (by simp [Value.ownBlock])
/-- The reader at block g has xs left; its row lies in lo ... g. -/
structure RS (w : World) (lo g : Nat) (v : Value) (xs : List Int) : Prop where
  box : Boxed w g 63 v
  row : Kd.V (Kd.int .u8) 5 w 0 (fun k => lo ≤ k ∧ k < g) v xs
theorem RS.kept {w w' : World} {lo g : Nat} {v : Value} {xs : List Int} (h : RS w lo g v xs) (hk : ∀ k, lo ≤ k → k ≤ g → w'.heap[k]? = w.heap[k]?) (hl : lo ≤ g) : RS w' lo g v xs :=
  ⟨(hk g hl (Nat.le_refl _)).trans h.box, Kd.V_step h.row (fun k ok _ => hk k ok.1 (Nat.le_of_lt ok.2))⟩
theorem RS.lt {w : World} {lo g : Nat} {v : Value} {xs : List Int} (h : RS w lo g v xs) : g < w.heap.size := h.box.lt
theorem RS.below {w w' : World} {lo g : Nat} {v : Value} {xs : List Int} (h : RS w lo g v xs) (hb : Below w.heap.size w w') (hl : lo ≤ g) : RS w' lo g v xs :=
  h.kept (fun k _ hk => hb.block k (by have := h.lt; omega)) hl
theorem RS.set {w : World} {lo g : Nat} {v v' : Value} {xs xs' : List Int} (h : RS w lo g v xs) (hv : Kd.V (Kd.int .u8) 5 w 0 (fun k => lo ≤ k ∧ k < g) v' xs') : RS (w.setCell ⟨g, 0, none⟩ v') lo g v' xs' :=
  ⟨h.box.set v', Kd.V_far hv (fun k hk => by show k ≠ g; omega) v'⟩
theorem Fg.set {w : World} {g : Nat} (v' : Value) : Fg g w (w.setCell ⟨g, 0, none⟩ v') := by
  have hs := grownBy_setCell' w g v'
  exact ⟨hs.os, hs.tape, hs.output, hs.size, fun k hk hg _ => hs.block k hk (fun e => hg (by injection e))⟩
theorem Fg.of_below {g : Nat} {w w' : World} (h : Below w.heap.size w w') : Fg g w w' := Fr.of_below h
set_option maxRecDepth 100000 in
set_option maxHeartbeats 4000000 in
theorem bitioOf_calls (A : Option Addr) (c : Nat) (l : List Int) (w : World) (hr : Kd.C (Kd.int .u8) w A l.length l) (hc : l.length ≤ c) (k : Nat) (bs : List Int) (hb : bits_Of.f k l = some bs) :
    Calls Try.prog 19 #[.slice A l.length c] w fun e w' => ∃ g v, e = .returned (.pointer (some ⟨g, 0, none⟩)) ∧ w.heap.size ≤ g ∧ RS w' w.heap.size g v bs ∧ Below w.heap.size w w' := by
  go_enter Try.func19, Try.ntmps19
  go_wp2_with (go_at_call 32; refine (bits_Of.calls k _ _ l bs _ hr hc hb).mono ?_; rintro e w1 ⟨u, rfl, hu, hB⟩; obtain ⟨A1, c1, rfl⟩ := Kd.R_slice hu)
  go_ret
  have hs : w.heap.size ≤ w1.heap.size := hB.size
  refine ⟨w1.heap.size, _, by simp, hs, ⟨Boxed.new w1 63 _, ?_⟩, below_alloc hB _⟩
  refine Kd.V_alloc ?_ _
  have hv : Kd.V (Kd.int .u8) 5 w1 0 (fun k => True ∧ w.heap.size ≤ k ∧ k < w1.heap.size ∧ ∃ q, q ∈ 5 :: (Kd.int .u8).E ∧ ∃ cells, w1.heap[k]? = some (.cells cells q (0, 0))) _ bs := Kd.R_V (Kd.R_bound hu)
  exact Kd.V_mono hv (fun k hk => ⟨hk.2.1, hk.2.2.1⟩)
def tkE (xs : List Int) (wide : Int) : Int := if bitioWidthF wide = true then (if (xs.length : Int) < wide then 2 else 0) else 1
def tkS (n b : Int) : Int := Go.bits .or .i64 (wrap64 (n * 2)) (wrap64 b)
def tkN (xs : List Int) (wide : Int) : Int := if tkE xs wide = 0 then (xs.take wide.toNat).foldl tkS 0 else 0
def tkL (xs : List Int) (wide : Int) : List Int := if tkE xs wide = 0 then xs.drop wide.toNat else xs
set_option maxRecDepth 100000 in
set_option maxHeartbeats 4000000 in
theorem bitioTake_calls (lo g : Nat) (v : Value) (xs : List Int) (wide : Int) (w : World) (h : RS w lo g v xs) (hlo : lo ≤ g) :
    Calls Try.prog 20 #[.pointer (some ⟨g, 0, none⟩), .int .i64 wide] w fun e w' => e = .returned (.tuple #[.int .i64 (tkN xs wide), .int .i64 (tkE xs wide)]) ∧ (∃ v', RS w' lo g v' (tkL xs wide)) ∧ Fg g w w' := by
  obtain ⟨i0, hi, hz0, hz1, hz2⟩ := info_parts u8_info
  obtain ⟨A, c, rfl⟩ := Kd.V_slice h.row
  have hC := Kd.V_reads' h.row
  cases hwd : bitioWidthF wide with
  | false =>
    have e1 : tkE xs wide = 1 := by unfold tkE; rw [hwd]; rfl
    have e2 : tkN xs wide = 0 := by unfold tkN; rw [e1]; rfl
    have e3 : tkL xs wide = xs := by unfold tkL; rw [e1]; rfl
    rw [e1, e2, e3]
    go_enter Try.func20, Try.ntmps20
    go_wp2_with (go_at_call 30; refine (bitioWidth_calls wide _).mono ?_; rintro e w1 ⟨rfl, hb⟩; simp only [hwd])
    go_ret2
    exact ⟨by simp, ⟨_, h.below hb hlo⟩, Fg.of_below hb⟩
  | true =>
    have hwide : 1 ≤ wide ∧ wide ≤ 32 := by simpa [bitioWidthF] using hwd
    have hc := h.box.cell
    have hf := h.box.frozen
    by_cases hs : (xs.length : Int) < wide
    · have e1 : tkE xs wide = 2 := by unfold tkE; rw [hwd, if_pos rfl, if_pos hs]
      have e2 : tkN xs wide = 0 := by unfold tkN; rw [e1]; rfl
      have e3 : tkL xs wide = xs := by unfold tkL; rw [e1]; rfl
      have hs' : decide ((xs.length : Int) < wide) = true := decide_eq_true hs
      rw [e1, e2, e3]
      go_enter Try.func20, Try.ntmps20
      go_wp2_with (go_at_call 30; refine (bitioWidth_calls wide _).mono ?_; rintro e w1 ⟨rfl, hb⟩; simp only [hwd]; have hc1 := (h.below hb hlo).box.cell)
      go_ret2
      exact ⟨by simp, ⟨_, h.below hb hlo⟩, Fg.of_below hb⟩
    · have e1 : tkE xs wide = 0 := by unfold tkE; rw [hwd, if_pos rfl, if_neg hs]
      have hs' : decide ((xs.length : Int) < wide) = false := decide_eq_false hs
      obtain ⟨W, rfl⟩ := Int.eq_ofNat_of_zero_le (show 0 ≤ wide by omega)
      have e2 : tkN xs (W : Int) = (xs.take W).foldl tkS 0 := by unfold tkN; rw [e1]; rfl
      have e3 : tkL xs (W : Int) = xs.drop W := by unfold tkL; rw [e1]; rfl
      rw [e1, e2, e3]
      obtain ⟨hcut, hA, hCC⟩ := print_take_of (P := Try.prog) (Value.int .u8) 0 22 5 .i64 Try.underlying22 hi hz1 A c xs (W : Int) (by omega) (by omega) hC.2.1
      obtain ⟨A', hcut2, hA2, hC2⟩ := print_drop_of (P := Try.prog) (Value.int .u8) 0 22 5 .i64 Try.underlying22 hi hz1 A c xs (W : Int) (by omega) (by omega) hC.2.1
      go_enter Try.func20, Try.ntmps20
      go_wp2_with (go_at_call 30; refine (bitioWidth_calls (W : Int) _).mono ?_; rintro e w1 ⟨rfl, hb⟩; simp only [hwd]; have h1 := h.below hb hlo; have hc1 := h1.box.cell; have hf1 := h1.box.frozen)
      have hmin : min W xs.length = W := by omega
      rw [hmin]
      have hD := Kd.C_below hC.2.2 hb
      go_loopw [6, 32] (fun v6 v32 wr => ∃ r : Nat, r ≤ W ∧ v32 = .int .i64 (r : Int) ∧ v6 = .int .i64 ((xs.take r).foldl tkS 0) ∧ wr = w1) (fun v6 v32 _ => W - (intOf v32).toNat)
      case atStart => exact ⟨0, by omega, by simp, by simp, rfl⟩
      case round =>
        obtain ⟨r, hr, rfl, rfl, rfl⟩ := hrel
        by_cases hlt : r < W
        · obtain ⟨ad, rfl, hcell⟩ := ReadsOf.at_ (Kd.reads_of_C (d := (0 : Int)) hD) (r : Int) (by omega) (by omega)
          rw [Int.toNat_natCast] at hcell
          have hlt' : decide ((r : Int) < (W : Int)) = true := decide_eq_true (by omega)
          go_wp2
          have hx : xs.take (r + 1) = xs.take r ++ [rdOf 0 xs (r : Int)] := by
            have hl : r < xs.length := by omega
            rw [List.take_succ_eq_append_getElem hl]
            congr 2
            simp [rdOf, hl]
          go_roundw
          case rel => exact ⟨r + 1, by omega, by simp, by rw [hx, List.foldl_append]; rfl, trivial⟩
          case measure => simp [intOf]; omega
        · obtain rfl : r = W := by omega
          have hlt' : decide ((r : Int) < (r : Int)) = false := decide_eq_false (by omega)
          go_wp2
          go_ret2
          have hv : Kd.V (Kd.int .u8) 5 wr 0 (fun k => lo ≤ k ∧ k < g) (.slice A' (xs.drop r).length (c - r)) (xs.drop r) :=
            Kd.V_mk hC2 (Kd.F_imp (Kd.V_at h1.row).2.2 (fun w' hw => Kd.C_of_reads (hA2 w' (Kd.reads_of_C hw))))
          rw [List.length_drop] at hv
          exact ⟨by simp, ⟨_, h1.set hv⟩, Fg.trans (Fg.of_below hb) (Fg.set _)⟩
set_option maxRecDepth 100000 in
set_option maxHeartbeats 4000000 in
theorem bitioLeft_calls (lo g : Nat) (v : Value) (xs : List Int) (w : World) (h : RS w lo g v xs) :
    Calls Try.prog 22 #[.pointer (some ⟨g, 0, none⟩)] w fun e w' => e = .returned (.int .i64 (xs.length : Int)) ∧ Below w.heap.size w w' := by
  obtain ⟨A, c, rfl⟩ := Kd.V_slice h.row
  have hc := h.box.cell
  go_enter Try.func22, Try.ntmps22
  go_wp2
  go_ret
  exact ⟨by simp, by repeat (first | (with_reducible first | exact Below.refl _ _ | apply below_drew1) | exact Below.refl _ _)⟩
set_option maxRecDepth 100000 in
set_option maxHeartbeats 4000000 in
theorem bitioLeft_nil (w : World) : Calls Try.prog 22 #[.pointer none] w fun e w' => e = .returned (.int .i64 0) ∧ Below w.heap.size w w' := by
  go_enter Try.func22, Try.ntmps22
  go_wp2
  go_ret
  exact ⟨by simp, by repeat (first | (with_reducible first | exact Below.refl _ _ | apply below_drew1) | exact Below.refl _ _)⟩
set_option maxRecDepth 100000 in
set_option maxHeartbeats 4000000 in
theorem bitioTake_nil (wide : Int) (w : World) : Calls Try.prog 20 #[.pointer none, .int .i64 wide] w fun e w' => e = .returned (.tuple #[.int .i64 0, .int .i64 1]) ∧ Below w.heap.size w w' := by
  go_enter Try.func20, Try.ntmps20
  go_wp2
  go_ret2
  exact ⟨by simp, by repeat (first | (with_reducible first | exact Below.refl _ _ | apply below_drew1) | exact Below.refl _ _)⟩
set_option maxRecDepth 100000 in
set_option maxHeartbeats 4000000 in
theorem bitioPad_nil (w : World) : Calls Try.prog 21 #[.pointer none] w fun e w' => e = .returned (.int .i64 1) ∧ Below w.heap.size w w' := by
  go_enter Try.func21, Try.ntmps21
  go_wp2
  go_ret
  exact ⟨by simp, by repeat (first | (with_reducible first | exact Below.refl _ _ | apply below_drew1) | exact Below.refl _ _)⟩
def pdE (xs : List Int) (n : Int) : Int := if (xs.length : Int) ≥ 8 then 3 else if n = 0 then 0 else 5
def pdL (xs : List Int) (n : Int) : List Int := if pdE xs n = 0 then [] else xs
set_option maxRecDepth 100000 in
set_option maxHeartbeats 4000000 in
theorem bitioPad_calls (lo g : Nat) (v : Value) (xs : List Int) (w : World) (h : RS w lo g v xs) (hlo : lo ≤ g) (k : Nat) (n : Int) (hn : bits_Weight.f k xs = some n) :
    Calls Try.prog 21 #[.pointer (some ⟨g, 0, none⟩)] w fun e w' => e = .returned (.int .i64 (pdE xs n)) ∧ (∃ v', RS w' lo g v' (pdL xs n)) ∧ Fg g w w' := by
  obtain ⟨A, c, rfl⟩ := Kd.V_slice h.row
  have hC := Kd.V_reads' h.row
  have hc := h.box.cell
  have hf := h.box.frozen
  by_cases h8 : (xs.length : Int) ≥ 8
  · have e1 : pdE xs n = 3 := by unfold pdE; rw [if_pos h8]
    have e2 : pdL xs n = xs := by unfold pdL; rw [e1]; rfl
    have h8' : decide ((xs.length : Int) ≥ 8) = true := decide_eq_true h8
    rw [e1, e2]
    go_enter Try.func21, Try.ntmps21
    go_wp2
    go_ret
    exact ⟨by simp, ⟨_, h⟩, Fg.of_below (Below.refl _ _)⟩
  · have h8' : decide ((xs.length : Int) ≥ 8) = false := decide_eq_false h8
    by_cases h0 : n = 0
    · have e1 : pdE xs n = 0 := by unfold pdE; rw [if_neg h8, if_pos h0]
      have e2 : pdL xs n = [] := by unfold pdL; rw [e1]; rfl
      rw [e1, e2]
      subst h0
      go_enter Try.func21, Try.ntmps21
      go_wp2_with (go_at_call 33; refine (bits_Weight.calls k _ _ xs 0 _ hC.2.2 hC.2.1 hn).mono ?_; rintro e w1 ⟨rfl, hd⟩; have hb : Below w.heap.size w w1 := hd.below; have h1 := h.below hb hlo; have hc1 := h1.box.cell; have hf1 := h1.box.frozen)
      go_ret
      exact ⟨by simp, ⟨_, h1.set (Kd.V_nil _ _ _ _ _)⟩, Fg.trans (Fg.of_below hb) (Fg.set _)⟩
    · have e1 : pdE xs n = 5 := by unfold pdE; rw [if_neg h8, if_neg h0]
      have e2 : pdL xs n = xs := by unfold pdL; rw [e1]; rfl
      have h0' : (n != 0) = true := by simp [h0]
      rw [e1, e2]
      go_enter Try.func21, Try.ntmps21
      go_wp2_with (go_at_call 33; refine (bits_Weight.calls k _ _ xs n _ hC.2.2 hC.2.1 hn).mono ?_; rintro e w1 ⟨rfl, hd⟩; have hb : Below w.heap.size w w1 := hd.below; have h1 := h.below hb hlo; have hc1 := h1.box.cell; have hf1 := h1.box.frozen)
      go_ret
      exact ⟨by simp, ⟨_, h1⟩, Fg.of_below hb⟩
end Go.Proofs.Ytmajbcglpcagoaa.B
