/- The reference's CRC-32, walked by hand: a list of bits is made, its first 32 are turned, it is divided by the polynomial; the rest is the register. No condition but lengths. -/
import Derived.Test.YtkhpgjojbdgkfaaDRefM
import Derived.RangeFuncBox
import Derived.Deep.DrawnRows
namespace Go.Proofs.Ytkhpgjojbdgkfaa.D
open Go Go.RowKit Go.Proofs.YtkhpgjojbdgkfaaW.PrintWords Go.Proofs.YtkhpgjojbdgkfaaW.PrintLast Go.Proofs.YtkhpgjojbdgkfaaW.PrintMore
set_option linter.unusedVariables false

theorem u8_info : (Try.prog.info? 5).map (fun i => (i.zero, i.size, i.bytes)) = some (some (.int .u8 0), 1, 1) := by kernel_rfl
theorem crc_row_size : (Try.prog.info? 54).map (·.size) = some 33 := by kernel_rfl
def pV : Array Value := (nums .u8 (bl 33 pol)).toArray
theorem pV_size : pV.size = 33 := by simp [pV, nums, bl_length]
theorem pV_one : pV.all (·.oneCell') = true := by
  rw [Array.all_eq_true]
  intro j hj
  simp [pV, nums, Value.oneCell']
theorem pV_get (k : Nat) (h : k < 33) : pV[k]? = some (.int .u8 (bi (pol k))) := by
  unfold pV; rw [List.getElem?_toArray]; exact nums_bl 33 pol k h
theorem pV_lit : #[Value.int .u8 1, .int .u8 0, .int .u8 0, .int .u8 0, .int .u8 0, .int .u8 0, .int .u8 1, .int .u8 0, .int .u8 0, .int .u8 1, .int .u8 1, .int .u8 0, .int .u8 0, .int .u8 0, .int .u8 0, .int .u8 0, .int .u8 1, .int .u8 0, .int .u8 0, .int .u8 0, .int .u8 1, .int .u8 1, .int .u8 1, .int .u8 0, .int .u8 1, .int .u8 1, .int .u8 0, .int .u8 1, .int .u8 1, .int .u8 0, .int .u8 1, .int .u8 1, .int .u8 1] = pV := by
  apply Array.ext'
  show _ = nums .u8 (bl 33 pol)
  rw [show bl 33 pol = [1, 0, 0, 0, 0, 0, 1, 0, 0, 1, 1, 0, 0, 0, 0, 0, 1, 0, 0, 0, 1, 1, 1, 0, 1, 1, 0, 1, 1, 0, 1, 1, 1] from by decide +kernel]
  rfl
/-- What an append does to all else. -/
theorem below_appended {w wr w2 : World} {v : Value} {n : Nat} {xs : List Value} {o : Obj} (hB : Below w.heap.size w wr) (hrow : wr.ownsRow w.heap.size 5 1 v n xs) (hg : (wr.alloc o).grownBy w2 v.ownBlock) : Below w.heap.size w w2 :=
  (hB.alloc hB.size o).grown hg (by have := hB.size; rw [World.size_alloc]; omega) (fun k e => (hrow.lt k e).1)
theorem bi_mod (b : Bool) : bi b % 4294967296 = bi b := by cases b <;> decide
theorem row_ne {w : World} {b g n cap : Nat} {xs : List Value} (h : w.ownsRow b 5 1 (.slice (some ⟨g, 0, none⟩) n cap) n xs) : ¬ w.heap[g]? = some (.cells pV 54 (0, 0)) := by
  intro e
  rcases h.2 with ⟨h', _⟩ | ⟨g', cap', cur, h', _, hg, _⟩
  · cases h'
  · cases h'
    rw [hg] at e
    cases e
set_option maxRecDepth 100000 in
set_option maxHeartbeats 8000000 in
theorem shuttleref04_Sum_walk (A0 : Option Addr) (c0 : Nat) (l0 : List Int) (w : World) (hr0 : Kd.C (Kd.int .u8) w A0 l0.length l0) (hc0 : l0.length ≤ c0) (hw : ∀ x ∈ l0, 0 ≤ x ∧ x ≤ 255) (hl : l0.length ≤ 1000) :
    Calls Try.prog 29 #[.slice A0 l0.length c0] w fun e w' => e = .returned (.int .u32 ((sum32 l0).toNat : Int)) ∧ Below w.heap.size w w' := by
  have hu54 := Try.underlying54
  replace hr0 := Aside0.mk hr0
  obtain ⟨i0, hi, hz0, hz1, hz2⟩ := info_parts u8_info
  go_enter Try.func29, Try.ntmps29
  go_wp2
  go_loopw [3, 4] (fun v3 v4 wr => ∃ i : Nat, i ≤ l0.length ∧ v4 = .int .i64 (i : Int) ∧ Aside0 (wr.ownsRow w.heap.size 5 1 v3 (8 * i) (nums .u8 (bl (8 * i) (msg l0)))) ∧ Aside0 (Below w.heap.size w wr)) (fun _ v4 _ => l0.length - (intOf v4).toNat)
  case atStart => exact ⟨0, by omega, rfl, ⟨World.ownsRow_nil _ _ _ _⟩, ⟨Below.refl _ _⟩⟩
  case round =>
    obtain ⟨i, hil, rfl, HR, HB⟩ := hrel
    by_cases hlt : i < l0.length
    · have hlt' : (i : Int) < (l0.length : Int) := by omega
      go_wp2
      go_loopw [3, 5] (fun v3 v5 wr => ∃ q : Nat, q ≤ 8 ∧ v5 = .int .i64 (q : Int) ∧ Aside0 (wr.ownsRow w.heap.size 5 1 v3 (8 * i + q) (nums .u8 (bl (8 * i + q) (msg l0)))) ∧ Aside0 (Below w.heap.size w wr)) (fun _ v5 _ => 8 - (intOf v5).toNat)
      case atStart => exact ⟨0, by omega, rfl, HR, HB⟩
      case round =>
        clear HR HB
        obtain ⟨q, hq8, rfl, HR, HB⟩ := hrel
        by_cases hq : q < 8
        · have hq' : (q : Int) < 8 := by omega
          obtain ⟨ad, hA, hcs⟩ := (Kd.C_below hr0.out HB.out).2.2 (by omega)
          subst hA
          have hx : wr.cell? (ad.add i) = some (.int .u8 l0[i]) := by
            obtain ⟨c, h1, h2, h3⟩ := hcs i _ (List.getElem?_eq_getElem hlt)
            have h2' : c = [Value.int .u8 l0[i]] := h2
            subst h2'
            have h4 := h3 0 _ rfl
            simpa [Kd.int, Kd.scalar] using h4
          clear hcs
          have hmsg := msg_go l0 hw i q hlt hq
          go_wp2_with (at_builtin; refine wpList_append_own _ rfl _ _ 22 rfl w.heap.size 5 i0 (.int .u8 0) 1 1 Try.underlying22 hi hz0 hz1 hz2 rfl (by decide) _ _ (nums .u8 (bl (8 * i + q) (msg l0))) rfl (HR.out.alloc _) ⟨wr.heap.size, 0, none⟩ 1 1 [.int .u8 (bi (msg l0 (8 * i + q)))] rfl rfl (cell_one_new _ _ _) (by simp [Value.oneCell']) (by unfold maxLen; omega) (by omega) (by have := HB.out.size; simp; omega) ?_; intro v' w2 hown' hgrow _)
          refine ⟨⟨q + 1, by omega, by simp, ⟨?_⟩, ⟨below_appended HB.out HR.out hgrow⟩⟩, by simp [intOf]; omega⟩
          have e := nums_bl_snoc (8 * i + q) (msg l0)
          show w2.ownsRow w.heap.size 5 1 v' (8 * i + q + 1) (nums .u8 (bl (8 * i + q + 1) (msg l0)))
          rw [e]; exact hown'
        · obtain rfl : q = 8 := by omega
          go_wp2
          exact ⟨⟨i + 1, by omega, by simp, HR, HB⟩, by simp [intOf]; omega⟩
    · obtain rfl : i = l0.length := by omega
      go_wp2
      clear hlt
      go_loopw [3, 6] (fun v3 v6 wr => ∃ q : Nat, q ≤ 32 ∧ v6 = .int .i64 (q : Int) ∧ Aside0 (wr.ownsRow w.heap.size 5 1 v3 (8 * l0.length + q) (nums .u8 (bl (8 * l0.length + q) (msg l0)))) ∧ Aside0 (Below w.heap.size w wr)) (fun _ v6 _ => 32 - (intOf v6).toNat)
      case atStart => exact ⟨0, by omega, rfl, HR, HB⟩
      case round =>
        clear HR HB
        obtain ⟨q, hq32, rfl, HR, HB⟩ := hrel
        by_cases hq : q < 32
        · have hq' : (q : Int) < 32 := by omega
          have h0 : bi (msg l0 (8 * l0.length + q)) = 0 := by rw [msg_out l0 _ (by omega)]; rfl
          go_wp2_with (at_builtin; refine wpList_append_own _ rfl _ _ 22 rfl w.heap.size 5 i0 (.int .u8 0) 1 1 Try.underlying22 hi hz0 hz1 hz2 rfl (by decide) _ _ (nums .u8 (bl (8 * l0.length + q) (msg l0))) rfl (HR.out.alloc _) ⟨wr.heap.size, 0, none⟩ 1 1 [.int .u8 0] rfl rfl (cell_one_new _ _ _) (by simp [Value.oneCell']) (by unfold maxLen; omega) (by omega) (by have := HB.out.size; simp; omega) ?_; intro v' w2 hown' hgrow _)
          refine ⟨⟨q + 1, by omega, by simp, ⟨?_⟩, ⟨below_appended HB.out HR.out hgrow⟩⟩, by simp [intOf]; omega⟩
          have e := nums_bl_snoc (8 * l0.length + q) (msg l0)
          show w2.ownsRow w.heap.size 5 1 v' (8 * l0.length + q + 1) (nums .u8 (bl (8 * l0.length + q + 1) (msg l0)))
          rw [e, h0]; exact hown'
        · obtain rfl : q = 32 := by omega
          obtain ⟨N, hN⟩ : ∃ N, N = 8 * l0.length + 32 := ⟨_, rfl⟩
          have HR0 := HR.out
          rw [← hN] at HR0
          obtain ⟨g, cap, hv⟩ := ownsRow_succ (k := 8 * l0.length + 31) HR.out
          rw [show 8 * l0.length + 31 + 1 = N by omega] at hv
          subst hv
          have h32N : 32 ≤ N := by omega
          have hNm : N ≤ 8032 := by omega
          have HN := Aside0.mk hN
          clear hN
          have HR1 : Aside0 (wr.ownsRow w.heap.size 5 1 (.slice (some ⟨g, 0, none⟩) N cap) N (nums .u8 (bl N (fun t => msg l0 t ^^ decide (t < 0))))) := ⟨by rw [bl_congr (C := msg l0) (fun t _ => by simp)]; exact HR0⟩
          have hgw : Aside0 (w.heap.size ≤ g) := ⟨(HR0.lt g rfl).1⟩
          have hNc : Aside0 (N ≤ cap) := ⟨by
            rcases HR0.2 with ⟨h', _⟩ | ⟨_, _, _, h', _, _, h2, _⟩
            · cases h'
            · cases h'; exact h2⟩
          clear HR HR0
          go_wp2
          go_loopw [7] (fun v7 wr => ∃ q : Nat, q ≤ 32 ∧ v7 = .int .i64 (q : Int) ∧ Aside0 (wr.ownsRow w.heap.size 5 1 (.slice (some ⟨g, 0, none⟩) N cap) N (nums .u8 (bl N (fun t => msg l0 t ^^ decide (t < q))))) ∧ Aside0 (Below w.heap.size w wr)) (fun v7 _ => 32 - (intOf v7).toNat)
          case atStart => exact ⟨0, by omega, rfl, HR1, HB⟩
          case round =>
            clear HR1 HB
            obtain ⟨q, hq32, rfl, HR, HB⟩ := hrel
            by_cases hq : q < 32
            · have hq' : (q : Int) < 32 := by omega
              have hqN : (q : Int) < (N : Int) := by omega
              have hx : wr.cell? ⟨g, q, none⟩ = some (.int .u8 (bi (msg l0 q))) := by
                rw [(HR.out.cellAt q (by omega)).trans (nums_bl N _ q (by omega))]; simp
              have hf := HR.out.frozenAt q
              go_wp2
              have hst := (HR.out.stored q (.int .u8 (Go.bits .xor .u8 (bi (msg l0 q)) 1))).1
              rw [show (nums .u8 (bl N (fun t => msg l0 t ^^ decide (t < q)))).set q (.int .u8 (Go.bits .xor .u8 (bi (msg l0 q)) 1)) = nums .u8 (bl N (fun t => msg l0 t ^^ decide (t < q + 1))) from by
                rw [show Go.bits .xor .u8 (bi (msg l0 q)) 1 = bi (msg l0 q ^^ decide (q < q + 1)) from by rw [show (1 : Int) = bi true from rfl, bi_xor]; simp]
                exact nums_bl_set (C := fun t => msg l0 t ^^ decide (t < q + 1)) q (fun t _ => by
                  by_cases e : t = q
                  · rw [if_pos e, e]
                  · rw [if_neg e]; congr 1; rw [decide_eq_decide]; omega)] at hst
              refine ⟨⟨q + 1, by omega, by simp, ⟨hst⟩, ⟨HB.out.setCell (p := ⟨g, q, none⟩) hgw.out _⟩⟩, by simp [intOf]; omega⟩
            · obtain rfl : q = 32 := by omega
              have HR4 : Aside0 (wr.ownsRow w.heap.size 5 1 (.slice (some ⟨g, 0, none⟩) N cap) N (nums .u8 (bl N (B4 l0 0)))) := ⟨by rw [bl_congr (B := B4 l0 0) (fun t _ => B4_start l0 t)]; exact HR.out⟩
              clear HR
              go_wp2_with (first | ((with_reducible refine gate_dst (N := 8) rfl ?_); refine box_event ?hg (N := 8) ?hd (cs := #[.int .u8 0, .int .u8 0, .int .u8 0, .int .u8 0, .int .u8 0, .int .u8 0, .int .u8 0, .int .u8 0, .int .u8 0, .int .u8 0, .int .u8 0, .int .u8 0, .int .u8 0, .int .u8 0, .int .u8 0, .int .u8 0, .int .u8 0, .int .u8 0, .int .u8 0, .int .u8 0, .int .u8 0, .int .u8 0, .int .u8 0, .int .u8 0, .int .u8 0, .int .u8 0, .int .u8 0, .int .u8 0, .int .u8 0, .int .u8 0, .int .u8 0, .int .u8 0, .int .u8 0]) (t := 54) ?hr ?_; (case hd => rfl); (case hg => rfl); (case hr => first | (go_simp; done) | (go_simp; rfl)); intro gp hge w2 hbox0 hb0; have hbox := Aside0.mk hbox0; have HB1 := Aside0.mk (below_step HB.out hb0); have hgl := Aside0.mk (show wr.heap.size ≤ gp by omega); have HR5 := Aside0.mk (HR4.out.kept (w' := w2) ⟨hb0.os, hb0.tape, hb0.output, hb0.size, fun k hk _ => hb0.block k hk⟩ (row := none) (.inr (by simp [Value.ownBlock]))); clear hbox0 hb0 hge) | (refine wpList_store_row rfl 54 (.tmp 8) (.tmp 53) rfl gp pV rfl (by rw [← pV_lit]; rfl) 54 _ hbox.out (crc_row_size.trans (by rw [pV_size])) (by rw [pV_size]; rfl) pV_one ?_; have BK := Aside0.mk (setRow_heap w2 gp _ pV _ _ hbox.out); have HB2 := Aside0.mk (below_setRow HB1.out (Nat.le_trans HB.out.size hgl.out) pV); have HR6 := Aside0.mk (HR5.out.kept (w' := w2.setRow gp pV) (row := some gp) ⟨rfl, rfl, rfl, by simp [World.setRow], fun k _ hk => setRow_other w2 gp k pV (fun e => hk (by rw [e]))⟩ (.inr (by have := (HR4.out.lt g rfl).2; have := hgl.out; simp [Value.ownBlock]; omega))); clear hbox HB1 HR5; obtain ⟨w3, hw3⟩ : ∃ w3, w2.setRow gp pV = w3 := ⟨_, rfl⟩; rw [hw3] at BK HB2 HR6 ⊢; clear hw3))
              clear HB HR4
              have hl8 : 8 * l0.length ≤ 8000 := by omega
              go_loopw [9] (fun v9 wr => ∃ i : Nat, i ≤ 8 * l0.length ∧ v9 = .int .i64 (i : Int) ∧ Aside0 (wr.ownsRow w.heap.size 5 1 (.slice (some ⟨g, 0, none⟩) N cap) N (nums .u8 (bl N (B4 l0 i)))) ∧ Aside0 (wr.heap[gp]? = some (.cells pV 54 (0, 0))) ∧ Aside0 (Below w.heap.size w wr)) (fun v9 _ => 8 * l0.length - (intOf v9).toNat)
              case atStart => exact ⟨0, by omega, rfl, HR6, BK, HB2⟩
              case round =>
                clear HR6 BK HB2
                obtain ⟨i, hil, rfl, HR, BK, HB⟩ := hrel
                by_cases hlt : i < 8 * l0.length
                · have hiN : i + 32 < N := by have := HN.out; omega
                  have hi1 : (i : Int) + 32 < (N : Int) := by omega
                  have hi2 : (i : Int) < (N : Int) := by omega
                  have hx := (HR.out.cellAt i (by omega)).trans (nums_bl N _ i (by omega))
                  cases hb : B4 l0 i i with
                  | false =>
                    rw [hb, show bi false = 0 from rfl] at hx
                    go_wp2
                    refine ⟨⟨i + 1, by omega, by simp, ⟨?_⟩, BK, HB⟩, by simp [intOf]; omega⟩
                    rw [bl_congr (B := B4 l0 (i + 1)) (C := B4 l0 i) (fun t _ => by
                      by_cases c : t < i
                      · unfold B4; rw [if_pos (by omega), if_pos c]
                      · rw [B4_succ l0 i t (by omega), hb, Bool.false_and, Bool.xor_false])]
                    exact HR.out
                  | true =>
                    rw [hb, show bi true = 1 from rfl] at hx
                    go_wp2
                    go_loopw [10] (fun v10 wr => ∃ k : Nat, k ≤ 33 ∧ v10 = .int .i64 (k : Int) ∧ Aside0 (wr.ownsRow w.heap.size 5 1 (.slice (some ⟨g, 0, none⟩) N cap) N (nums .u8 (bl N (fun t => if t < i + k then B4 l0 (i + 1) t else B4 l0 i t)))) ∧ Aside0 (wr.heap[gp]? = some (.cells pV 54 (0, 0))) ∧ Aside0 (Below w.heap.size w wr)) (fun v10 _ => 33 - (intOf v10).toNat)
                    case atStart =>
                      refine ⟨0, by omega, rfl, ⟨?_⟩, BK, HB⟩
                      rw [bl_congr (C := B4 l0 i) (fun t _ => by
                        by_cases c : t < i
                        · rw [if_pos (by omega)]; unfold B4; rw [if_pos (by omega), if_pos c]
                        · rw [if_neg (by omega)])]
                      exact HR.out
                    case round =>
                      clear HR BK HB hx
                      obtain ⟨k, hk33, rfl, HR, BK, HB⟩ := hrel
                      by_cases hk : k < 33
                      · have hk' : (k : Int) ≤ 32 := by omega
                        have hk0 : (0 : Int) ≤ (k : Int) := by omega
                        have hk1 : (k : Int) < 33 := by omega
                        obtain ⟨j, hj⟩ : ∃ j, i + k = j := ⟨_, rfl⟩
                        have hji : (i : Int) + (k : Int) = (j : Int) := by omega
                        have hj0 : (0 : Int) ≤ (j : Int) := by omega
                        have hjN : (j : Int) < (N : Int) := by omega
                        have hx := (HR.out.cellAt j (by omega)).trans (nums_bl N _ j (by omega))
                        rw [if_neg (show ¬ j < i + k by omega)] at hx
                        have hf := HR.out.frozenAt j
                        have hy := (blk_cell BK.out k).trans (pV_get k hk)
                        go_wp2
                        go_region
                        go_wp2
                        have hst := (HR.out.stored j (.int .u8 (Go.bits .xor .u8 (bi (B4 l0 i j)) (bi (pol k))))).1
                        rw [show (nums .u8 (bl N (fun t => if t < i + k then B4 l0 (i + 1) t else B4 l0 i t))).set j (.int .u8 (Go.bits .xor .u8 (bi (B4 l0 i j)) (bi (pol k)))) = nums .u8 (bl N (fun t => if t < i + (k + 1) then B4 l0 (i + 1) t else B4 l0 i t)) from by
                          rw [show Go.bits .xor .u8 (bi (B4 l0 i j)) (bi (pol k)) = bi ((fun t => if t < i + (k + 1) then B4 l0 (i + 1) t else B4 l0 i t) j) from by
                            rw [bi_xor]
                            show _ = bi (if j < i + (k + 1) then B4 l0 (i + 1) j else B4 l0 i j)
                            rw [if_pos (by omega), B4_succ l0 i j (by omega), hb, Bool.true_and, show j - i = k by omega]]
                          exact nums_bl_set (C := fun t => if t < i + (k + 1) then B4 l0 (i + 1) t else B4 l0 i t) j (fun t _ => by
                            show (if t < i + (k + 1) then B4 l0 (i + 1) t else B4 l0 i t) = if t = j then (if j < i + (k + 1) then B4 l0 (i + 1) j else B4 l0 i j) else (if t < i + k then B4 l0 (i + 1) t else B4 l0 i t)
                            by_cases e : t = j
                            · rw [if_pos e, e]
                            · rw [if_neg e]
                              by_cases c : t < i + k
                              · rw [if_pos c, if_pos (by omega)]
                              · rw [if_neg c, if_neg (by omega)])] at hst
                        refine ⟨⟨k + 1, by omega, by simp, ⟨hst⟩, ⟨blk_far BK.out (by have h1 := (HR.out.lt g rfl).2; have h2 := BK.out; intro e; subst e; exact absurd h2 (row_ne HR.out)) _⟩, ⟨(HB.out.setCell (p := ⟨g, j, none⟩) hgw.out _).drew⟩⟩, by simp [intOf]; omega⟩
                      · obtain rfl : k = 33 := by omega
                        go_wp2
                        refine ⟨⟨i + 1, by omega, by simp, ⟨?_⟩, BK, HB⟩, by simp [intOf]; omega⟩
                        rw [bl_congr (B := B4 l0 (i + 1)) (C := fun t => if t < i + 33 then B4 l0 (i + 1) t else B4 l0 i t) (fun t _ => by
                          by_cases c : t < i + 33
                          · rw [if_pos c]
                          · rw [if_neg c, B4_succ l0 i t (by omega), show pol (t - i) = false from by unfold pol; rw [decide_eq_false (by omega), decide_eq_false (by omega)]; rfl, Bool.and_false, Bool.xor_false])]
                        exact HR.out
                · obtain rfl : i = 8 * l0.length := by omega
                  have hrg : rg l0 (8 * l0.length) = reg32 l0 := by rw [rg_end l0 hw l0.length (Nat.le_refl _), List.take_length]; rfl
                  have hend := B4_end l0
                  obtain rfl : N = 8 * l0.length + 32 := HN.out
                  rw [hrg] at hend
                  generalize 8 * l0.length = M at *
                  have hcap := hNc.out
                  go_wp2
                  go_loopw [12, 13] (fun v12 v13 wr' => ∃ q : Nat, q ≤ 32 ∧ v12 = .int .u32 (((reg32 l0).toNat % 2 ^ q : Nat) : Int) ∧ v13 = .int .i64 (q : Int) ∧ wr' = wr) (fun _ v13 _ => 32 - (intOf v13).toNat)
                  case atStart => exact ⟨0, by omega, by rw [Nat.pow_zero, Nat.mod_one]; rfl, rfl, by first | rfl | trivial⟩
                  case round =>
                    obtain ⟨q, hq32, rfl, rfl, rfl⟩ := hrel
                    by_cases hq : q < 32
                    · have hq' : (q : Int) < 32 := by omega
                      have hx := (HR.out.cellAt (M + q) (by omega)).trans (nums_bl _ _ (M + q) (by omega))
                      rw [hend q hq] at hx
                      go_wp2
                      refine ⟨⟨q + 1, by omega, ?_, by simp, by first | rfl | trivial⟩, by simp [intOf]; omega⟩
                      rw [← low_or (reg32 l0) q hq, bi_mod, BitVec.getLsbD_eq_getElem hq]
                      simp
                    · obtain rfl : q = 32 := by omega
                      go_wp2
                      go_ret
                      refine ⟨?_, HB.out⟩
                      have hlt32 := (reg32 l0).isLt
                      rw [Int.emod_eq_of_lt (by omega) (by omega), not_go]
                      unfold sum32
                      simp
end Go.Proofs.Ytkhpgjojbdgkfaa.D
