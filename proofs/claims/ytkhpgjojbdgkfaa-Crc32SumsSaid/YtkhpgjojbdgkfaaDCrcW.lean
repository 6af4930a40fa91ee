/- crc32's table and sum by hand, as walks: the table of half a byte, and the register by it. No condition. -/
import Derived.Test.YtkhpgjojbdgkfaaDCrc32M
import Derived.Test.YtkhpgjojbdgkfaaDExtra
namespace Go.Proofs.Ytkhpgjojbdgkfaa.D
open Go Go.RowKit Go.Proofs.YtkhpgjojbdgkfaaW.PrintWords Go.Proofs.YtkhpgjojbdgkfaaW.PrintLast Go.Proofs.YtkhpgjojbdgkfaaW.PrintMore
set_option linter.unusedVariables false

def tabAt (i : Nat) : Int := ((it rr 4 (BitVec.ofNat 32 i)).toNat : Int)
def tabTo (n : Nat) : List Int := (List.range 16).map fun j => if j < n then tabAt j else 0
def tabV (n : Nat) : Array Value := (nums .u32 (tabTo n)).toArray
theorem tabV_get (n j : Nat) (hj : j < 16) : (tabV n)[j]? = some (.int .u32 (if j < n then tabAt j else 0)) := by
  unfold tabV tabTo nums
  rw [List.getElem?_toArray, List.getElem?_map, List.getElem?_map, List.getElem?_range hj]; rfl
theorem tabV_set (n : Nat) (h : n < 16) : (tabV n).setIfInBounds n (.int .u32 (tabAt n)) = tabV (n + 1) := by
  apply Array.ext_getElem?
  intro j
  by_cases hj : j < 16
  · rw [Array.getElem?_setIfInBounds]
    by_cases e : n = j
    · subst e
      rw [if_pos rfl, if_pos (by show n < (nums .u32 (tabTo n)).toArray.size; simp [nums, tabTo, h]), tabV_get _ _ hj, if_pos (by omega)]
    · rw [if_neg e, tabV_get _ _ hj, tabV_get _ _ hj]
      by_cases c : j < n
      · rw [if_pos c, if_pos (by omega)]
      · rw [if_neg c, if_neg (by omega)]
  · rw [Array.getElem?_eq_none (by simp [tabV, nums, tabTo]; omega), Array.getElem?_eq_none (by simp [tabV, nums, tabTo]; omega)]
theorem tabV_size : ∀ n, (tabV n).size = 16 := by intro n; simp [tabV, nums, tabTo]
theorem tabV_one (n : Nat) : (tabV n).all (·.oneCell') = true := by
  rw [Array.all_eq_true]
  intro j hj
  simp [tabV, nums, Value.oneCell']
theorem bit0_mod (n : BitVec 32) : n.getLsbD 0 = decide (n.toNat % 2 = 1) := by
  rw [BitVec.getLsbD, Nat.testBit_zero]
theorem rr_go (n : BitVec 32) : Go.bits .xor .u32 ((n.toNat : Int) / 2) (Go.bits .and .u32 3988292384 (-Go.bits .and .u32 (n.toNat : Int) 1 % 4294967296)) = ((rr n).toNat : Int) := by
  have hn := n.isLt
  have e1 : Go.bits .and .u32 (n.toNat : Int) 1 = ((n.toNat % 2 : Nat) : Int) := by
    rw [show (1 : Int) = ((1 : Nat) : Int) from rfl, Go.u32_and_nat _ 1 (by omega) (by decide), Go.nat_mask1]
  have e2 : (n.toNat : Int) / (2 : Int) = ((n >>> 1).toNat : Int) := by rw [BitVec.toNat_ushiftRight, Nat.shiftRight_eq_div_pow]; omega
  rw [e1, e2]
  unfold rr
  by_cases c : n.toNat % 2 = 1
  · rw [bit0_mod, decide_eq_true c, if_pos rfl, c]
    have e3 : Go.bits .and .u32 3988292384 (-((1 : Nat) : Int) % 4294967296) = ((0xEDB88320#32).toNat : Int) := by decide +kernel
    rw [e3, Go.u32_xor_nat _ _ (by have := (n >>> 1).isLt; omega) (by decide), BitVec.toNat_xor]
  · rw [bit0_mod, decide_eq_false c, if_neg (by decide), show n.toNat % 2 = 0 by omega]
    have e3 : Go.bits .and .u32 3988292384 (-((0 : Nat) : Int) % 4294967296) = ((0 : Nat) : Int) := by decide +kernel
    rw [e3, Go.u32_xor_nat _ _ (by have := (n >>> 1).isLt; omega) (by decide), Nat.xor_zero]
theorem crc_table_size : (Try.prog.info? 49).map (·.size) = some 16 := by kernel_rfl
set_option maxRecDepth 100000 in
set_option maxHeartbeats 4000000 in
theorem crc32_build_calls (w : World) : Calls Try.prog 34 #[] w fun e w' => e = .returned (.agg (tabV 16)) ∧ Below w.heap.size w w' := by
  go_enter Try.func34, Try.ntmps34
  go_wp2
  have hu49 := Try.underlying49
  have k0 := blk_alloc (blk_new w (.cells #[.int .u32 0, .int .u32 0, .int .u32 0, .int .u32 0, .int .u32 0, .int .u32 0, .int .u32 0, .int .u32 0, .int .u32 0, .int .u32 0, .int .u32 0, .int .u32 0, .int .u32 0, .int .u32 0, .int .u32 0, .int .u32 0] 49)) (.cells #[.int .u32 0, .int .u32 0, .int .u32 0, .int .u32 0, .int .u32 0, .int .u32 0, .int .u32 0, .int .u32 0, .int .u32 0, .int .u32 0, .int .u32 0, .int .u32 0, .int .u32 0, .int .u32 0, .int .u32 0, .int .u32 0] 49)
  have k1 := blk_new (w.alloc (.cells #[.int .u32 0, .int .u32 0, .int .u32 0, .int .u32 0, .int .u32 0, .int .u32 0, .int .u32 0, .int .u32 0, .int .u32 0, .int .u32 0, .int .u32 0, .int .u32 0, .int .u32 0, .int .u32 0, .int .u32 0, .int .u32 0] 49)) (.cells #[.int .u32 0, .int .u32 0, .int .u32 0, .int .u32 0, .int .u32 0, .int .u32 0, .int .u32 0, .int .u32 0, .int .u32 0, .int .u32 0, .int .u32 0, .int .u32 0, .int .u32 0, .int .u32 0, .int .u32 0, .int .u32 0] 49)
  have hB := below_alloc (below_alloc (Below.refl w.heap.size w) (.cells #[.int .u32 0, .int .u32 0, .int .u32 0, .int .u32 0, .int .u32 0, .int .u32 0, .int .u32 0, .int .u32 0, .int .u32 0, .int .u32 0, .int .u32 0, .int .u32 0, .int .u32 0, .int .u32 0, .int .u32 0, .int .u32 0] 49)) (.cells #[.int .u32 0, .int .u32 0, .int .u32 0, .int .u32 0, .int .u32 0, .int .u32 0, .int .u32 0, .int .u32 0, .int .u32 0, .int .u32 0, .int .u32 0, .int .u32 0, .int .u32 0, .int .u32 0, .int .u32 0, .int .u32 0] 49)
  rw [World.size_alloc] at k1
  have K0 := Aside0.mk k0
  have K1 := Aside0.mk k1
  have HB := Aside0.mk hB
  clear k0 k1 hB
  go_loopw [4] (fun v4 wr => ∃ i : Nat, i ≤ 16 ∧ v4 = .int .i64 (i : Int) ∧ Aside0 (wr.heap[w.heap.size]? = some (.cells (tabV 0) 49 (0, 0))) ∧ Aside0 (wr.heap[w.heap.size + 1]? = some (.cells (tabV i) 49 (0, 0))) ∧ Aside0 (Below w.heap.size w wr)) (fun v4 _ => 16 - (intOf v4).toNat)
  case atStart => exact ⟨0, by omega, rfl, K0, K1, HB⟩
  case round =>
    clear K0 K1 HB
    obtain ⟨i, hi, rfl, K0, K1, HB⟩ := hrel
    by_cases h16 : i < 16
    · have hlt : (i : Int) < 16 := by omega
      have e32 : IntKind.u32.wrap (i : Int) = ((BitVec.ofNat 32 i).toNat : Int) := by rw [IntKind.wrap_u32, BitVec.toNat_ofNat]; omega
      go_wp2
      go_loopw [3, 9] (fun v3 v9 wr2 => ∃ q : Nat, q ≤ 4 ∧ v3 = .int .u32 ((it rr q (BitVec.ofNat 32 i)).toNat : Int) ∧ v9 = .int .i64 (q : Int) ∧ wr2 = wr) (fun _ v9 _ => 4 - (intOf v9).toNat)
      case atStart => exact ⟨0, by omega, by (show _ = Value.int IntKind.u32 ((BitVec.ofNat 32 i).toNat : Int); rw [← e32, IntKind.wrap_u32]), rfl, by first | rfl | trivial⟩
      case round =>
        obtain ⟨q, hq, rfl, rfl, rfl⟩ := hrel
        by_cases h4 : q < 4
        · have hlt4 : (q : Int) < 4 := by omega
          go_wp2
          go_roundw
          case rel =>
            refine ⟨q + 1, by omega, ?_, by simp, by first | rfl | trivial⟩
            rw [rr_go, it_last rr q]
          case measure => simp [intOf]; omega
        · obtain rfl : q = 4 := by omega
          have hx := (blk_cell K1.out i).trans (tabV_get i i h16)
          have hf := blk_frozen K1.out i
          go_wp2
          refine ⟨⟨i + 1, by omega, by simp, ⟨blk_far K0.out (by simp) _⟩, ⟨blk_put K1.out i _ (tabV_set i h16)⟩, ⟨HB.out.setCell (p := ⟨w.heap.size + 1, i, none⟩) (by simp) _⟩⟩, by simp [intOf]; omega⟩
    · obtain rfl : i = 16 := by omega
      go_wp2_with (first | (refine wpList_load_row rfl 49 (.tmp 1) rfl (w.heap.size + 1) rfl 49 (tabV 16) (0, 0) _ K1.out hu49 rfl (crc_table_size.trans (by rw [tabV_size])) ?_) | (refine wpList_store_row rfl 49 (.tmp 0) (.tmp 23) rfl w.heap.size (tabV 16) rfl rfl 49 _ K0.out (crc_table_size.trans (by rw [tabV_size])) (by rw [tabV_size, tabV_size]) (tabV_one 16) ?_))
      refine bodyPost_ret (results_cell_row rfl _ _ w.heap.size 49 (tabV 16) (0, 0) _ rfl (setRow_heap _ _ _ _ _ _ K0.out) hu49 rfl (crc_table_size.trans (by rw [tabV_size]))) rfl ?_
      exact ⟨rfl, below_setRow HB.out (Nat.le_refl _) _⟩
theorem low4 (n : BitVec 32) : n &&& 15#32 = BitVec.ofNat 32 (n.toNat % 16) := by
  apply BitVec.eq_of_toNat_eq
  rw [BitVec.toNat_and, show (15#32).toNat = 2 ^ 4 - 1 from rfl, Nat.and_two_pow_sub_one_eq_mod, BitVec.toNat_ofNat]
  omega
theorem half_go (n : BitVec 32) : Go.bits .xor .u32 ((n.toNat : Int) / 16) (tabAt (n.toNat % 16)) = ((it rr 4 n).toNat : Int) := by
  have e2 : (n.toNat : Int) / (16 : Int) = ((n >>> 4).toNat : Int) := by rw [BitVec.toNat_ushiftRight, Nat.shiftRight_eq_div_pow]; omega
  rw [e2, half n, low4]
  unfold tabAt
  rw [Go.u32_xor_nat _ _ (by have := (n >>> 4).isLt; omega) (by have := (it rr 4 (BitVec.ofNat 32 (n.toNat % 16))).isLt; omega), BitVec.toNat_xor]
theorem not_go (n : BitVec 32) : Go.bits .xor .u32 IntKind.u32.max (n.toNat : Int) = ((~~~ n).toNat : Int) := by
  rw [show IntKind.u32.max = (((BitVec.allOnes 32).toNat : Nat) : Int) from by decide +kernel, Go.u32_xor_nat _ _ (by have := (BitVec.allOnes 32).isLt; omega) (by have := n.isLt; omega), ← BitVec.toNat_xor, BitVec.allOnes_xor]
theorem byte_go (n : BitVec 32) (c : Int) (hc : 0 ≤ c ∧ c ≤ 255) : Go.bits .xor .u32 (n.toNat : Int) c = ((n ^^^ (BitVec.ofInt 8 c).setWidth 32).toNat : Int) := by
  obtain ⟨m, rfl⟩ := Int.eq_ofNat_of_zero_le hc.1
  rw [Go.u32_xor_nat _ _ (by have := n.isLt; omega) (by omega), BitVec.toNat_xor, BitVec.toNat_setWidth, BitVec.ofInt_natCast, BitVec.toNat_ofNat]
  congr 3; omega
set_option maxRecDepth 100000 in
set_option maxHeartbeats 4000000 in
theorem crc32_Sum_walk (A0 : Option Addr) (c0 : Nat) (l0 : List Int) (w : World) (hr0 : Kd.C (Kd.int .u8) w A0 l0.length l0) (hc0 : l0.length ≤ c0) (hw : ∀ x ∈ l0, 0 ≤ x ∧ x ≤ 255) (hl : l0.length ≤ 100000) :
    Calls Try.prog 15 #[.slice A0 l0.length c0] w fun e w' => e = .returned (.int .u32 ((sum32 l0).toNat : Int)) ∧ Below w.heap.size w w' := by
  have hu49 := Try.underlying49
  replace hr0 := Aside0.mk hr0
  go_enter Try.func15, Try.ntmps15
  go_wp2_with (first | (go_at_call 34; refine (crc32_build_calls _).mono ?_; rintro e w1 ⟨rfl, HB0⟩; have HB := Aside0.mk HB0; clear HB0) | ((with_reducible refine gate_dst (N := 3) rfl ?_); refine box_event ?hg (N := 3) ?hd (cs := #[.int .u32 0, .int .u32 0, .int .u32 0, .int .u32 0, .int .u32 0, .int .u32 0, .int .u32 0, .int .u32 0, .int .u32 0, .int .u32 0, .int .u32 0, .int .u32 0, .int .u32 0, .int .u32 0, .int .u32 0, .int .u32 0]) (t := 49) ?hr ?_; (case hd => rfl); (case hg => rfl); (case hr => first | (go_simp; done) | (go_simp; rfl)); intro g hge w2 hbox0 hb0; have hbox := Aside0.mk hbox0; have HB1 := Aside0.mk (below_step HB.out hb0); have hgl := Aside0.mk (show w.heap.size ≤ g by rw [hge]; exact HB.out.size); clear HB hbox0 hb0 hge) | (refine wpList_store_row rfl 49 (.tmp 3) (.tmp 7) rfl g (tabV 16) rfl rfl 49 _ hbox.out (crc_table_size.trans (by rw [tabV_size])) (by rw [tabV_size]; rfl) (tabV_one 16) ?_; have BK := Aside0.mk (setRow_heap w2 g _ (tabV 16) _ _ hbox.out); have HB2 := Aside0.mk (below_setRow HB1.out hgl.out (tabV 16)); clear hbox HB1; obtain ⟨w3, hw3⟩ : ∃ w3, w2.setRow g (tabV 16) = w3 := ⟨_, rfl⟩; rw [hw3] at BK HB2 ⊢; clear hw3))
  go_loopw [4, 10] (fun v4 v10 wr => ∃ i : Nat, i ≤ l0.length ∧ v4 = .int .u32 (((l0.take i).foldl spI 0xFFFFFFFF#32).toNat : Int) ∧ v10 = .int .i64 (i : Int) ∧ wr = w3) (fun _ v10 _ => l0.length - (intOf v10).toNat)
  case atStart => exact ⟨0, by omega, rfl, rfl, by first | rfl | trivial⟩
  case round =>
    obtain ⟨i, hi, rfl, rfl, rfl⟩ := hrel
    by_cases hlt : i < l0.length
    · have hlt' : (i : Int) < (l0.length : Int) := by omega
      obtain ⟨ad, hA, hcs⟩ := (Kd.C_below hr0.out HB2.out).2.2 (by omega)
      subst hA
      have hx : wr.cell? (ad.add i) = some (.int .u8 l0[i]) := by
        obtain ⟨c, h1, h2, h3⟩ := hcs i _ (List.getElem?_eq_getElem hlt)
        have h2' : c = [Value.int .u8 l0[i]] := h2
        subst h2'
        have h4 := h3 0 _ rfl
        simpa [Kd.int, Kd.scalar] using h4
      clear hcs
      have hc := hw l0[i] (List.getElem_mem hlt)
      have e0 : (l0.take (i + 1)).foldl spI 0xFFFFFFFF#32 = spI ((l0.take i).foldl spI 0xFFFFFFFF#32) l0[i] := by
        rw [take_snoc l0 i hlt, List.foldl_append]; rfl
      have e1 := byte_go ((l0.take i).foldl spI 0xFFFFFFFF#32) l0[i] hc
      have e3 : spI ((l0.take i).foldl spI 0xFFFFFFFF#32) l0[i] = it rr 4 (it rr 4 (((l0.take i).foldl spI 0xFFFFFFFF#32) ^^^ (BitVec.ofInt 8 l0[i]).setWidth 32)) := by
        unfold spI sp; rw [show (8 : Nat) = 4 + 4 from rfl, it_add]
      generalize (l0.take i).foldl spI 0xFFFFFFFF#32 = n at e0 e1 e3 ⊢
      generalize n ^^^ (BitVec.ofInt 8 l0[i]).setWidth 32 = m at e1 e3
      have g1 := half_go m
      obtain ⟨j, hj⟩ : ∃ j, m.toNat % 16 = j := ⟨_, rfl⟩
      have hj16 : j < 16 := by omega
      have hj' : (m.toNat : Int) % 16 = (j : Int) := by omega
      have hj0 : (0 : Int) ≤ (j : Int) := by omega
      have hj1 : (j : Int) < 16 := by omega
      have hy := (blk_cell BK.out j).trans (tabV_get 16 j hj16)
      rw [if_pos hj16] at hy
      rw [hj] at g1
      have g2 := half_go (it rr 4 m)
      generalize it rr 4 m = m2 at e3 g1 g2
      obtain ⟨j2, hj2⟩ : ∃ j, m2.toNat % 16 = j := ⟨_, rfl⟩
      have hj216 : j2 < 16 := by omega
      have hj2' : (m2.toNat : Int) % 16 = (j2 : Int) := by omega
      have hj20 : (0 : Int) ≤ (j2 : Int) := by omega
      have hj21 : (j2 : Int) < 16 := by omega
      have hy2 := (blk_cell BK.out j2).trans (tabV_get 16 j2 hj216)
      rw [if_pos hj216] at hy2
      rw [hj2] at g2
      go_wp2
      exact ⟨⟨i + 1, by omega, by rw [e0, e3], by simp, by first | rfl | trivial⟩, by simp [intOf]; omega⟩
    · obtain rfl : i = l0.length := by omega
      go_wp2
      go_ret
      refine ⟨?_, HB2.out⟩
      rw [not_go]
      unfold sum32 reg32
      simp
end Go.Proofs.Ytkhpgjojbdgkfaa.D
