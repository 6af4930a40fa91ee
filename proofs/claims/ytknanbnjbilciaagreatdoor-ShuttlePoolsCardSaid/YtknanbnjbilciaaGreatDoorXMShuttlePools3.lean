/- Texts of this seat, one behind the other (merge.py): the walks of the functions that the law ShuttlePools uses, and plain words on what they come to. No condition. -/
import Derived.Test.YtknanbnjbilciaaGreatDoorWTab
import Derived.Maps.OwnSet
import Derived.Test.YtknanbnjbilciaaGreatDoorXMShuttlePools2
namespace Go.Proofs.YtknanbnjbilciaaGreatDoor.P
open Go.RowKit Go.Proofs.YtknanbnjbilciaaGreatDoorW.PrintWords Go.Proofs.YtknanbnjbilciaaGreatDoorW.PrintLast Go.Proofs.YtknanbnjbilciaaGreatDoorW.PrintMore
-- YtknanbnjbilciaaGreatDoorP30
section
attribute [local go_sem] max2_int min2_int max_two min_two max_three min_three max_four min_four
set_option linter.unusedVariables false
set_option linter.unusedSimpArgs false

/-! ### crc16_Seal: function 40 -/
def crc16_Seal.f (k : Nat) (l0 : List Int) : Option (List Int) := (crc16_Sum.f k l0).bind fun t205 => ((slices_Clone_byte_byte.f l0).bind fun t206 => ((some (([(t205 / 256) % 256, (t205) % 256] : List Int) : List Int)).bind fun y209 => (if t206.length + y209.length < 140737488355328 then (some (t206 ++ y209)) else (none))))
theorem crc16_Seal.mono : ∀ a0 k, LeO (crc16_Seal.f k a0) (crc16_Seal.f (k + 1) a0) := by
  intro a0 k
  unfold crc16_Seal.f
  repeat' first
      | (with_reducible exact crc16_Sum.mono _ _)
      | (with_reducible exact LeO.refl _)
      | (with_reducible exact LeO.none _)
      | (with_reducible refine LeO.ite ?_ ?_)
      | (with_reducible refine LeO.bind ?_ (fun _ => ?_))
      | exact crc16_Sum.mono _ _
      | exact LeO.none _
      | refine LeO.ite ?_ ?_
      | refine LeO.bind ?_ (fun _ => ?_)
set_option maxHeartbeats 8000000 in
set_option maxRecDepth 100000 in
theorem crc16_Seal.calls (k : Nat) (A0 : Option Addr) (c0 : Nat) (l0 : List Int) (r : List Int) (w : World) (hr0 : Kd.C (Kd.int .u8) w A0 l0.length l0) (hc0 : l0.length ≤ c0) (h : crc16_Seal.f k l0 = some r) :
    Calls Tryz.prog 40 #[.slice A0 l0.length c0] w fun e w' => ∃ v0_ : Value, e = .returned (v0_) ∧ Kd.R (Kd.int .u8) 5 w' w.heap.size (fun _ => True) v0_ r ∧ Below w.heap.size w w' := by
  have HR0 := Aside0.mk hr0
  have HC0 := Aside0.mk hc0
  clear hr0 hc0
  have HB := Aside0.mk (Below.refl w.heap.size w)
  have H : ((crc16_Sum.f k l0).bind fun t205 => ((slices_Clone_byte_byte.f l0).bind fun t206 => ((some (([(t205 / 256) % 256, (t205) % 256] : List Int) : List Int)).bind fun y209 => (if t206.length + y209.length < 140737488355328 then (some (t206 ++ y209)) else (none))))) = some r := h
  clear h
  replace H := Option.bind_eq_some_iff.mp H
  obtain ⟨t205, A20, H⟩ := H
  replace H : ((slices_Clone_byte_byte.f l0).bind fun t206 => ((some (([(t205 / 256) % 256, (t205) % 256] : List Int) : List Int)).bind fun y209 => (if t206.length + y209.length < 140737488355328 then (some (t206 ++ y209)) else (none)))) = some r := H
  have A2 := Aside0.mk A20
  clear A20
  replace H := Option.bind_eq_some_iff.mp H
  obtain ⟨t206, A30, H⟩ := H
  replace H : ((some (([(t205 / 256) % 256, (t205) % 256] : List Int) : List Int)).bind fun y209 => (if t206.length + y209.length < 140737488355328 then (some (t206 ++ y209)) else (none))) = some r := H
  have A3 := Aside0.mk A30
  clear A30
  obtain ⟨y209, hy209⟩ : ∃ y_ : List Int, y_ = (([(t205 / 256) % 256, (t205) % 256] : List Int)) := ⟨_, rfl⟩
  replace H : (if t206.length + y209.length < 140737488355328 then (some (t206 ++ y209)) else (none)) = some r := by first | (rw [hy209]; with_reducible exact H) | (have H2_ := (Option.bind_some _ _).symm.trans H; rw [hy209]; with_reducible exact H2_) | (have H2_ := (Option.bind_some _ _).symm.trans H; with_reducible exact H2_) | with_reducible exact H | (rw [hy209]; exact H) | exact H
  have Ny209 := Aside0.mk hy209
  clear hy209
  by_cases c4 : t206.length + y209.length < 140737488355328
  · rw [if_pos c4] at H
    have LMc4 := Aside0.mk c4
    clear c4
    obtain ⟨y212, hy212⟩ : ∃ y_ : List Int, y_ = (t206 ++ y209) := ⟨_, rfl⟩
    replace H : (some y212) = some r := by first | (rw [hy212]; with_reducible exact H) | (have H2_ := (Option.bind_some _ _).symm.trans H; rw [hy212]; with_reducible exact H2_) | (have H2_ := (Option.bind_some _ _).symm.trans H; with_reducible exact H2_) | with_reducible exact H | (rw [hy212]; exact H) | exact H
    have Ny212 := Aside0.mk hy212
    clear hy212
    obtain rfl := Option.some.inj H
    go_enter Tryz.func40, Tryz.ntmps40
    go_wp2_with (first | ((with_reducible refine gate_callee (f := 73) rfl ?_); refine goesL_ (some 5) rfl rfl Tryz.func73 (by kernel_rfl) rfl #[.slice A0 l0.length c0] rfl (by (try simp only [List.map_toArray, List.map_cons, List.map_nil]); first | done | rfl | (simp only [List.length_drop, List.length_take]; rfl)) ?_; (with_reducible refine (crc16_Sum.calls k _ _ l0 t205 _ ?side1 ?side2 A2.out).mono ?_); (case side1 => repeat (first | exact HR0.out | (with_reducible refine Kd.C_alloc ?_ _) | (with_reducible refine Kd.C_drewN ?_ _) | (with_reducible refine Kd.C_drew ?_))); (case side2 => exact HC0.out); rintro e w' ⟨rfl, ⟨nd, rfl⟩⟩; refine ⟨_, rfl, ?_⟩) | ((with_reducible refine gate_callee (f := 31) rfl ?_); refine goesL_ (some 7) rfl rfl Tryz.func31 (by kernel_rfl) rfl #[.slice A0 l0.length c0] rfl (by (try simp only [List.map_toArray, List.map_cons, List.map_nil]); first | done | rfl | (simp only [List.length_drop, List.length_take]; rfl)) ?_; (with_reducible refine (slices_Clone_byte_byte.calls _ _ l0 t206 _ ?side1 ?side2 A3.out).mono ?_); (case side1 => repeat (first | exact HR0.out | (with_reducible refine Kd.C_alloc ?_ _) | (with_reducible refine Kd.C_drewN ?_ _) | (with_reducible refine Kd.C_drew ?_))); (case side2 => exact HC0.out); rintro e w5 ⟨v207, rfl, ho0, hb⟩; refine ⟨_, rfl, ?_⟩; have n0_ := Aside0.mk (Kd.R_lower ho0 (below_size (by repeat (first | (with_reducible first | exact HB.out | apply below_alloc | apply pw_below_drewN | apply below_drew1) | exact HB.out)))); have n1_ := Aside0.mk (below_step (by repeat (first | (with_reducible first | exact HB.out | apply below_alloc | apply pw_below_drewN | apply below_drew1) | exact HB.out)) hb); clear HB; have HO208 := n0_; have HB := n1_; clear n0_ n1_; (try clear hb); (try clear hb2); (try clear hk); (try clear hi); (try clear ho0)) | ((with_reducible refine gate_dst (N := 13) rfl ?_); refine Kd.R_lit (Kd.int .u8) _ 5 ?hg (N := 13) ?hd (xs := ([(t205 / 256) % 256, (t205) % 256] : List Int)) (inner := [.int .u8 ((t205 / 256) % 256), .int .u8 ((t205) % 256)]) (ok := fun _ => True) (okp := fun _ => True) ?hr ?hp (fun _ hk => hk) trivial (Below.refl _ _) (Nat.le_refl _) (by simp) ?_; (case hd => rfl); (case hg => rfl); (case hr => first | (go_simp; done) | (go_simp; rfl)); (case hp => exact (Reps.one (show Kd.M (Kd.int .u8) _ _ _ ((t205 / 256) % 256) [.int .u8 ((t205 / 256) % 256)] from rfl) (Reps.one (show Kd.M (Kd.int .u8) _ _ _ ((t205) % 256) [.int .u8 ((t205) % 256)] from rfl) (Reps.none _ _)))); intro v210 w6 ho7 hb hg_ hnew_; clear hg_ hnew_; (first | rw [← Ny209.out] at ho7 | (simp only [Int.reduceToNat] at ho7; rw [← Ny209.out] at ho7)); have n0_ := Aside0.mk (Kd.R_elder' (by (with_reducible repeat (first | apply Kd.R_alloc | apply Kd.R_drewN | apply Kd.R_drew)); exact HO208.out) (Kd.R_base ho7) hb); have n1_ := Aside0.mk (Kd.R_lower (Kd.R_new' ho7 (Kd.R_lt (by (with_reducible repeat (first | apply Kd.R_alloc | apply Kd.R_drewN | apply Kd.R_drew)); exact HO208.out))) (below_size (by repeat (first | (with_reducible first | exact HB.out | apply below_alloc | apply pw_below_drewN | apply below_drew1) | exact HB.out)))); have n2_ := Aside0.mk (below_step (by repeat (first | (with_reducible first | exact HB.out | apply below_alloc | apply pw_below_drewN | apply below_drew1) | exact HB.out)) hb); clear HO208; clear HB; have HO208 := n0_; have HO211 := n1_; have HB := n2_; clear n0_ n1_ n2_; clear hb ho7; obtain ⟨Ao9, co9, eo9⟩ := Kd.R_slice HO211.out; subst eo9) | ((with_reducible refine gate_builtin (b := .append) (xs := #[.tmp 7, .tmp 13]) rfl ?_); at_builtin; refine Kd.R_append_rows (Kd.int .u8) (w0 := w) w.heap.size rfl (.tmp 7) (.tmp 13) 31 5 (.int .u8 0) 1 rfl Tryz.underlying31 info5 rfl (by decide) (by omega) v207 t206 y209 _ _ _ (fun k_ => some k_ ≠ (.slice Ao9 y209.length co9 : Value).ownBlock) (fun _ => False) rfl rfl ?aO ?aR (fun _ _ h => h) (fun _ h => h.elim) ?aF ?aB ?aS ?aL ?_; (case aR => repeat (first | exact (Kd.R_reads' HO211.out).2.2 | (with_reducible refine Kd.C_alloc ?_ _) | (with_reducible refine Kd.C_drewN ?_ _) | (with_reducible refine Kd.C_drew ?_))); (case aB => exact (by repeat (first | (with_reducible first | exact HB.out | apply below_alloc | apply pw_below_drewN | apply below_drew1) | exact HB.out))); (case aF => exact (fun k_ hk => Kd.fresh' (Kd.R_lt (by (with_reducible repeat (first | apply Kd.R_alloc | apply Kd.R_drewN | apply Kd.R_drew)); exact HO211.out)) k_ hk)); (case aO => exact (by (with_reducible repeat (first | apply Kd.R_alloc | apply Kd.R_drewN | apply Kd.R_drew)); exact Kd.R_mono HO208.out (fun _ hk => hk.2))); (case aS => exact (below_size (by repeat (first | (with_reducible first | exact HB.out | apply below_alloc | apply pw_below_drewN | apply below_drew1) | exact HB.out)))); (case aL => have := LMc4.out; omega); intro v213 w8 ho hb hg hat; rw [← Ny212.out] at ho; have n0_ := Aside0.mk (Kd.R_after (ok := (fun _ => True)) (by (with_reducible repeat (first | apply Kd.R_alloc | apply Kd.R_drewN | apply Kd.R_drew)); exact HO211.out) hg hat); have n1_ := Aside0.mk (hb); have n2_ := Aside0.mk (ho); clear HO211; clear HB; clear HO208; have HO211 := n0_; have HB := n1_; have HO214 := n2_; clear n0_ n1_ n2_; clear ho hb hg hat))
    go_ret
    exact ⟨_, by first | rfl | (simp [errW_none, errW_some] <;> rfl) | (simp [*, errW_none, errW_some] <;> rfl), by (with_reducible repeat (first | apply Kd.R_alloc | apply Kd.R_drewN | apply Kd.R_drew)); exact Kd.R_mono HO214.out (fun _ hk => trivial), by repeat (first | (with_reducible first | exact HB.out | apply below_alloc | apply pw_below_drewN | apply below_drew1) | exact HB.out)⟩
  · rw [if_neg c4] at H
    exact absurd H (by simp)
end
end Go.Proofs.YtknanbnjbilciaaGreatDoor.P
namespace Go.Proofs.YtknanbnjbilciaaGreatDoor.P
open Go Go.RowKit Go.Proofs.YtknanbnjbilciaaGreatDoorW.PrintWords Go.Proofs.YtknanbnjbilciaaGreatDoorW.PrintLast Go.Proofs.YtknanbnjbilciaaGreatDoorW.PrintMore
set_option linter.unusedVariables false
set_option linter.unusedSimpArgs false
-- YtknanbnjbilciaaGreatDoorPKPack
/-- The bits of a data head's first fields. -/
def hk (v n q : Int) : Nat → List Int
  | 0 => []
  | 1 => putL 1 4
  | 2 => putL 1 4 ++ putL v 2
  | 3 => putL 1 4 ++ putL v 2 ++ putL 0 2
  | 4 => putL 1 4 ++ putL v 2 ++ putL 0 2 ++ putL n 8
  | _ => putL 1 4 ++ putL v 2 ++ putL 0 2 ++ putL n 8 ++ putL q 16
theorem putL_le (n wd : Int) : (putL n wd).length ≤ 32 := by
  unfold putL
  by_cases h : putE n wd = 0
  · rw [if_pos h]
    have hw : bitioWidthF wd = true := by
      cases e : bitioWidthF wd
      · unfold putE at h; rw [e] at h; cases h
      · rfl
    unfold bitioWidthF at hw
    rw [Bool.and_eq_true, decide_eq_true_eq, decide_eq_true_eq] at hw
    unfold bitL
    rw [List.length_map, List.length_range]; omega
  · rw [if_neg h]; simp
theorem hk_le (v n q : Int) (j : Nat) : (hk v n q j).length ≤ 1000 := by
  have h1 := putL_le 1 4
  have h2 := putL_le v 2
  have h3 := putL_le 0 2
  have h4 := putL_le n 8
  have h5 := putL_le q 16
  unfold hk
  split <;> (first | omega | (simp only [List.length_append]; omega) | simp)
/-- A data head's fields. -/
def hf (v n q : Int) : Array Value := #[.int .i64 1, .int .i64 4, .int .i64 v, .int .i64 2, .int .i64 0, .int .i64 2, .int .i64 n, .int .i64 8, .int .i64 q, .int .i64 16]
set_option maxRecDepth 100000 in
set_option maxHeartbeats 4000000 in
theorem packd_calls {w : World} {b : Nat} (v n q : Int) (hb : w.heap[b]? = some (.cells (hf v n q) 62 (0, 0))) (bs B : List Int) (k : Nat)
    (h1 : bits_Bytes.f k (hk v n q 5) = some (bs, 0)) (h2 : crc16_Seal.f k bs = some B) :
    Calls Tryz.prog 19 #[.slice (some ⟨b, 0, none⟩) 5 5] w fun e w' => ∃ v, e = .returned v ∧ Kd.R (Kd.int .u8) 5 w' w.heap.size (fun _ => True) v B ∧ Below w.heap.size w w' := by
  have HX0 := Aside0.mk hb
  have HBL := Aside0.mk (blk_lt hb)
  have H1 := Aside0.mk h1
  have H2 := Aside0.mk h2
  have HN := Aside0.mk (WS.new w)
  have HBA := Aside0.mk (below_alloc (Below.refl w.heap.size w) (.cells #[.slice none 0 0] 92))
  clear hb h1 h2
  go_enter Tryz.func19, Tryz.ntmps19
  go_wp2_with fail
  have HX1 := Aside0.mk ((HBA.out.block b HBL.out).trans HX0.out)
  go_loopw [10] (fun v10 wr => ∃ (j : Nat) (v0 : Value), v10 = .int .i64 (j : Int) ∧ j ≤ 5 ∧ Aside0 (WS wr w.heap.size w.heap.size v0 (hk v n q j)) ∧ Aside0 (wr.heap[b]? = some (.cells (hf v n q) 62 (0, 0))) ∧ Aside0 (Below w.heap.size w wr)) (fun v10 _ => 5 - (intOf v10).toNat)
  case atStart => exact ⟨0, _, by simp, by omega, HN, HX1, HBA⟩
  case round =>
    clear HX1 HN HBA
    obtain ⟨j, v0, rfl, hj, HS, HX, HB⟩ := hrel
    have hcase : j = 0 ∨ j = 1 ∨ j = 2 ∨ j = 3 ∨ j = 4 ∨ j = 5 := by omega
    rcases hcase with rfl | rfl | rfl | rfl | rfl | rfl
    · skip
      have hc0 : wr.cell? ⟨b, 0, none⟩ = some (.int .i64 1) := blk_cell HX.out 0
      have hc1 : wr.cell? ⟨b, 1, none⟩ = some (.int .i64 4) := blk_cell HX.out 1
      go_wp2_with (first
        | (go_at_call 39; refine Aside0.out ?_)
        | fail)
      refine Aside0.mk ?_
      have hba := below_alloc (Below.refl wr.heap.size wr) (.cells #[.int .i64 1, .int .i64 4] 62)
      have hS2 := HS.out.below hba
      refine (bitioPut_calls _ _ _ _ 1 4 _ hS2 (Nat.le_trans (hk_le v n q 0) (by decide))).mono ?_
      rintro e w2 ⟨rfl, v2, hS3, hf, hn⟩
      have hb2 : Below w.heap.size w w2 := (below_step HB.out hba).trans (hf.below (Nat.le_trans HB.out.size hba.size) (Nat.le_refl _) (fun b hb => hS2.own b hb))
      have HS3 := Aside0.mk (show WS w2 w.heap.size w.heap.size v2 (hk v n q (0 + 1)) from hS3)
      have HB3 := Aside0.mk hb2
      have HX3 := Aside0.mk ((hb2.block b HBL.out).trans HX0.out)
      clear hS2 hS3 hf hn hb2 hba hc0 hc1 HX HS HB
      go_wp2_with fail
      go_roundw
      case rel => exact ⟨0 + 1, v2, by simp, by omega, HS3, HX3, HB3⟩
      case measure => simp [intOf]
    · skip
      have hc0 : wr.cell? ⟨b, 2, none⟩ = some (.int .i64 v) := blk_cell HX.out 2
      have hc1 : wr.cell? ⟨b, 3, none⟩ = some (.int .i64 2) := blk_cell HX.out 3
      go_wp2_with (first
        | (go_at_call 39; refine Aside0.out ?_)
        | fail)
      refine Aside0.mk ?_
      have hba := below_alloc (Below.refl wr.heap.size wr) (.cells #[.int .i64 v, .int .i64 2] 62)
      have hS2 := HS.out.below hba
      refine (bitioPut_calls _ _ _ _ v 2 _ hS2 (Nat.le_trans (hk_le v n q 1) (by decide))).mono ?_
      rintro e w2 ⟨rfl, v2, hS3, hf, hn⟩
      have hb2 : Below w.heap.size w w2 := (below_step HB.out hba).trans (hf.below (Nat.le_trans HB.out.size hba.size) (Nat.le_refl _) (fun b hb => hS2.own b hb))
      have HS3 := Aside0.mk (show WS w2 w.heap.size w.heap.size v2 (hk v n q (1 + 1)) from hS3)
      have HB3 := Aside0.mk hb2
      have HX3 := Aside0.mk ((hb2.block b HBL.out).trans HX0.out)
      clear hS2 hS3 hf hn hb2 hba hc0 hc1 HX HS HB
      go_wp2_with fail
      go_roundw
      case rel => exact ⟨1 + 1, v2, by simp, by omega, HS3, HX3, HB3⟩
      case measure => simp [intOf]
    · skip
      have hc0 : wr.cell? ⟨b, 4, none⟩ = some (.int .i64 0) := blk_cell HX.out 4
      have hc1 : wr.cell? ⟨b, 5, none⟩ = some (.int .i64 2) := blk_cell HX.out 5
      go_wp2_with (first
        | (go_at_call 39; refine Aside0.out ?_)
        | fail)
      refine Aside0.mk ?_
      have hba := below_alloc (Below.refl wr.heap.size wr) (.cells #[.int .i64 0, .int .i64 2] 62)
      have hS2 := HS.out.below hba
      refine (bitioPut_calls _ _ _ _ 0 2 _ hS2 (Nat.le_trans (hk_le v n q 2) (by decide))).mono ?_
      rintro e w2 ⟨rfl, v2, hS3, hf, hn⟩
      have hb2 : Below w.heap.size w w2 := (below_step HB.out hba).trans (hf.below (Nat.le_trans HB.out.size hba.size) (Nat.le_refl _) (fun b hb => hS2.own b hb))
      have HS3 := Aside0.mk (show WS w2 w.heap.size w.heap.size v2 (hk v n q (2 + 1)) from hS3)
      have HB3 := Aside0.mk hb2
      have HX3 := Aside0.mk ((hb2.block b HBL.out).trans HX0.out)
      clear hS2 hS3 hf hn hb2 hba hc0 hc1 HX HS HB
      go_wp2_with fail
      go_roundw
      case rel => exact ⟨2 + 1, v2, by simp, by omega, HS3, HX3, HB3⟩
      case measure => simp [intOf]
    · skip
      have hc0 : wr.cell? ⟨b, 6, none⟩ = some (.int .i64 n) := blk_cell HX.out 6
      have hc1 : wr.cell? ⟨b, 7, none⟩ = some (.int .i64 8) := blk_cell HX.out 7
      go_wp2_with (first
        | (go_at_call 39; refine Aside0.out ?_)
        | fail)
      refine Aside0.mk ?_
      have hba := below_alloc (Below.refl wr.heap.size wr) (.cells #[.int .i64 n, .int .i64 8] 62)
      have hS2 := HS.out.below hba
      refine (bitioPut_calls _ _ _ _ n 8 _ hS2 (Nat.le_trans (hk_le v n q 3) (by decide))).mono ?_
      rintro e w2 ⟨rfl, v2, hS3, hf, hn⟩
      have hb2 : Below w.heap.size w w2 := (below_step HB.out hba).trans (hf.below (Nat.le_trans HB.out.size hba.size) (Nat.le_refl _) (fun b hb => hS2.own b hb))
      have HS3 := Aside0.mk (show WS w2 w.heap.size w.heap.size v2 (hk v n q (3 + 1)) from hS3)
      have HB3 := Aside0.mk hb2
      have HX3 := Aside0.mk ((hb2.block b HBL.out).trans HX0.out)
      clear hS2 hS3 hf hn hb2 hba hc0 hc1 HX HS HB
      go_wp2_with fail
      go_roundw
      case rel => exact ⟨3 + 1, v2, by simp, by omega, HS3, HX3, HB3⟩
      case measure => simp [intOf]
    · skip
      have hc0 : wr.cell? ⟨b, 8, none⟩ = some (.int .i64 q) := blk_cell HX.out 8
      have hc1 : wr.cell? ⟨b, 9, none⟩ = some (.int .i64 16) := blk_cell HX.out 9
      go_wp2_with (first
        | (go_at_call 39; refine Aside0.out ?_)
        | fail)
      refine Aside0.mk ?_
      have hba := below_alloc (Below.refl wr.heap.size wr) (.cells #[.int .i64 q, .int .i64 16] 62)
      have hS2 := HS.out.below hba
      refine (bitioPut_calls _ _ _ _ q 16 _ hS2 (Nat.le_trans (hk_le v n q 4) (by decide))).mono ?_
      rintro e w2 ⟨rfl, v2, hS3, hf, hn⟩
      have hb2 : Below w.heap.size w w2 := (below_step HB.out hba).trans (hf.below (Nat.le_trans HB.out.size hba.size) (Nat.le_refl _) (fun b hb => hS2.own b hb))
      have HS3 := Aside0.mk (show WS w2 w.heap.size w.heap.size v2 (hk v n q (4 + 1)) from hS3)
      have HB3 := Aside0.mk hb2
      have HX3 := Aside0.mk ((hb2.block b HBL.out).trans HX0.out)
      clear hS2 hS3 hf hn hb2 hba hc0 hc1 HX HS HB
      go_wp2_with fail
      go_roundw
      case rel => exact ⟨4 + 1, v2, by simp, by omega, HS3, HX3, HB3⟩
      case measure => simp [intOf]
    · skip
      go_wp2_with (first
        | (go_at_call 41; refine (bitioBytes_calls _ _ _ _ wr HS.out k bs 0 H1.out).mono ?_; rintro e w2 ⟨u, rfl, hu, hb⟩; obtain ⟨A, c, rfl⟩ := Kd.R_slice hu; have HU := Aside0.mk hu; have HB2 := Aside0.mk (below_step HB.out hb); clear hu hb)
        | (go_at_call 40; refine (crc16_Seal.calls k _ _ bs B w2 (Kd.R_reads' HU.out).2.2 (Kd.R_reads' HU.out).2.1 H2.out).mono ?_; rintro e w3 ⟨u, rfl, hu, hb⟩; have HU3 := Aside0.mk (Kd.R_lower hu (HB2.out.size)); have HB3 := Aside0.mk (below_step HB2.out hb); clear hu hb)
        | fail)
      go_ret
      exact ⟨_, by simp, HU3.out, HB3.out⟩
end Go.Proofs.YtknanbnjbilciaaGreatDoor.P
namespace Go.Proofs.YtknanbnjbilciaaGreatDoor.P
open Go.RowKit Go.Proofs.YtknanbnjbilciaaGreatDoorW.PrintWords Go.Proofs.YtknanbnjbilciaaGreatDoorW.PrintLast Go.Proofs.YtknanbnjbilciaaGreatDoorW.PrintMore
-- YtknanbnjbilciaaGreatDoorP35
section
attribute [local go_sem] max2_int min2_int max_two min_two max_three min_three max_four min_four
set_option linter.unusedVariables false
set_option linter.unusedSimpArgs false

/-! ### frame_within: function 36 -/
def frame_within.f (a0 : Int) : Option (Bool) := if a0 ≥ 0 then (some (decide (a0 ≤ 64))) else (some false)
set_option maxHeartbeats 8000000 in
set_option maxRecDepth 100000 in
theorem frame_within.calls (a0 : Int) (r : Bool) (w : World) (h : frame_within.f a0 = some r) :
    Calls Tryz.prog 36 #[.int .i64 a0] w fun e w' => e = .returned (.bool r) ∧ Drawn0 w w' := by
  have H : (if a0 ≥ 0 then (some (decide (a0 ≤ 64))) else (some false)) = some r := h
  clear h
  by_cases c2 : a0 ≥ 0
  · rw [if_pos c2] at H
    have c2b0 : decide (0 ≤ a0) = true := decide_eq_true c2
    clear c2
    obtain rfl := Option.some.inj H
    go_enter Tryz.func36, Tryz.ntmps36
    go_wp2
    go_ret
    exact ⟨by first | rfl | (simp; done) | (simp [*]; done), by repeat (first | exact Drawn0.refl _ | apply Drawn0.step)⟩
  · rw [if_neg c2] at H
    have c2b0 : decide (0 ≤ a0) = false := decide_eq_false c2
    clear c2
    obtain rfl := Option.some.inj H
    go_enter Tryz.func36, Tryz.ntmps36
    go_wp2
    go_ret
    exact ⟨by first | rfl | (simp; done) | (simp [*]; done), by repeat (first | exact Drawn0.refl _ | apply Drawn0.step)⟩
end
-- YtknanbnjbilciaaGreatDoorP37
section
attribute [local go_sem] max2_int min2_int max_two min_two max_three min_three max_four min_four
set_option linter.unusedVariables false
set_option linter.unusedSimpArgs false

/-! ### frame_Bits: function 37 -/
def frame_Bits.f (a0 : Int) : Option (Int) := (frame_within.f a0).bind fun t223 => (if t223 = true then ((version_Bits.f (wrap64 (8 * (wrap64 (a0 + 4))))).bind fun t224 => (some t224)) else (some 0))
set_option maxHeartbeats 8000000 in
set_option maxRecDepth 100000 in
theorem frame_Bits.calls (a0 : Int) (r : Int) (w : World) (h : frame_Bits.f a0 = some r) :
    Calls Tryz.prog 37 #[.int .i64 a0] w fun e w' => e = .returned (.int .i64 r) ∧ Drawn0 w w' := by
  have H : ((frame_within.f a0).bind fun t223 => (if t223 = true then ((version_Bits.f (wrap64 (8 * (wrap64 (a0 + 4))))).bind fun t224 => (some t224)) else (some 0))) = some r := h
  clear h
  replace H := Option.bind_eq_some_iff.mp H
  obtain ⟨t223, A20, H⟩ := H
  replace H : (if t223 = true then ((version_Bits.f (wrap64 (8 * (wrap64 (a0 + 4))))).bind fun t224 => (some t224)) else (some 0)) = some r := H
  have A2 := Aside0.mk A20
  clear A20
  by_cases c3 : t223 = true
  · subst c3
    have H1 : ((version_Bits.f (wrap64 (8 * (wrap64 (a0 + 4))))).bind fun t224 => (some t224)) = some r := by rw [if_pos rfl] at H; exact H
    clear H
    have H := H1
    clear H1
    replace H := Option.bind_eq_some_iff.mp H
    obtain ⟨t224, A40, H⟩ := H
    replace H : (some t224) = some r := H
    have A4 := Aside0.mk A40
    clear A40
    obtain rfl := Option.some.inj H
    go_enter Tryz.func37, Tryz.ntmps37
    go_wp2_with (first | ((with_reducible refine gate_callee (f := 36) rfl ?_); refine goesL_ (some 4) rfl rfl Tryz.func36 (by kernel_rfl) rfl #[.int .i64 a0] rfl (by (try simp only [List.map_toArray, List.map_cons, List.map_nil]); first | done | rfl | (simp only [List.length_drop, List.length_take]; rfl)) ?_; (with_reducible refine (frame_within.calls a0 true _ A2.out).mono ?_); rintro e w' ⟨rfl, ⟨nd, rfl⟩⟩; refine ⟨_, rfl, ?_⟩) | ((with_reducible refine gate_callee (f := 56) rfl ?_); refine goesL_ (some 9) rfl rfl Tryz.func56 (by kernel_rfl) rfl #[.int .i64 (wrap64 (8 * (wrap64 (a0 + 4))))] rfl (by (try simp only [List.map_toArray, List.map_cons, List.map_nil]); first | done | rfl | (simp only [List.length_drop, List.length_take]; rfl)) ?_; (with_reducible refine (version_Bits.calls (wrap64 (8 * (wrap64 (a0 + 4)))) t224 _ A4.out).mono ?_); rintro e w' ⟨rfl, ⟨nd, rfl⟩⟩; refine ⟨_, rfl, ?_⟩))
    go_ret
    exact ⟨by first | rfl | (simp; done) | (simp [*]; done), by repeat (first | exact Drawn0.refl _ | apply Drawn0.step)⟩
  · replace c3 := Bool.eq_false_iff.mpr c3
    subst c3
    have H1 : (some 0) = some r := by rw [if_neg (show ¬ (false = true) by decide)] at H; exact H
    clear H
    have H := H1
    clear H1
    obtain rfl := Option.some.inj H
    go_enter Tryz.func37, Tryz.ntmps37
    go_wp2_with (first | ((with_reducible refine gate_callee (f := 36) rfl ?_); refine goesL_ (some 4) rfl rfl Tryz.func36 (by kernel_rfl) rfl #[.int .i64 a0] rfl (by (try simp only [List.map_toArray, List.map_cons, List.map_nil]); first | done | rfl | (simp only [List.length_drop, List.length_take]; rfl)) ?_; (with_reducible refine (frame_within.calls a0 false _ A2.out).mono ?_); rintro e w' ⟨rfl, ⟨nd, rfl⟩⟩; refine ⟨_, rfl, ?_⟩))
    go_ret
    exact ⟨by first | rfl | (simp; done) | (simp [*]; done), by repeat (first | exact Drawn0.refl _ | apply Drawn0.step)⟩
end
end Go.Proofs.YtknanbnjbilciaaGreatDoor.P
namespace Go.Proofs.YtknanbnjbilciaaGreatDoor.P
open Go Go.Proofs Go.RowKit Go.Proofs.YtknanbnjbilciaaGreatDoorW.PrintWords Go.Proofs.YtknanbnjbilciaaGreatDoorW.PrintLast Go.Proofs.YtknanbnjbilciaaGreatDoorW.PrintMore
set_option linter.unusedVariables false
set_option linter.unusedSimpArgs false
-- YtknanbnjbilciaaGreatDoorPKData
/-- A frame's cells. -/
def fr (kind q v n : Int) (body : Value) : Array Value := #[.int .i64 kind, .int .u16 q, .int .i64 v, .int .i64 n, body, .int .u16 0, .int .u32 0]
theorem fr_one (k q v n : Int) (A : Option Addr) (m c : Nat) : (fr k q v n (.slice A m c)).all (·.oneCell') = true := by simp [fr, Value.oneCell']
theorem fr_size : (Tryz.prog.info? 44).map (·.size) = some 7 := by kernel_rfl
theorem within_f (n : Nat) (hn : n ≤ 64) : frame_within.f (n : Int) = some true := by
  unfold frame_within.f
  have h1 : (decide ((n : Int) ≥ 0)) = true := decide_eq_true (by omega)
  have h2 : (decide ((n : Int) ≤ 64)) = true := decide_eq_true (by omega)
  simp [h1, h2]
/-- How many bits a message of n bytes has. -/
def nb (n : Nat) : Nat := 8 * (n + 4) + 6
theorem fbits_f (n : Nat) (hn : n ≤ 64) : frame_Bits.f (n : Int) = some ((nb n : Nat) : Int) := by
  unfold frame_Bits.f
  rw [within_f n hn, Option.bind_some, if_pos rfl]
  have e1 : wrap64 ((n : Int) + 4) = ((n + 4 : Nat) : Int) := by unfold wrap64; omega
  have e2 : wrap64 (8 * ((n + 4 : Nat) : Int)) = ((8 * (n + 4) : Nat) : Int) := by unfold wrap64; omega
  rw [e1, e2, bits_n _ (by omega), Option.bind_some]; rfl
def kdata5.T : Bool × List (List Nat × List Nat) := (true, [([], []), ([0], [0]), ([1], [1]), ([], []), ([3], [3]), ([4], [4]), ([2, 5], [2, 5]), ([6, 5], [6])])
def kdata5.B : List Nat := [0, 1, 3, 0, 8, 24, 63, 127]
theorem kdata5.tab : rtab .any (opsOf Tryz.f18 5) = kdata5.T := by kernel_rfl
theorem kdata5.bits : waitsOk kdata5.T.2 kdata5.B = true := by kernel_rfl
set_option maxRecDepth 100000 in
set_option maxHeartbeats 8000000 in
theorem data_calls {w : World} {A : Option Addr} {c : Nat} {P : List Int} (hP : Kd.C (Kd.int .u8) w A P.length P) (hc : P.length ≤ c) (hPb : ∀ x ∈ P, isb x) (q : Int) (hq : 0 ≤ q ∧ q ≤ 65535) (v n m : Nat) (hv : v < 4) (hn : n ≤ 64) (hm : P.length = m) (hmn : m = nb n)
    (bs S BB : List Int) (k : Nat) (h0 : bits_Bytes.f k P = some (BB, 0)) (h1 : bits_Bytes.f k (hk v n q 5) = some (bs, 0)) (h2 : crc16_Seal.f k bs = some S) (hl : S.length + BB.length ≤ 1000) (hk : 2000 ≤ k) :
    Calls Tryz.prog 18 #[.agg (fr 1 q v n (.slice A m c))] w fun e w' => ∃ u, e = .returned (.tuple #[u, .int .i64 0]) ∧ Kd.R (Kd.int .u8) 5 w' w.heap.size (fun _ => True) u (S ++ BB) ∧ Below w.heap.size w w' := by
  have hxc : IntKind.i64.wrap q = q := by rw [IntKind.wrap_i64]; omega
  have hxw : wrap64 q = q := by unfold wrap64; omega
  have hv0 : (0 : Int) ≤ (v : Int) := by omega
  have hv4 : (v : Int) < 4 := by omega
  have hba := below_alloc (Below.refl w.heap.size w) (.cells (fr 1 q v n (.slice A m c)) 44)
  have hbb := blk_new w (.cells (fr 1 q v n (.slice A m c)) 44)
  have HRT := Aside0.mk (fun w' (hb : Below w.heap.size w w') => bits_Right.calls k A c P true w' (Kd.C_below hP hb) hc (by
    rw [right_f P (by unfold nb at hmn; omega) k (by unfold nb at hmn; omega), (big_isb (fun x hx => (isb01 (hPb x hx)).1)).2 hPb]; rfl))
  have HBY := Aside0.mk (fun w' (hb : Below w.heap.size w w') => bits_Bytes.calls k A c P BB 0 w' (Kd.C_below hP hb) hc h0)
  have HWI := Aside0.mk (fun w => frame_within.calls (n : Int) _ w (within_f n hn))
  have HBT := Aside0.mk (fun w => frame_Bits.calls (n : Int) _ w (fbits_f n hn))
  have H1 := Aside0.mk h1
  have H2 := Aside0.mk h2
  have HL := Aside0.mk (And.intro hl hmn)
  rw [hm] at HRT HBY
  rw [← hmn] at HBT
  clear hP hc hPb hq hv hn hm h0 h1 h2 hl hmn hk
  go_enter Tryz.func18, Tryz.ntmps18
  obtain ⟨w1, hw1⟩ : ∃ w1, w1 = w.alloc (.cells (fr 1 q v n (.slice A m c)) 44) := ⟨_, rfl⟩
  obtain ⟨a1, ha1⟩ : ∃ a1, a1 = w.heap.size := ⟨_, rfl⟩
  have HA := Aside0.mk (show w.heap.size ≤ a1 by rw [ha1]; exact Nat.le_refl _)
  rw [← hw1] at hba hbb
  rw [← ha1] at hbb
  have HX1 := Aside0.mk hbb
  have HB1 := Aside0.mk hba
  go_wp2_with (first
    | ((with_reducible refine gate_ (.fieldAddr 44 (.tmp 1) 2) rfl ?_); refine Aside0.out ?_)
    | fail)
  refine Aside0.mk ?_
  rw [← hw1, ← ha1]
  have hc1 : w1.cell? ⟨a1, 1, none⟩ = some (.int .u16 q) := blk_cell hbb 1
  have hc2 : w1.cell? ⟨a1, 2, none⟩ = some (.int .i64 v) := blk_cell hbb 2
  have hc3 : w1.cell? ⟨a1, 3, none⟩ = some (.int .i64 n) := blk_cell hbb 3
  have hc4 : w1.cell? ⟨a1, 4, none⟩ = some (.slice A m c) := blk_cell hbb 4
  have HRT1 := Aside0.mk (HRT.out w1 HB1.out)
  clear hba hbb hw1 ha1 HRT
  go_wp2_with (first
    | (go_at_call 35; refine Aside0.out ?_)
    | fail)
  refine Aside0.mk ?_
  refine HRT1.out.mono ?_
  rintro e w2 ⟨rfl, hd⟩
  have HB2 := Aside0.mk (below_step HB1.out hd.below)
  have HX2 := Aside0.mk ((hd.below.block a1 (blk_lt HX1.out)).trans HX1.out)
  clear hc1 hc2 hc3 hc4 hd HRT1 HB1 HX1
  have hc3 : w2.cell? ⟨a1, 3, none⟩ = some (.int .i64 n) := blk_cell HX2.out 3
  go_wp2_with (first
    | (go_at_call 36; refine Aside0.out ?_)
    | fail)
  refine Aside0.mk ?_
  refine (HWI.out w2).mono ?_
  rintro e w3 ⟨rfl, hd⟩
  have HB3 := Aside0.mk (below_step HB2.out hd.below)
  have HX3 := Aside0.mk ((hd.below.block a1 (blk_lt HX2.out)).trans HX2.out)
  clear hc3 hd HWI HB2 HX2
  have HS := Aside0.mk (show w3.drew.cell? ⟨a1, 3, none⟩ = some (.int .i64 n) ∧ w3.drew.cell? ⟨a1, 4, none⟩ = some (.slice A m c) from ⟨blk_cell HX3.out 3, blk_cell HX3.out 4⟩)
  go_wp2_with fail
  refine start_ (n := 8) (S := (fun w' => w'.cell? ⟨a1, 3, none⟩ = some (.int .i64 n) ∧ w'.cell? ⟨a1, 4, none⟩ = some (.slice A m c))) (ds := []) #[false, false, false, false, false, false, false, false] (by kernel_rfl) rfl rfl HS.out (fun hHeld => ?_)
  refine with_tabW kdata5.tab kdata5.bits (fun HT_ HW_ => ?_)
  refine pure_ (i := 0) (N := some 28) (v := ?_) (a' := ?_) #[true, false, false, false, false, false, false, false] rfl rfl (any_of HT_.out (by kernel_rfl)) (fun _ _ _ h => h) (Or.inl ⟨by rfl, ?_⟩) ?_ ?_
  rotate_left
  · intro w'
    go_simp
    with_reducible rfl
  rotate_left
  · simp only [Act.put, List.setIfInBounds_toArray, List.set_cons_zero, List.set_cons_succ, i64_w, i32_w]
    rfl
  refine take_ (i := 1) (N := some 29) (v := ?_) (a' := ?_) #[true, true, false, false, false, false, false, false] rfl rfl (take_ofW HT_.out HW_.out (by kernel_rfl)) (fun _ _ _ h => h) (Or.inl ⟨by rfl, ?_⟩) hHeld ?_ ?_
  rotate_left
  · rintro w' ⟨s0, s1⟩
    go_simp
    with_reducible rfl
  rotate_left
  · simp only [Act.put, List.setIfInBounds_toArray, List.set_cons_zero, List.set_cons_succ, i64_w, i32_w]
    rfl
  refine pure_ (i := 2) (N := some 30) (v := ?_) (a' := ?_) #[true, true, true, false, false, false, false, false] rfl rfl (any_of HT_.out (by kernel_rfl)) (fun _ _ _ h => h) (Or.inl ⟨by rfl, ?_⟩) ?_ ?_
  rotate_left
  · intro w'
    go_simp
    with_reducible rfl
  rotate_left
  · simp only [Act.put, List.setIfInBounds_toArray, List.set_cons_zero, List.set_cons_succ, i64_w, i32_w]
    rfl
  refine pure_ (i := 3) (N := some 31) (v := ?_) (a' := ?_) #[true, true, true, true, false, false, false, false] rfl rfl (any_of HT_.out (by kernel_rfl)) (fun _ _ _ h => h) (Or.inl ⟨by rfl, ?_⟩) ?_ ?_
  rotate_left
  · intro w'
    go_simp
    with_reducible rfl
  rotate_left
  · simp only [Act.put, List.setIfInBounds_toArray, List.set_cons_zero, List.set_cons_succ, i64_w, i32_w]
    rfl
  refine take_ (i := 4) (N := some 32) (v := ?_) (a' := ?_) #[true, true, true, true, true, false, false, false] rfl rfl (take_ofW HT_.out HW_.out (by kernel_rfl)) (fun _ _ _ h => h) (Or.inl ⟨by rfl, ?_⟩) hHeld ?_ ?_
  rotate_left
  · rintro w' ⟨s0, s1⟩
    go_simp
    with_reducible rfl
  rotate_left
  · simp only [Act.put, List.setIfInBounds_toArray, List.set_cons_zero, List.set_cons_succ, i64_w, i32_w]
    rfl
  refine one_ (i := 5) (N := some 33) #[true, true, true, true, true, true, false, false] rfl rfl (one_of HT_.out (by kernel_rfl)) (by decide) (fun K hK => ?_)
  refine goes_ Tryz.func37 (by kernel_rfl) rfl _ (by rfl) rfl rfl (by (try simp only [List.map_toArray, List.map_cons, List.map_nil]); first | done | rfl | (go_simp; done) | simp [Act.eval]) ?_
  refine (HBT.out _).mono ?_
  rintro e w4 ⟨rfl, hd⟩
  have HD4 := Aside0.mk hd
  clear hd HBT
  refine ⟨_, rfl, ?_⟩
  refine hK.out _ _ (by obtain ⟨nd, rfl⟩ := HD4.out; exact HS.out) (fun hHeld => ?_)
  clear hK K
  refine norm_ (a' := ?_) ?_ ?_
  rotate_left
  · show Act.put _ (some 33) _ = _
    simp only [Act.put, List.setIfInBounds_toArray, List.set_cons_zero, List.set_cons_succ, i64_w, i32_w]
    rfl
  refine pure_ (i := 6) (N := some 34) (v := ?_) (a' := ?_) #[true, true, true, true, true, true, true, false] rfl rfl (any_of HT_.out (by kernel_rfl)) (fun _ _ _ h => h) (Or.inl ⟨by rfl, ?_⟩) ?_ ?_
  rotate_left
  · intro w'
    go_simp
    with_reducible rfl
  rotate_left
  · simp only [Act.put, List.setIfInBounds_toArray, List.set_cons_zero, List.set_cons_succ, i64_w, i32_w]
    rfl
  refine pure_ (i := 7) (N := some 27) (v := ?_) (a' := ?_) #[true, true, true, true, true, true, true, true] rfl rfl (any_of HT_.out (by kernel_rfl)) (fun _ _ _ h => h) (Or.inl ⟨by rfl, ?_⟩) ?_ ?_
  rotate_left
  · intro w'
    go_simp
    with_reducible rfl
  rotate_left
  · simp only [Act.put, List.setIfInBounds_toArray, List.set_cons_zero, List.set_cons_succ, i64_w, i32_w]
    rfl
  refine done_ (done_of HT_.out (by kernel_rfl)) ?_
  clear hHeld
  have HB4 := Aside0.mk (below_step (below_step HB3.out (below_drew1 (Below.refl _ _))) HD4.out.below)
  have HX4 := Aside0.mk ((HD4.out.below.block a1 (blk_lt HX3.out)).trans HX3.out)
  clear hHeld HB3 HX3 HS HD4
  have hc1 : w4.cell? ⟨a1, 1, none⟩ = some (.int .u16 q) := blk_cell HX4.out 1
  have hc2 : w4.cell? ⟨a1, 2, none⟩ = some (.int .i64 v) := blk_cell HX4.out 2
  have hc3 : w4.cell? ⟨a1, 3, none⟩ = some (.int .i64 n) := blk_cell HX4.out 3
  have hc4 : w4.cell? ⟨a1, 4, none⟩ = some (.slice A m c) := blk_cell HX4.out 4
  have HBY4 := Aside0.mk (HBY.out w4 HB4.out)
  clear HBY
  go_wp2_with (first
    | (go_at_call 38; refine Aside0.out ?_)
    | fail)
  refine Aside0.mk ?_
  refine HBY4.out.mono ?_
  rintro e w5 ⟨v5, rfl, hv, hb⟩
  have HV5 := Aside0.mk hv
  have HS5 := Aside0.mk hb.size
  have HB5 := Aside0.mk (below_step HB4.out hb)
  have HX5 := Aside0.mk ((hb.block a1 (blk_lt HX4.out)).trans HX4.out)
  clear hv hb hc1 hc2 hc3 hc4 HBY4 HX4
  have hc1 : w5.cell? ⟨a1, 1, none⟩ = some (.int .u16 q) := blk_cell HX5.out 1
  have hc2 : w5.cell? ⟨a1, 2, none⟩ = some (.int .i64 v) := blk_cell HX5.out 2
  have hc3 : w5.cell? ⟨a1, 3, none⟩ = some (.int .i64 n) := blk_cell HX5.out 3
  go_wp2_with (first
    | (go_at_call 19; refine Aside0.out ?_)
    | fail)
  refine Aside0.mk ?_
  have hba := below_alloc (Below.refl w5.heap.size w5) (.cells (hf v n q) 62)
  have hbb := blk_new w5 (.cells (hf v n q) 62)
  refine (packd_calls v n q hbb bs S k H1.out H2.out).mono ?_
  rintro e w6 ⟨v6, rfl, hv6, hb6⟩
  have HV6 := Aside0.mk (Kd.R_lower hv6 hba.size)
  have HW6 := Aside0.mk (below_step hba hb6)
  have HV5' := Aside0.mk (Kd.R_below (Kd.R_mono (Kd.R_bound HV5.out) (ok' := fun k => k < w5.heap.size) (fun k ok => ok.2.2.1)) HW6.out)
  have HB6 := Aside0.mk (below_step HB5.out HW6.out)
  clear hv6 hb6 hba hbb hc1 hc2 hc3 HV5 HX5
  obtain ⟨A5, c5, rfl⟩ := Kd.R_slice HV5'.out
  go_wp2_with (first
    | ((with_reducible refine gate_builtin (b := .append) (xs := #[.tmp 55, .tmp 56]) rfl ?_); at_builtin; refine Kd.R_append_row (Value.int .u8) (0 : Int) (h1 := fun _ => rfl) (w0 := w) w.heap.size rfl (.tmp 55) (.tmp 56) 31 5 (.int .u8 0) 1 rfl Tryz.underlying31 u8_info rfl (by decide) v6 S BB A5 BB.length c5 (fun _ => True) rfl rfl (fun _ _ => trivial) (Kd.R_lower HV6.out HB5.out.size) (Kd.R_reads' HV5'.out).2.2 HB6.out HB6.out.size (by have := HL.out; omega) ?_; intro v9 w9 ho hb hg hat; have HO := Aside0.mk ho; have HB9 := Aside0.mk hb; clear ho hb hg hat)
    | fail)
  have hrs : (Tryz.f18).results = #[.tmp 2, .tmp 3] := by kernel_rfl
  refine bodyPost_ret (results_tmp2 hrs _ _ _) rfl ?_
  exact ⟨v9, rfl, HO.out, HB9.out⟩
set_option maxRecDepth 100000 in
set_option maxHeartbeats 8000000 in
theorem writed_calls {w : World} {A : Option Addr} {c : Nat} {P : List Int} (hP : Kd.C (Kd.int .u8) w A P.length P) (hc : P.length ≤ c) (hPb : ∀ x ∈ P, isb x) (q : Int) (hq : 0 ≤ q ∧ q ≤ 65535) (v n m : Nat) (hv : v < 4) (hn : n ≤ 64) (hm : P.length = m) (hmn : m = nb n)
    (bs S BB : List Int) (k : Nat) (h0 : bits_Bytes.f k P = some (BB, 0)) (h1 : bits_Bytes.f k (hk v n q 5) = some (bs, 0)) (h2 : crc16_Seal.f k bs = some S) (hl : S.length + BB.length ≤ 1000) (hk : 2000 ≤ k) :
    Calls Tryz.prog 8 #[.agg (fr 1 q v n (.slice A m c))] w fun e w' => ∃ u, e = .returned (.tuple #[u, .int .i64 0]) ∧ Kd.R (Kd.int .u8) 5 w' w.heap.size (fun _ => True) u (S ++ BB) ∧ Below w.heap.size w w' := by
  have hba := below_alloc (Below.refl w.heap.size w) (.cells (fr 1 q v n (.slice A m c)) 44)
  have hbb := blk_new w (.cells (fr 1 q v n (.slice A m c)) 44)
  have HD := Aside0.mk (data_calls (Kd.C_below hP hba) hc hPb q hq v n m hv hn hm hmn bs S BB k h0 h1 h2 hl hk)
  clear hP hc hPb hq hv hn hm h0 h1 h2 hl hmn hk
  obtain ⟨w1, hw1⟩ : ∃ w1, w1 = w.alloc (.cells (fr 1 q v n (.slice A m c)) 44) := ⟨_, rfl⟩
  obtain ⟨a1, ha1⟩ : ∃ a1, a1 = w.heap.size := ⟨_, rfl⟩
  rw [← hw1] at hba hbb HD
  rw [← ha1] at hbb
  have HX1 := Aside0.mk hbb
  have HB1 := Aside0.mk hba
  have hc0 : w1.cell? ⟨a1, 0, none⟩ = some (.int .i64 1) := blk_cell hbb 0
  have hu := Tryz.underlying44
  clear hba hbb
  go_enter Tryz.func8, Tryz.ntmps8
  go_wp2_with (first
    | ((with_reducible refine gate_ (.fieldAddr 44 (.tmp 1) 0) rfl ?_); refine Aside0.out ?_)
    | fail)
  refine Aside0.mk ?_
  rw [← hw1, ← ha1]
  clear hw1 ha1
  go_wp2_with (first
    | (refine wpList_load_row rfl 44 (.tmp 1) rfl a1 rfl 44 (fr 1 q v n (.slice A m c)) (0, 0) _ HX1.out hu rfl fr_size ?_)
    | (go_at_call 18; refine HD.out.mono ?_; rintro e w2 ⟨u, rfl, hu2, hb2⟩; have HU := Aside0.mk (Kd.R_lower hu2 HB1.out.size); have HB2 := Aside0.mk (below_step HB1.out hb2); clear hu2 hb2 HD)
    | fail)
  have hrs : (Tryz.f8).results = #[.tmp 2, .tmp 3] := by kernel_rfl
  refine bodyPost_ret (results_tmp2 hrs _ _ _) rfl ?_
  exact ⟨u, rfl, HU.out, HB2.out⟩
end Go.Proofs.YtknanbnjbilciaaGreatDoor.P
namespace Go.Proofs.YtknanbnjbilciaaGreatDoor.P
open Go.RowKit Go.Proofs.YtknanbnjbilciaaGreatDoorW.PrintWords Go.Proofs.YtknanbnjbilciaaGreatDoorW.PrintLast Go.Proofs.YtknanbnjbilciaaGreatDoorW.PrintMore
-- YtknanbnjbilciaaGreatDoorP45
section
attribute [local go_sem] max2_int min2_int max_two min_two max_three min_three max_four min_four
set_option linter.unusedVariables false
set_option linter.unusedSimpArgs false

/-! ### crc16_Right: function 46 -/
def crc16_Right.f (k : Nat) (l0 : List Int) : Option (Bool) := if (l0.length : Int) ≥ 2 then ((crc16_Sum.f k l0).bind fun t242 => (some (t242 == 0))) else (some false)
theorem crc16_Right.mono : ∀ a0 k, LeO (crc16_Right.f k a0) (crc16_Right.f (k + 1) a0) := by
  intro a0 k
  unfold crc16_Right.f
  repeat' first
      | (with_reducible exact crc16_Sum.mono _ _)
      | (with_reducible exact LeO.refl _)
      | (with_reducible exact LeO.none _)
      | (with_reducible refine LeO.ite ?_ ?_)
      | (with_reducible refine LeO.bind ?_ (fun _ => ?_))
      | exact crc16_Sum.mono _ _
      | exact LeO.none _
      | refine LeO.ite ?_ ?_
      | refine LeO.bind ?_ (fun _ => ?_)
set_option maxHeartbeats 8000000 in
set_option maxRecDepth 100000 in
theorem crc16_Right.calls (k : Nat) (A0 : Option Addr) (c0 : Nat) (l0 : List Int) (r : Bool) (w : World) (hr0 : Kd.C (Kd.int .u8) w A0 l0.length l0) (hc0 : l0.length ≤ c0) (h : crc16_Right.f k l0 = some r) :
    Calls Tryz.prog 46 #[.slice A0 l0.length c0] w fun e w' => e = .returned (.bool r) ∧ Drawn0 w w' := by
  have HR0 := Aside0.mk hr0
  have HC0 := Aside0.mk hc0
  clear hr0 hc0
  have H : (if (l0.length : Int) ≥ 2 then ((crc16_Sum.f k l0).bind fun t242 => (some (t242 == 0))) else (some false)) = some r := h
  clear h
  by_cases c2 : (l0.length : Int) ≥ 2
  · rw [if_pos c2] at H
    have c2b0 : decide (2 ≤ (l0.length : Int)) = true := decide_eq_true c2
    have c2b1 : decide (2 ≤ l0.length) = true := decide_eq_true (by omega)
    clear c2
    replace H := Option.bind_eq_some_iff.mp H
    obtain ⟨t242, A30, H⟩ := H
    replace H : (some (t242 == 0)) = some r := H
    have A3 := Aside0.mk A30
    clear A30
    obtain rfl := Option.some.inj H
    go_enter Tryz.func46, Tryz.ntmps46
    go_wp2_with (first | (go_at_call 73; (with_reducible refine (crc16_Sum.calls k _ _ l0 t242 _ ?side1 ?side2 A3.out).mono ?_); (case side1 => repeat (first | exact HR0.out | (with_reducible refine Kd.C_alloc ?_ _) | (with_reducible refine Kd.C_drewN ?_ _) | (with_reducible refine Kd.C_drew ?_))); (case side2 => exact HC0.out); rintro e w' ⟨rfl, ⟨nd, rfl⟩⟩))
    go_ret
    exact ⟨by first | rfl | (simp; done) | (simp [*]; done), by repeat (first | exact Drawn0.refl _ | apply Drawn0.step)⟩
  · rw [if_neg c2] at H
    have c2b0 : decide (2 ≤ (l0.length : Int)) = false := decide_eq_false c2
    have c2b1 : decide (2 ≤ l0.length) = false := decide_eq_false (by omega)
    clear c2
    obtain rfl := Option.some.inj H
    go_enter Tryz.func46, Tryz.ntmps46
    go_wp2
    go_ret
    exact ⟨by first | rfl | (simp; done) | (simp [*]; done), by repeat (first | exact Drawn0.refl _ | apply Drawn0.step)⟩
end
end Go.Proofs.YtknanbnjbilciaaGreatDoor.P
-- YtknanbnjbilciaaGreatDoorPKPlainA
namespace Go.Proofs.YtknanbnjbilciaaGreatDoor.P
open Go.RowKit Go.Proofs.YtknanbnjbilciaaGreatDoorW.PrintWords Go.Proofs.YtknanbnjbilciaaGreatDoorW.PrintLast Go.Proofs.YtknanbnjbilciaaGreatDoorW.PrintMore
set_option linter.unusedVariables false
set_option linter.unusedSimpArgs false

def bit (x : Int) : Prop := x = 0 ∨ x = 1
theorem getD_bit {l : List Int} (h : ∀ x ∈ l, bit x) (i : Nat) : bit (l.getD i 0) := by
  by_cases hi : i < l.length
  · rw [List.getD_eq_getElem?_getD, List.getElem?_eq_getElem hi]; exact h _ (List.getElem_mem hi)
  · rw [List.getD_eq_getElem?_getD, List.getElem?_eq_none (by omega)]; exact .inl rfl
def bits8a (x : Int) : List Int := [x / 128 % 2, x / 64 % 2, x / 32 % 2, x / 16 % 2, x / 8 % 2, x / 4 % 2, x / 2 % 2, x / 1 % 2]
def ofl (l : List Int) : List Int := l.flatMap bits8a
theorem ofl_cons (x : Int) (l : List Int) : ofl (x :: l) = bits8a x ++ ofl l := by simp [ofl]
theorem ofl_snoc (l : List Int) (x : Int) : ofl (l ++ [x]) = ofl l ++ bits8a x := by simp [ofl]
theorem ofl_length (l : List Int) : (ofl l).length = 8 * l.length := by
  induction l with
  | nil => rfl
  | cons x l ih => rw [ofl_cons, List.length_append, ih, List.length_cons]; show 8 + _ = _; omega
theorem ofl_bit (l : List Int) : ∀ x ∈ ofl l, 0 ≤ x ∧ x ≤ 1 := by
  intro x hx
  simp only [ofl, List.mem_flatMap] at hx
  obtain ⟨y, _, hy⟩ := hx
  simp only [bits8a, List.mem_cons, List.not_mem_nil, or_false] at hy
  rcases hy with rfl | rfl | rfl | rfl | rfl | rfl | rfl | rfl <;> omega
def bv (x : Int) (s : Int) : Int := Go.bits .and .u8 (shr .u8 x s) 1
theorem bv_all : ∀ r : Fin 256, [bv (r.val : Int) 7, bv (r.val : Int) 6, bv (r.val : Int) 5, bv (r.val : Int) 4, bv (r.val : Int) 3, bv (r.val : Int) 2, bv (r.val : Int) 1, bv (r.val : Int) 0] = bits8a (r.val : Int) := by decide +kernel
theorem bv_eq (x : Int) (h : 0 ≤ x ∧ x ≤ 255) : [bv x 7, bv x 6, bv x 5, bv x 4, bv x 3, bv x 2, bv x 1, bv x 0] = bits8a x := by
  obtain ⟨n, rfl⟩ := Int.eq_ofNat_of_zero_le h.1
  exact bv_all ⟨n, by omega⟩
theorem bof_step (k : Nat) (acc : List Int) (x : Int) (l : List Int) (n i j s : Int) (hj : j < 8) (hs : wrap64 (7 - j) = s) (h0 : 0 ≤ s) (ha : acc.length < 140737488355328) :
    bits_Of.l1 (k + 1) acc x l n i j = bits_Of.l1 k (acc ++ [bv x s]) x l n i (wrap64 (j + 1)) := by
  rw [bits_Of.l1.eq_2, if_pos hj, hs, if_pos h0, if_pos ha]; rfl
theorem bof_l1 (k : Nat) (acc : List Int) (x : Int) (hx : 0 ≤ x ∧ x ≤ 255) (l : List Int) (n i : Int) (ha : acc.length < 100000) :
    bits_Of.l1 (k + 9) acc x l n i 0 = bits_Of.l0 k (acc ++ bits8a x) l n (wrap64 (i + 1)) := by
  rw [bof_step (k + 8) acc x l n i 0 7 (by omega) (by unfold wrap64; omega) (by omega) (by omega), show wrap64 (0 + 1) = 1 from by unfold wrap64; omega,
    bof_step (k + 7) _ x l n i 1 6 (by omega) (by unfold wrap64; omega) (by omega) (by simp; omega), show wrap64 (1 + 1) = 2 from by unfold wrap64; omega,
    bof_step (k + 6) _ x l n i 2 5 (by omega) (by unfold wrap64; omega) (by omega) (by simp; omega), show wrap64 (2 + 1) = 3 from by unfold wrap64; omega,
    bof_step (k + 5) _ x l n i 3 4 (by omega) (by unfold wrap64; omega) (by omega) (by simp; omega), show wrap64 (3 + 1) = 4 from by unfold wrap64; omega,
    bof_step (k + 4) _ x l n i 4 3 (by omega) (by unfold wrap64; omega) (by omega) (by simp; omega), show wrap64 (4 + 1) = 5 from by unfold wrap64; omega,
    bof_step (k + 3) _ x l n i 5 2 (by omega) (by unfold wrap64; omega) (by omega) (by simp; omega), show wrap64 (5 + 1) = 6 from by unfold wrap64; omega,
    bof_step (k + 2) _ x l n i 6 1 (by omega) (by unfold wrap64; omega) (by omega) (by simp; omega), show wrap64 (6 + 1) = 7 from by unfold wrap64; omega,
    bof_step (k + 1) _ x l n i 7 0 (by omega) (by unfold wrap64; omega) (by omega) (by simp; omega), show wrap64 (7 + 1) = 8 from by unfold wrap64; omega,
    bits_Of.l1.eq_2, if_neg (by omega), ← bv_eq x hx]
  simp only [List.append_assoc, List.cons_append, List.nil_append]
theorem bof_l0 (l : List Int) (hw : ∀ x ∈ l, 0 ≤ x ∧ x ≤ 255) (hl : l.length ≤ 10000) (d : Nat) : ∀ k i : Nat, i + d = l.length → 10 * d < k →
    bits_Of.l0 k (ofl (l.take i)) l (l.length : Int) (i : Int) = some (ofl l) := by
  induction d with
  | zero =>
    intro k i hi hk
    obtain ⟨k, rfl⟩ := pred (show 0 < k by omega)
    rw [bits_Of.l0.eq_2, if_neg (by omega), List.take_of_length_le (by omega)]
  | succ d ih =>
    intro k i hi hk
    obtain ⟨k, rfl⟩ : ∃ m, k = (m + 9) + 1 := ⟨k - 10, by omega⟩
    have hlt : i < l.length := by omega
    rw [bits_Of.l0.eq_2, if_pos (by omega), if_pos (by omega), if_pos (by omega), rd_get l i hlt,
      bof_l1 k _ _ (hw _ (List.getElem_mem hlt)) l _ _ (by rw [ofl_length, List.length_take]; omega), ← ofl_snoc, ← take_snoc l i hlt, wrap_succ i (by omega)]
    exact ih k (i + 1) (by omega) (by omega)
theorem bof_f (l : List Int) (hw : ∀ x ∈ l, 0 ≤ x ∧ x ≤ 255) (hl : l.length ≤ 10000) (k : Nat) (hk : 10 * l.length < k) : bits_Of.f k l = some (ofl l) :=
  bof_l0 l hw hl l.length k 0 (by omega) hk
theorem byOf_congr (l l' : List Int) (x y : Nat) : ∀ m, (∀ k, k < m → l.getD (8 * x + k) 0 = l'.getD (8 * y + k) 0) → byOf l x m = byOf l' y m
  | 0, _ => rfl
  | m + 1, h => by
    unfold byOf
    rw [byOf_congr l l' x y m (fun k hk => h k (by omega)), h m (by omega)]
theorem by_all : ∀ r : Fin 256, byOf (bits8a (r.val : Int)) 0 8 = (r.val : Int) := by decide +kernel
theorem ofl_getD : ∀ (l : List Int) (j : Nat) (h : j < l.length) (k : Nat), k < 8 → (ofl l).getD (8 * j + k) 0 = (bits8a l[j]).getD (8 * 0 + k) 0
  | [], _, h, _, _ => absurd h (Nat.not_lt_zero _)
  | x :: l, 0, _, k, hk => by
    rw [ofl_cons, List.getD_eq_getElem?_getD, List.getD_eq_getElem?_getD, List.getElem?_append_left (show _ < 8 by omega)]; rfl
  | x :: l, j + 1, h, k, hk => by
    have ih := ofl_getD l j (by simpa using h) k hk
    rw [ofl_cons, List.getD_eq_getElem?_getD, List.getElem?_append_right (show 8 ≤ _ by omega), show 8 * (j + 1) + k - (bits8a x).length = 8 * j + k from by show _ - 8 = _; omega, ← List.getD_eq_getElem?_getD, ih]
    rfl
theorem byte_ofl (l : List Int) (hw : ∀ x ∈ l, 0 ≤ x ∧ x ≤ 255) (j : Nat) (h : j < l.length) : byte (ofl l) j = l[j] := by
  unfold byte
  rw [ofl_length, show min 8 (8 * l.length - 8 * j) = 8 from by omega, byOf_congr (ofl l) (bits8a l[j]) j 0 8 (ofl_getD l j h)]
  have hx := hw _ (List.getElem_mem h)
  obtain ⟨n, hn⟩ := Int.eq_ofNat_of_zero_le hx.1
  rw [hn] at hx ⊢
  exact by_all ⟨n, by omega⟩
theorem ofl_right (l : List Int) : (ofl l).any big = false := by
  rw [List.any_eq_false]
  intro x hx
  have := ofl_bit l x hx
  unfold big
  rw [decide_eq_false (by omega)]; decide
theorem bytes_ofl (l : List Int) (hw : ∀ x ∈ l, 0 ≤ x ∧ x ≤ 255) (hl : l.length ≤ 10000) (k : Nat) (hk : 8 * l.length < k) : bits_Bytes.f k (ofl l) = some (l, 0) := by
  have hn := ofl_length l
  unfold bits_Bytes.f
  rw [right_f (ofl l) (by omega) k (by omega), ofl_right, Option.bind_some, if_pos (by decide), if_pos (by omega), hn, show (8 * l.length + 7) / 8 = l.length from by omega]
  have : (List.range l.length).map (byte (ofl l)) = l := by
    apply List.ext_getElem
    · simp
    · intro i h1 h2
      rw [List.getElem_map, List.getElem_range, byte_ofl l hw i h2]
  rw [this]

def rb (l : List Int) (x : Nat) : Nat → Int
  | 0 => 0
  | m + 1 => 2 * rb l x m + l.getD (8 * x + m) 0
theorem bit01 {x : Int} (h : bit x) : 0 ≤ x ∧ x ≤ 1 := by unfold bit at h; omega
theorem rb_in (l : List Int) (h : ∀ x ∈ l, bit x) (x : Nat) (m : Nat) : 0 ≤ rb l x m ∧ rb l x m + 1 ≤ ((2 ^ m : Nat) : Int) := by
  induction m with
  | zero => simp [rb]
  | succ m ih =>
    have hb := getD_bit h (8 * x + m)
    unfold bit at hb
    unfold rb
    rw [Nat.pow_succ]
    omega
theorem rb_256 (l : List Int) (h : ∀ x ∈ l, bit x) (x : Nat) (m : Nat) (hm : m ≤ 8) : 0 ≤ rb l x m ∧ rb l x m ≤ 255 := by
  have h1 := rb_in l h x m
  have h2 : 2 ^ m ≤ 2 ^ 8 := Nat.pow_le_pow_right (by omega) hm
  omega
theorem rb_congr (l l' : List Int) (x y : Nat) : ∀ m, (∀ k, k < m → l.getD (8 * x + k) 0 = l'.getD (8 * y + k) 0) → rb l x m = rb l' y m
  | 0, _ => rfl
  | m + 1, h => by
    unfold rb
    rw [rb_congr l l' x y m (fun k hk => h k (by omega)), h m (by omega)]
theorem rb_all : ∀ r : Fin 256, rb (bits8a (r.val : Int)) 0 8 = (r.val : Int) := by decide +kernel
theorem by_short : ∀ r : Fin 256, ∀ m : Fin 9, (∀ k : Fin 8, m.val ≤ k.val → (bits8a (r.val : Int)).getD (8 * 0 + k.val) 0 = 0) → byOf (bits8a (r.val : Int)) 0 m.val = (r.val : Int) := by decide +kernel
theorem eight (l : List Int) (h : ∀ x ∈ l, bit x) (x : Nat) : ∃ r : Fin 256, ∀ k, k < 8 → l.getD (8 * x + k) 0 = (bits8a (r.val : Int)).getD (8 * 0 + k) 0 := by
  have b0 := getD_bit h (8 * x + 0)
  have b1 := getD_bit h (8 * x + 1)
  have b2 := getD_bit h (8 * x + 2)
  have b3 := getD_bit h (8 * x + 3)
  have b4 := getD_bit h (8 * x + 4)
  have b5 := getD_bit h (8 * x + 5)
  have b6 := getD_bit h (8 * x + 6)
  have b7 := getD_bit h (8 * x + 7)
  replace b0 := bit01 b0
  replace b1 := bit01 b1
  replace b2 := bit01 b2
  replace b3 := bit01 b3
  replace b4 := bit01 b4
  replace b5 := bit01 b5
  replace b6 := bit01 b6
  replace b7 := bit01 b7
  suffices hh : ∃ r : Fin 256, l.getD (8 * x + 0) 0 = (r.val : Int) / 128 % 2 ∧ l.getD (8 * x + 1) 0 = (r.val : Int) / 64 % 2 ∧ l.getD (8 * x + 2) 0 = (r.val : Int) / 32 % 2 ∧ l.getD (8 * x + 3) 0 = (r.val : Int) / 16 % 2 ∧ l.getD (8 * x + 4) 0 = (r.val : Int) / 8 % 2 ∧ l.getD (8 * x + 5) 0 = (r.val : Int) / 4 % 2 ∧ l.getD (8 * x + 6) 0 = (r.val : Int) / 2 % 2 ∧ l.getD (8 * x + 7) 0 = (r.val : Int) / 1 % 2 by
    obtain ⟨r, h0, h1, h2, h3, h4, h5, h6, h7⟩ := hh
    refine ⟨r, ?_⟩
    intro k hk
    have hk' : k = 0 ∨ k = 1 ∨ k = 2 ∨ k = 3 ∨ k = 4 ∨ k = 5 ∨ k = 6 ∨ k = 7 := by omega
    rcases hk' with rfl | rfl | rfl | rfl | rfl | rfl | rfl | rfl
    · exact h0
    · exact h1
    · exact h2
    · exact h3
    · exact h4
    · exact h5
    · exact h6
    · exact h7
  generalize l.getD (8 * x + 0) 0 = c0 at *
  generalize l.getD (8 * x + 1) 0 = c1 at *
  generalize l.getD (8 * x + 2) 0 = c2 at *
  generalize l.getD (8 * x + 3) 0 = c3 at *
  generalize l.getD (8 * x + 4) 0 = c4 at *
  generalize l.getD (8 * x + 5) 0 = c5 at *
  generalize l.getD (8 * x + 6) 0 = c6 at *
  generalize l.getD (8 * x + 7) 0 = c7 at *
  obtain ⟨n, hn⟩ := Int.eq_ofNat_of_zero_le (a := 128 * c0 + 64 * c1 + 32 * c2 + 16 * c3 + 8 * c4 + 4 * c5 + 2 * c6 + c7) (by omega)
  refine ⟨⟨n, by omega⟩, ?_, ?_, ?_, ?_, ?_, ?_, ?_, ?_⟩ <;> (show _ = (n : Int) / _ % 2; rw [show (n : Int) = 128 * c0 + 64 * c1 + 32 * c2 + 16 * c3 + 8 * c4 + 4 * c5 + 2 * c6 + c7 from hn.symm]; clear hn; omega)
theorem byte_rb (l : List Int) (h : ∀ x ∈ l, bit x) (x : Nat) : byte l x = rb l x 8 := by
  obtain ⟨r, hr⟩ := eight l h x
  rw [rb_congr l (bits8a (r.val : Int)) x 0 8 hr, rb_all r]
  unfold byte
  rw [byOf_congr l (bits8a (r.val : Int)) x 0 _ (fun k hk => hr k (by omega))]
  refine by_short r ⟨min 8 (l.length - 8 * x), by omega⟩ ?_
  intro k hk
  rw [← hr k.val k.isLt, List.getD_eq_getElem?_getD, List.getElem?_eq_none (by have := k.isLt; simp only at hk; omega)]
  rfl
section
open Go
theorem i64_and_nat (a b : Nat) (ha : a < 9223372036854775808) (hb : b < 9223372036854775808) : Go.bits .and .i64 (a : Int) (b : Int) = ((a &&& b : Nat) : Int) := by
  have hx : a &&& b < 2 ^ 63 := Nat.and_lt_two_pow _ (by omega)
  show IntKind.i64.wrap ((BitVec.ofInt 64 (a : Int) &&& BitVec.ofInt 64 (b : Int)).toNat : Int) = _
  rw [BitVec.toNat_and, Go.ofInt_u64 a (by omega), Go.ofInt_u64 b (by omega)]
  generalize hm : a &&& b = m at hx ⊢
  have hm2 : (m : Int) ≤ 9223372036854775807 := by omega
  rw [IntKind.wrap_i64]; omega
theorem i64_or_nat (a b : Nat) (ha : a < 9223372036854775808) (hb : b < 9223372036854775808) : Go.bits .or .i64 (a : Int) (b : Int) = ((a ||| b : Nat) : Int) := by
  have hx : a ||| b < 2 ^ 63 := Nat.or_lt_two_pow (by omega) (by omega)
  show IntKind.i64.wrap ((BitVec.ofInt 64 (a : Int) ||| BitVec.ofInt 64 (b : Int)).toNat : Int) = _
  rw [BitVec.toNat_or, Go.ofInt_u64 a (by omega), Go.ofInt_u64 b (by omega)]
  generalize hm : a ||| b = m at hx ⊢
  have hm2 : (m : Int) ≤ 9223372036854775807 := by omega
  rw [IntKind.wrap_i64]; omega
theorem bitv_nat (n i : Nat) (hn : n < 9223372036854775808) : bitv (n : Int) i = ((n / 2 ^ i % 2 : Nat) : Int) := by
  unfold bitv
  have h1 : n / 2 ^ i < 9223372036854775808 := Nat.lt_of_le_of_lt (Nat.div_le_self _ _) hn
  have e : ((n : Int) / 2 ^ i) = ((n / 2 ^ i : Nat) : Int) := by
    rw [show ((2 : Int) ^ i) = ((2 ^ i : Nat) : Int) from by simp]; exact (Int.natCast_ediv _ _).symm
  rw [e, show (1 : Int) = ((1 : Nat) : Int) from rfl, i64_and_nat _ 1 h1 (by decide), Go.nat_mask1, IntKind.wrap_u8]
  omega
theorem bitL_bit (n W r : Nat) (hn : n < 9223372036854775808) : ∀ x ∈ bitL (n : Int) W r, bit x := by
  intro x hx
  simp only [bitL, List.mem_map] at hx
  obtain ⟨j, _, rfl⟩ := hx
  rw [bitv_nat n _ hn]
  unfold bit; omega
theorem bitL_length (n : Int) (W r : Nat) : (bitL n W r).length = W - r := by simp [bitL]
theorem putE_ok (n W : Nat) (hW : 1 ≤ W) (hW2 : W ≤ 32) (hn : n < 2 ^ W) : putE (n : Int) (W : Int) = 0 := by
  unfold putE
  have h1 : bitioWidthF (W : Int) = true := by simp [bitioWidthF]; omega
  have h2 : (n : Int) / 2 ^ W = 0 := by
    rw [show ((2 : Int) ^ W) = ((2 ^ W : Nat) : Int) from by simp]
    have : ((n / 2 ^ W : Nat) : Int) = 0 := by rw [Nat.div_eq_of_lt hn]; rfl
    rw [← this]; exact (Int.natCast_ediv _ _).symm
  rw [if_pos h1, if_neg (by omega), Int.toNat_natCast, if_pos h2]
theorem bitL_two (n H L : Nat) (hn : n < 9223372036854775808) : bitL (n : Int) (H + L) 0 = bitL ((n / 2 ^ L : Nat) : Int) H 0 ++ bitL ((n % 2 ^ L : Nat) : Int) L 0 := by
  have hd : n / 2 ^ L < 9223372036854775808 := Nat.lt_of_le_of_lt (Nat.div_le_self _ _) hn
  have hm : n % 2 ^ L < 9223372036854775808 := Nat.lt_of_le_of_lt (Nat.mod_le _ _) hn
  apply List.ext_getElem
  · rw [List.length_append, bitL_length, bitL_length, bitL_length]; omega
  · intro i h1 h2
    rw [bitL_length] at h1
    have el : ∀ (m W : Nat) (hm : m < 9223372036854775808) (j : Nat) (hj : j < (bitL (m : Int) W 0).length), (bitL (m : Int) W 0)[j] = ((m / 2 ^ (W - 1 - j) % 2 : Nat) : Int) := by
      intro m W hm j hj
      simp only [bitL, List.getElem_map, List.getElem_range]
      exact bitv_nat m _ hm
    by_cases hi : i < H
    · rw [List.getElem_append_left (by rw [bitL_length]; omega), el n _ hn, el _ _ hd]
      congr 2
      rw [Nat.div_div_eq_div_mul, ← Nat.pow_add]
      congr 2; omega
    · rw [List.getElem_append_right (by rw [bitL_length]; omega), el n _ hn, el _ _ hm]
      have e : H + L - 1 - i = L - 1 - (i - (bitL ((n / 2 ^ L : Nat) : Int) H 0).length) := by rw [bitL_length]; omega
      rw [e]
      congr 1
      generalize hj : L - 1 - (i - (bitL ((n / 2 ^ L : Nat) : Int) H 0).length) = j
      have hjl : j + 1 ≤ L := by omega
      have : L = j + 1 + (L - j - 1) := by omega
      rw [this, Nat.pow_add]
      have hp : 2 ^ (j + 1) = 2 ^ j * 2 := rfl
      have hm1 : n % (2 ^ (j + 1) * 2 ^ (L - j - 1)) % 2 ^ (j + 1) = n % 2 ^ (j + 1) := Nat.mod_mul_right_mod _ _ _
      have q : ∀ m : Nat, m / 2 ^ j % 2 = m % 2 ^ (j + 1) / 2 ^ j := by
        intro m; rw [hp, Nat.mod_mul_right_div_self]
      rw [q n, q (n % _), hm1]
theorem bytes_some {l : List Int} (h : ∀ x ∈ l, bit x) (hl : l.length ≤ 10000) (k : Nat) (hk : l.length < k) : bits_Bytes.f k l = some ((List.range ((l.length + 7) / 8)).map (byte l), 0) := by
  unfold bits_Bytes.f
  have hb : l.any big = false := by
    rw [List.any_eq_false]; intro x hx
    have := h x hx
    unfold bit at this; unfold big; simp; omega
  rw [right_f l (by omega) k hk, hb, Option.bind_some, if_pos (by decide), if_pos (by omega)]
end
section
open Go
theorem snoc_ind {P : List Int → Prop} (h0 : P []) (h1 : ∀ l b, P l → P (l ++ [b])) : ∀ l, P l := by
  intro l
  rw [← List.reverse_reverse l]
  induction l.reverse with
  | nil => exact h0
  | cons a t ih => rw [List.reverse_cons]; exact h1 _ _ ih
/-- A number of some bits, in plain words. -/
def num (l : List Int) : Nat := l.foldl (fun n b => 2 * n + b.toNat) 0
theorem num_snoc (l : List Int) (b : Int) : num (l ++ [b]) = 2 * num l + b.toNat := by simp [num]
theorem num_lt (l : List Int) (h : ∀ x ∈ l, bit x) : num l < 2 ^ l.length := by
  revert h
  induction l using snoc_ind with
  | h0 => intro _; simp [num]
  | h1 l b ih =>
    intro h
    rw [num_snoc, List.length_append, show [b].length = 1 from rfl, Nat.pow_succ]
    have h1 := ih (fun x hx => h x (List.mem_append.2 (.inl hx)))
    have h2 := h b (by simp)
    unfold bit at h2
    omega
theorem tk_step (n : Nat) (hn : n < 2 ^ 32) (b : Int) (hb : bit b) : tkS (n : Int) b = ((2 * n + b.toNat : Nat) : Int) := by
  unfold tkS
  have hb2 : b.toNat < 2 := by unfold bit at hb; omega
  have e1 : wrap64 ((n : Int) * 2) = ((2 * n : Nat) : Int) := by rw [wrap_in (by omega) (by omega)]; omega
  have e2 : wrap64 b = ((b.toNat : Nat) : Int) := by
    unfold bit at hb; rw [wrap_in (by omega) (by omega)]; omega
  rw [e1, e2, i64_or_nat _ _ (by omega) (by omega)]
  have := Nat.two_pow_add_eq_or_of_lt (i := 1) (b := b.toNat) (by omega) n
  congr 1
  rw [show 2 ^ 1 * n = 2 * n by omega] at this
  exact this.symm
theorem tk_fold (l : List Int) (h : ∀ x ∈ l, bit x) (hl : l.length ≤ 32) : l.foldl tkS 0 = ((num l : Nat) : Int) := by
  revert h hl
  induction l using snoc_ind with
  | h0 => intro _ _; rfl
  | h1 l b ih =>
    intro h hl
    rw [List.length_append, show [b].length = 1 from rfl] at hl
    have hb : ∀ x ∈ l, bit x := fun x hx => h x (List.mem_append.2 (.inl hx))
    have := num_lt l hb
    have h2 : 2 ^ l.length ≤ 2 ^ 32 := Nat.pow_le_pow_right (by decide) (by omega)
    rw [List.foldl_append, ih hb (by omega), List.foldl_cons, List.foldl_nil, tk_step _ (by omega) b (h b (by simp)), num_snoc]
end
section
open Go
theorem num_bitL (W : Nat) : ∀ n : Nat, n < 2 ^ W → n < 9223372036854775808 → num (bitL (n : Int) W 0) = n := by
  induction W with
  | zero => intro n hn _; simp [bitL, num]; omega
  | succ W ih =>
    intro n hn h6
    have e := bitL_two n W 1 h6
    rw [show W + 1 = W + 1 from rfl, e]
    have hd : n / 2 ^ 1 < 2 ^ W := by rw [Nat.pow_succ] at hn; omega
    have h1 : bitL ((n % 2 ^ 1 : Nat) : Int) 1 0 = [((n % 2 : Nat) : Int)] := by
      have hm : n % 2 ^ 1 < 9223372036854775808 := by omega
      simp only [bitL, show (1 - 0 : Nat) = 1 from rfl, List.range_one, List.map_cons, List.map_nil]
      rw [bitv_nat _ _ hm]
      simp
    rw [h1, num_snoc, ih _ hd (by omega)]
    omega
theorem putE_val (n wd : Int) : putE n wd = 0 → 0 ≤ n ∧ 1 ≤ wd ∧ wd ≤ 32 ∧ n < 2 ^ wd.toNat := by
  intro h
  unfold putE at h
  by_cases hw : bitioWidthF wd = true
  · rw [if_pos hw] at h
    have hw2 : 1 ≤ wd ∧ wd ≤ 32 := by simpa [bitioWidthF] using hw
    by_cases hn : n < 0
    · rw [if_pos hn] at h; omega
    · rw [if_neg hn] at h
      by_cases hz : n / 2 ^ wd.toNat = 0
      · refine ⟨by omega, hw2.1, hw2.2, ?_⟩
        have hp : (0 : Int) < 2 ^ wd.toNat := Int.pow_pos (by decide)
        exact Int.lt_of_not_ge fun hge => by
          have := Int.le_ediv_of_mul_le hp (show 1 * 2 ^ wd.toNat ≤ n by rw [Int.one_mul]; exact hge)
          omega
      · rw [if_neg hz] at h; omega
  · rw [if_neg hw] at h; omega
theorem putL_bit (n wd : Int) (hb : -9223372036854775808 ≤ n ∧ n ≤ 9223372036854775807) : ∀ x ∈ putL n wd, bit x := by
  intro x hx
  unfold putL at hx
  by_cases h : putE n wd = 0
  · rw [if_pos h] at hx
    have hv := putE_val n wd h
    obtain ⟨m, rfl⟩ := Int.eq_ofNat_of_zero_le hv.1
    exact bitL_bit m _ 0 (by omega) x hx
  · rw [if_neg h] at hx; cases hx
theorem putL_len (n wd : Int) (h : putE n wd = 0) : ((putL n wd).length : Int) = wd := by
  have hv := putE_val n wd h
  unfold putL
  rw [if_pos h, bitL_length]; omega
theorem take_put (n wd : Int) (r : List Int) (h : putE n wd = 0) : tkE (putL n wd ++ r) wd = 0 ∧ tkN (putL n wd ++ r) wd = n ∧ tkL (putL n wd ++ r) wd = r := by
  have hv := putE_val n wd h
  have hl := putL_len n wd h
  have hw : bitioWidthF wd = true := by unfold bitioWidthF; rw [Bool.and_eq_true]; exact ⟨decide_eq_true hv.2.1, decide_eq_true hv.2.2.1⟩
  have e : tkE (putL n wd ++ r) wd = 0 := by
    unfold tkE; rw [hw, if_pos rfl, if_neg (by rw [List.length_append]; omega)]
  obtain ⟨m, rfl⟩ := Int.eq_ofNat_of_zero_le hv.1
  obtain ⟨W, rfl⟩ := Int.eq_ofNat_of_zero_le (show 0 ≤ wd by omega)
  have hlW : (putL (m : Int) (W : Int)).length = W := by omega
  have e3 : ((2 : Int) ^ W) = ((2 ^ W : Nat) : Int) := by simp
  have hm : m < 2 ^ W := by have := hv.2.2.2; rw [Int.toNat_natCast, e3] at this; omega
  have hp : 2 ^ W ≤ 2 ^ 32 := Nat.pow_le_pow_right (by decide) (by omega)
  refine ⟨e, ?_, ?_⟩
  · unfold tkN
    rw [if_pos e, Int.toNat_natCast, List.take_append_of_le_length (by omega), List.take_of_length_le (by omega)]
    unfold putL
    rw [if_pos h, Int.toNat_natCast, tk_fold _ (bitL_bit m W 0 (by omega)) (by rw [bitL_length]; omega), num_bitL W m hm (by omega)]
  · unfold tkL
    rw [if_pos e, Int.toNat_natCast, List.drop_append_of_le_length (by omega), List.drop_of_length_le (by omega)]; rfl
theorem bits8_byte (l : List Int) (h : ∀ x ∈ l, bit x) (x : Nat) : ∀ k, k < 8 → (bits8a (byte l x)).getD k 0 = l.getD (8 * x + k) 0 := by
  intro k hk
  obtain ⟨r, hr⟩ := eight l h x
  have e : byte l x = (r.val : Int) := by
    rw [byte_rb l h x, rb_congr l (bits8a (r.val : Int)) x 0 8 hr]; exact rb_all r
  rw [e, hr k hk]
  simp
theorem ofl_bytes (l : List Int) (h : ∀ x ∈ l, bit x) : ∃ z : Nat, z < 8 ∧ ofl ((List.range ((l.length + 7) / 8)).map (byte l)) = l ++ List.replicate z 0 := by
  refine ⟨8 * ((l.length + 7) / 8) - l.length, by omega, ?_⟩
  apply List.ext_getElem
  · rw [ofl_length, List.length_map, List.length_range, List.length_append, List.length_replicate]; omega
  · intro i h1 h2
    rw [ofl_length, List.length_map, List.length_range] at h1
    have hx : i / 8 < (l.length + 7) / 8 := by omega
    have e := ofl_getD ((List.range ((l.length + 7) / 8)).map (byte l)) (i / 8) (by simpa using hx) (i % 8) (Nat.mod_lt _ (by decide))
    rw [show 8 * (i / 8) + i % 8 = i by omega, List.getElem_map, List.getElem_range, show 8 * 0 + i % 8 = i % 8 by omega, bits8_byte l h _ _ (Nat.mod_lt _ (by decide)), show 8 * (i / 8) + i % 8 = i by omega] at e
    rw [List.getD_eq_getElem?_getD, List.getElem?_eq_getElem (by rw [ofl_length, List.length_map, List.length_range]; exact h1)] at e
    simp only [Option.getD_some] at e
    rw [e]
    by_cases hi : i < l.length
    · rw [List.getElem_append_left hi, List.getD_eq_getElem?_getD, List.getElem?_eq_getElem hi]; rfl
    · rw [List.getElem_append_right (by omega), List.getElem_replicate, List.getD_eq_getElem?_getD, List.getElem?_eq_none (by omega)]; rfl
end
/-- One round of the register. -/
def rnd (n : BitVec 16) : BitVec 16 := if n.msb then (n <<< 1) ^^^ 0x1021#16 else n <<< 1
def stp (n : BitVec 16) (c : BitVec 8) : BitVec 16 := it rnd 8 (n ^^^ (c.setWidth 16 <<< 8))
def stpI (n : BitVec 16) (c : Int) : BitVec 16 := stp n (BitVec.ofInt 8 c)
def sum16 (l : List Int) : BitVec 16 := l.foldl stpI 0xFFFF#16

theorem and_top (n : BitVec 16) : (Go.bits .and .u16 (n.toNat : Int) 32768 = 0) ↔ n.msb = false := by
  have h := Go.u16_and_nat n.toNat 32768 n.isLt (by decide)
  have e : ((32768 : Nat) : Int) = 32768 := rfl
  rw [e] at h
  rw [h, show (32768 : Nat) = 2 ^ 15 from rfl, Go.nat_bit, BitVec.msb_eq_decide]
  have := n.isLt
  simp only [decide_eq_false_iff_not]
  omega
theorem dbl16 (n : BitVec 16) : IntKind.u16.wrap ((n.toNat : Int) * 2) = ((n <<< 1).toNat : Int) := by
  rw [IntKind.wrap_u16, BitVec.toNat_shiftLeft, Nat.shiftLeft_eq]
  omega
theorem xor16 (a b : BitVec 16) : Go.bits .xor .u16 (a.toNat : Int) (b.toNat : Int) = ((a ^^^ b).toNat : Int) := by
  rw [Go.u16_xor_nat _ _ a.isLt b.isLt, BitVec.toNat_xor]
theorem step_l0 (d : Nat) : ∀ (k : Nat) (n : BitVec 16) (i : Int), i = 8 - (d : Int) → d ≤ 8 → d < k →
    crc16_step.l0 k (n.toNat : Int) i = some ((it rnd d n).toNat : Int) := by
  induction d with
  | zero =>
    intro k n i hi _ hk
    obtain ⟨k, rfl⟩ := pred hk
    simp only [crc16_step.l0]
    rw [if_neg (by omega)]; rfl
  | succ d ih =>
    intro k n i hi hd hk
    obtain ⟨k, rfl⟩ := pred hk
    simp only [crc16_step.l0]
    rw [if_pos (by omega), dbl16, show wrap64 (i + 1) = i + 1 from wrap_in (by omega) (by omega)]
    by_cases hm : n.msb = true
    · have hx : Go.bits .xor .u16 ((n <<< 1).toNat : Int) 4129 = (((n <<< 1) ^^^ 0x1021#16).toNat : Int) := xor16 (n <<< 1) 0x1021#16
      rw [if_neg (fun h => by rw [(and_top n).1 h] at hm; cases hm), hx, it_succ, show rnd n = (n <<< 1) ^^^ 0x1021#16 from if_pos hm]
      exact ih k _ (i + 1) (by omega) (by omega) (by omega)
    · have hm' : n.msb = false := by simpa using hm
      rw [if_pos ((and_top n).2 hm'), it_succ, show rnd n = n <<< 1 from if_neg hm]
      exact ih k _ (i + 1) (by omega) (by omega) (by omega)
theorem step_f (k : Nat) (n : BitVec 16) (c : Int) (hc : 0 ≤ c ∧ c ≤ 255) (hk : 8 < k) : crc16_step.f k (n.toNat : Int) c = some ((stpI n c).toNat : Int) := by
  unfold crc16_step.f
  have e : IntKind.u16.wrap ((IntKind.u16.wrap c) * 256) = ((((BitVec.ofInt 8 c).setWidth 16) <<< 8).toNat : Int) := by
    obtain ⟨m, rfl⟩ := Int.eq_ofNat_of_zero_le hc.1
    rw [IntKind.wrap_u16, IntKind.wrap_u16, BitVec.toNat_shiftLeft, BitVec.toNat_setWidth, Nat.shiftLeft_eq, BitVec.ofInt_natCast, BitVec.toNat_ofNat]
    omega
  rw [e, xor16]
  exact step_l0 8 k _ 0 rfl (by omega) hk
theorem sum_l0 (l : List Int) (hlen : l.length ≤ 140737488355328) (hw : ∀ x ∈ l, 0 ≤ x ∧ x ≤ 255) (d : Nat) : ∀ (k : Nat) (n : BitVec 16) (i : Nat), i + d = l.length → d + 10 ≤ k →
    crc16_Sum.l0 k (n.toNat : Int) l (l.length : Int) (i : Int) = some (((l.drop i).foldl stpI n).toNat : Int) := by
  induction d with
  | zero =>
    intro k n i hi hk
    obtain ⟨k, rfl⟩ := pred (show 0 < k by omega)
    simp only [crc16_Sum.l0]
    rw [if_neg (by omega), List.drop_eq_nil_of_le (by omega)]; rfl
  | succ d ih =>
    intro k n i hi hk
    obtain ⟨k, rfl⟩ := pred (show 0 < k by omega)
    have hlt : i < l.length := by omega
    simp only [crc16_Sum.l0]
    rw [if_pos (by omega), if_pos (by omega), if_pos (by omega), rd_get l i hlt, step_f k n _ (hw _ (List.getElem_mem hlt)) (by omega)]
    simp only [Option.bind_some]
    rw [wrap_succ i (by omega), drop_cons l i hlt]
    exact ih k _ (i + 1) (by omega) (by omega)
theorem sum_f (l : List Int) (hlen : l.length ≤ 140737488355328) (hw : ∀ x ∈ l, 0 ≤ x ∧ x ≤ 255) (k : Nat) (hk : l.length + 10 ≤ k) : crc16_Sum.f k l = some ((sum16 l).toNat : Int) := by
  have := sum_l0 l hlen hw l.length k 0xFFFF#16 0 (by omega) hk
  exact this
theorem rnd_xor (a b : BitVec 16) : rnd (a ^^^ b) = rnd a ^^^ rnd b := by
  unfold rnd
  rw [BitVec.msb_xor, BitVec.shiftLeft_xor_distrib]
  cases ha : a.msb <;> cases hb : b.msb <;> simp
  · ac_rfl
  · ac_rfl
  · generalize a <<< 1 = x
    generalize b <<< 1 = y
    rw [show x ^^^ 4129#16 ^^^ (y ^^^ 4129#16) = (x ^^^ y) ^^^ (4129#16 ^^^ 4129#16) by ac_rfl]
    simp
theorem it_xor (d : Nat) : ∀ a b : BitVec 16, it rnd d (a ^^^ b) = it rnd d a ^^^ it rnd d b := by
  induction d with
  | zero => intro a b; rfl
  | succ d ih => intro a b; rw [it_succ, it_succ, it_succ, rnd_xor, ih]
/-- The sum's two bytes. -/
def two (s : BitVec 16) : List Int := [(s.toNat : Int) / 256, (s.toNat : Int) % 256]
theorem two_in (s : BitVec 16) : ∀ x ∈ two s, 0 ≤ x ∧ x ≤ 255 := by
  have := s.isLt
  intro x hx
  simp only [two, List.mem_cons, List.not_mem_nil, or_false] at hx
  rcases hx with rfl | rfl <;> omega
theorem seal_f (l : List Int) (hl : l.length ≤ 1000) (hw : ∀ x ∈ l, 0 ≤ x ∧ x ≤ 255) (k : Nat) (hk : l.length + 10 ≤ k) : crc16_Seal.f k l = some (l ++ two (sum16 l)) := by
  unfold crc16_Seal.f slices_Clone_byte_byte.f
  have := (sum16 l).isLt
  rw [sum_f l (by omega) hw k hk, if_pos (by omega)]
  simp only [Option.bind_some, List.length_cons, List.length_nil]
  rw [if_pos (by omega), two, show ((sum16 l).toNat : Int) / 256 % 256 = ((sum16 l).toNat : Int) / 256 by omega]
theorem rnd_zero {z : BitVec 16} (h : rnd z = 0) : z = 0 := by
  have hz := z.isLt
  have hm : z.msb = decide (2 ^ 15 ≤ z.toNat) := BitVec.msb_eq_decide z
  unfold rnd at h
  by_cases c : z.msb = true
  · rw [if_pos c] at h
    have h2 : z <<< 1 = 0x1021#16 := by
      have e : (z <<< 1 ^^^ 0x1021#16) ^^^ 0x1021#16 = 0 ^^^ 0x1021#16 := by rw [h]
      rw [BitVec.xor_assoc, BitVec.xor_self, BitVec.xor_zero] at e
      rw [e]; decide
    have h3 := congrArg BitVec.toNat h2
    rw [BitVec.toNat_shiftLeft, Nat.shiftLeft_eq] at h3
    have : (0x1021#16).toNat = 4129 := rfl
    omega
  · rw [if_neg c] at h
    have h3 := congrArg BitVec.toNat h
    rw [BitVec.toNat_shiftLeft, Nat.shiftLeft_eq] at h3
    have h0 : (0 : BitVec 16).toNat = 0 := rfl
    have hlt : ¬ 2 ^ 15 ≤ z.toNat := by rw [hm] at c; simpa using c
    apply BitVec.eq_of_toNat_eq
    omega
theorem it_zero (d : Nat) : ∀ {z : BitVec 16}, it rnd d z = 0 → z = 0 := by
  induction d with
  | zero => intro z h; exact h
  | succ d ih => intro z h; rw [it_succ] at h; exact rnd_zero (ih h)
theorem it_z (d : Nat) : it rnd d 0 = 0 := by
  induction d with
  | zero => rfl
  | succ d ih => rw [it_succ, show rnd 0 = 0 from by decide]; exact ih
theorem it_low : ∀ y : BitVec 8, it rnd 8 (y.setWidth 16) = y.setWidth 16 <<< 8 := by decide +kernel
theorem stp_two (s : BitVec 16) (x y : BitVec 8) : stp (stp s x) y = it rnd 16 (s ^^^ (x.setWidth 16 <<< 8) ^^^ y.setWidth 16) := by
  unfold stp
  rw [← it_low y, ← it_xor, ← it_add rnd 8 8]
theorem stp_end (s : BitVec 16) (x y : Int) (hx : 0 ≤ x ∧ x ≤ 255) (hy : 0 ≤ y ∧ y ≤ 255) : stpI (stpI s x) y = 0 ↔ [x, y] = two s := by
  have hs := s.isLt
  unfold stpI
  rw [stp_two]
  obtain ⟨a, rfl⟩ := Int.eq_ofNat_of_zero_le hx.1
  obtain ⟨b, rfl⟩ := Int.eq_ofNat_of_zero_le hy.1
  have ea : ((BitVec.ofInt 8 (a : Int)).setWidth 16 <<< 8).toNat = a * 256 := by
    rw [BitVec.toNat_shiftLeft, BitVec.toNat_setWidth, Nat.shiftLeft_eq, BitVec.ofInt_natCast, BitVec.toNat_ofNat]; omega
  have eb : ((BitVec.ofInt 8 (b : Int)).setWidth 16).toNat = b := by
    rw [BitVec.toNat_setWidth, BitVec.ofInt_natCast, BitVec.toNat_ofNat]; omega
  have eab : ((BitVec.ofInt 8 (a : Int)).setWidth 16 <<< 8 ^^^ (BitVec.ofInt 8 (b : Int)).setWidth 16).toNat = a * 256 + b := by
    rw [BitVec.toNat_xor, ea, eb, show a * 256 = 2 ^ 8 * a by omega]
    have hb : b < 2 ^ 8 := by omega
    have h1 := Nat.two_pow_add_eq_or_of_lt hb a
    have h2 : 2 ^ 8 * a &&& b = 0 := by
      apply Nat.eq_of_testBit_eq
      intro i
      rw [Nat.testBit_and, Nat.zero_testBit, Nat.testBit_two_pow_mul]
      by_cases hi : i < 8
      · simp; intro h8; omega
      · rw [Nat.testBit_lt_two_pow (Nat.lt_of_lt_of_le hb (Nat.pow_le_pow_right (by decide) (by omega)))]; simp
    have h3 : ∀ p q : Nat, p &&& q = 0 → p ^^^ q = p ||| q := by
      intro p q h
      apply Nat.eq_of_testBit_eq
      intro i
      have := congrArg (fun z => Nat.testBit z i) h
      simp only [Nat.testBit_and, Nat.zero_testBit] at this
      rw [Nat.testBit_xor, Nat.testBit_or]
      cases hp : p.testBit i <;> cases hq : q.testBit i <;> simp_all
    rw [h3 _ _ h2, ← h1]
  constructor
  · intro h
    have h0 := it_zero 16 h
    have e : s = (BitVec.ofInt 8 (a : Int)).setWidth 16 <<< 8 ^^^ (BitVec.ofInt 8 (b : Int)).setWidth 16 := by
      rw [BitVec.xor_assoc] at h0
      exact BitVec.xor_eq_zero_iff.1 h0
    have := congrArg BitVec.toNat e
    rw [eab] at this
    unfold two
    rw [this]
    congr 1
    · omega
    · congr 1; omega
  · intro h
    simp only [two, List.cons.injEq, and_true] at h
    have e : s = (BitVec.ofInt 8 (a : Int)).setWidth 16 <<< 8 ^^^ (BitVec.ofInt 8 (b : Int)).setWidth 16 := by
      apply BitVec.eq_of_toNat_eq
      rw [eab]; omega
    rw [BitVec.xor_assoc, ← e, BitVec.xor_self]
    exact it_z 16
/-- A text that ends in its sum has the sum 0, and no other. -/
theorem sum_end (l : List Int) (hw : ∀ x ∈ l, 0 ≤ x ∧ x ≤ 255) (h2 : 2 ≤ l.length) : sum16 l = 0 ↔ l.take (l.length - 2) ++ two (sum16 (l.take (l.length - 2))) = l := by
  obtain ⟨x, y, e⟩ : ∃ x y, l.drop (l.length - 2) = [x, y] := by
    have hl : (l.drop (l.length - 2)).length = 2 := by rw [List.length_drop]; omega
    generalize l.drop (l.length - 2) = m at hl
    match m, hl with
    | [x, y], _ => exact ⟨x, y, rfl⟩
  have hx : x ∈ l.drop (l.length - 2) := by rw [e]; exact List.mem_cons_self
  have hy : y ∈ l.drop (l.length - 2) := by rw [e]; exact List.mem_cons_of_mem _ List.mem_cons_self
  have hs : l = l.take (l.length - 2) ++ [x, y] := by rw [← e, List.take_append_drop]
  have key : sum16 l = stpI (stpI (sum16 (l.take (l.length - 2))) x) y := by
    conv => lhs; rw [hs]
    unfold sum16
    rw [List.foldl_append]; rfl
  rw [key, stp_end _ x y (hw x (List.mem_of_mem_drop hx)) (hw y (List.mem_of_mem_drop hy))]
  constructor
  · intro h; rw [← h]; exact hs.symm
  · intro h
    have := h.trans hs
    exact (List.append_cancel_left this).symm
theorem rightc_f (l : List Int) (hl : l.length ≤ 1000) (hw : ∀ x ∈ l, 0 ≤ x ∧ x ≤ 255) (k : Nat) (hk : l.length + 10 ≤ k) : crc16_Right.f k l = some (decide (2 ≤ l.length ∧ sum16 l = 0)) := by
  unfold crc16_Right.f
  by_cases h : 2 ≤ l.length
  · rw [if_pos (by omega), sum_f l (by omega) hw k hk]
    simp only [Option.bind_some, h, true_and]
    congr 1
    by_cases z : sum16 l = 0
    · rw [z]; rfl
    · rw [decide_eq_false z]
      refine beq_eq_false_iff_ne.2 fun e => z (BitVec.eq_of_toNat_eq ?_)
      have : (0 : BitVec 16).toNat = 0 := rfl
      omega
  · rw [if_neg (by omega), decide_eq_false (fun z => h z.1)]
end Go.Proofs.YtknanbnjbilciaaGreatDoor.P
namespace Go.Proofs.YtknanbnjbilciaaGreatDoor.P
open Go.RowKit Go.Proofs.YtknanbnjbilciaaGreatDoorW.PrintWords Go.Proofs.YtknanbnjbilciaaGreatDoorW.PrintLast Go.Proofs.YtknanbnjbilciaaGreatDoorW.PrintMore
-- YtknanbnjbilciaaGreatDoorP102
section
attribute [local go_sem] max2_int min2_int max_two min_two max_three min_three max_four min_four
set_option linter.unusedVariables false
set_option linter.unusedSimpArgs false

/-! ### slices_Equal_byte_byte: function 89 -/
def slices_Equal_byte_byte.l0 : Nat → List Int → List Int → Int → Int → Option (Bool)
  | 0, _, _, _, _ => none
  | k + 1, x0, x1, x12, x13 => if x13 < x12 then (if 0 ≤ x13 then (if x13 < (x0.length : Int) then (if x13 < (x1.length : Int) then (if (rd x0 x13) = (rd x1 x13) then (slices_Equal_byte_byte.l0 k x0 x1 x12 (wrap64 (x13 + 1))) else (some false)) else (none)) else (none)) else (none)) else (some true)
def slices_Equal_byte_byte.f (k : Nat) (l0 : List Int) (l1 : List Int) : Option (Bool) := if (l0.length : Int) = (l1.length : Int) then (slices_Equal_byte_byte.l0 k l0 l1 (l0.length : Int) 0) else (some false)
theorem slices_Equal_byte_byte.mono_l : ∀ k, (∀ y0 y1 y2 y3, LeO (slices_Equal_byte_byte.l0 k y0 y1 y2 y3) (slices_Equal_byte_byte.l0 (k + 1) y0 y1 y2 y3))
  | 0 => fun _ _ _ _ r h => by simp [slices_Equal_byte_byte.l0] at h
  | k + 1 => by
    have ih0 := slices_Equal_byte_byte.mono_l k
    · intro y0 y1 y2 y3
      unfold slices_Equal_byte_byte.l0
      repeat' first
      | (with_reducible exact ih0 _ _ _ _)
      | (with_reducible exact LeO.refl _)
      | (with_reducible exact LeO.none _)
      | (with_reducible refine LeO.ite ?_ ?_)
      | (with_reducible refine LeO.bind ?_ (fun _ => ?_))
      | exact ih0 _ _ _ _
      | exact LeO.none _
      | refine LeO.ite ?_ ?_
      | refine LeO.bind ?_ (fun _ => ?_)
theorem slices_Equal_byte_byte.mono : ∀ a0 a1 k, LeO (slices_Equal_byte_byte.f k a0 a1) (slices_Equal_byte_byte.f (k + 1) a0 a1) := by
  intro a0 a1 k
  have ih0 := slices_Equal_byte_byte.mono_l k
  unfold slices_Equal_byte_byte.f
  repeat' first
      | (with_reducible exact ih0 _ _ _ _)
      | (with_reducible exact LeO.refl _)
      | (with_reducible exact LeO.none _)
      | (with_reducible refine LeO.ite ?_ ?_)
      | (with_reducible refine LeO.bind ?_ (fun _ => ?_))
      | exact ih0 _ _ _ _
      | exact LeO.none _
      | refine LeO.ite ?_ ?_
      | refine LeO.bind ?_ (fun _ => ?_)
set_option maxHeartbeats 8000000 in
set_option maxRecDepth 100000 in
theorem slices_Equal_byte_byte.calls (k : Nat) (A0 : Option Addr) (c0 : Nat) (l0 : List Int) (A1 : Option Addr) (c1 : Nat) (l1 : List Int) (r : Bool) (w : World) (hr0 : Kd.C (Kd.int .u8) w A0 l0.length l0) (hc0 : l0.length ≤ c0) (hr1 : Kd.C (Kd.int .u8) w A1 l1.length l1) (hc1 : l1.length ≤ c1) (h : slices_Equal_byte_byte.f k l0 l1 = some r) :
    Calls Tryz.prog 89 #[.slice A0 l0.length c0, .slice A1 l1.length c1] w fun e w' => e = .returned (.bool r) ∧ Drawn0 w w' := by
  have HR0 := Aside0.mk hr0
  have HC0 := Aside0.mk hc0
  clear hr0 hc0
  have HR1 := Aside0.mk hr1
  have HC1 := Aside0.mk hc1
  clear hr1 hc1
  have H : (if (l0.length : Int) = (l1.length : Int) then (slices_Equal_byte_byte.l0 k l0 l1 (l0.length : Int) 0) else (some false)) = some r := h
  clear h
  by_cases c3 : (l0.length : Int) = (l1.length : Int)
  · rw [if_pos c3] at H
    have c3b0 : ((l0.length : Int) == (l1.length : Int)) = true := beq_iff_eq.mpr c3
    have c3b1 : ((l0.length : Int) != (l1.length : Int)) = false := bne_eq_false_iff_eq.mpr c3
    have c3b2 : (l0.length == l1.length) = true := by first | simpa using c3 | (simp at c3 ⊢; omega)
    clear c3
    have H' := Aside0.mk H
    clear H
    go_enter Tryz.func89, Tryz.ntmps89
    go_wp2
    repeat ((with_reducible refine gate_quiet ?_); go_quiet (fail); try go_wp2)
    go_loopg [13] k (fun kq v13 w' => ∃ (x13_1 : Int), v13 = .int .i64 x13_1 ∧ Aside0 (slices_Equal_byte_byte.l0 kq l0 l1 (l0.length : Int) x13_1 = some r) ∧ Aside0 (kq ≤ k) ∧ Drawn0 w w')
    case atStart => exact ⟨(0), (by first | rfl | (simp; done) | (simp [*]; done)), H', ⟨Nat.le_refl _⟩, by repeat (first | exact Drawn0.refl _ | apply Drawn0.step)⟩
    case round =>
      clear H'
      try clear c1
      try clear p2
      try clear c3
      try clear c3b0
      try clear c3b1
      try clear c3b2
      obtain ⟨x13_1, rfl, HA, HK1, ⟨m1, rfl⟩⟩ := hrel
      cases gk with
      | zero => exact absurd HA.out (by simp [slices_Equal_byte_byte.l0])
      | succ k1 =>
        have H := HA.out
        clear HA
        simp only [slices_Equal_byte_byte.l0] at H
        by_cases c4 : x13_1 < (l0.length : Int)
        · rw [if_pos c4] at H
          have c4b0 : decide (x13_1 < (l0.length : Int)) = true := decide_eq_true c4
          clear c4
          by_cases c5 : 0 ≤ x13_1
          · rw [if_pos c5] at H
            have c5b0 : decide (0 ≤ x13_1) = true := decide_eq_true c5
            clear c5
            by_cases c6 : x13_1 < (l0.length : Int)
            · rw [if_pos c6] at H
              have c6b0 : decide (x13_1 < (l0.length : Int)) = true := decide_eq_true c6
              clear c6
              by_cases c7 : x13_1 < (l1.length : Int)
              · rw [if_pos c7] at H
                have c7b0 : decide (x13_1 < (l1.length : Int)) = true := decide_eq_true c7
                clear c7
                by_cases c8 : (rd l0 x13_1) = (rd l1 x13_1)
                · rw [if_pos c8] at H
                  have c8b0 : ((rd l0 x13_1) == (rd l1 x13_1)) = true := beq_iff_eq.mpr c8
                  have c8b1 : ((rd l0 x13_1) != (rd l1 x13_1)) = false := bne_eq_false_iff_eq.mpr c8
                  clear c8
                  have H' := Aside0.mk H
                  clear H
                  have p278 : 0 ≤ (x13_1 : Int) := of_decide_eq_true (by first | (with_reducible assumption) | assumption)
                  have q278 : x13_1 < (l0.length : Int) := of_decide_eq_true (by first | (with_reducible assumption) | assumption)
                  obtain ⟨ad278, e278, hx278_0⟩ := Kd.at_int HR0.out x13_1 p278 q278
                  cases e278
                  replace p278 := eq_true p278
                  replace q278 := eq_true q278
                  have p279 : 0 ≤ (x13_1 : Int) := of_decide_eq_true (by first | (with_reducible assumption) | assumption)
                  have q279 : x13_1 < (l1.length : Int) := of_decide_eq_true (by first | (with_reducible assumption) | assumption)
                  obtain ⟨ad279, e279, hx279_0⟩ := Kd.at_int HR1.out x13_1 p279 q279
                  cases e279
                  replace p279 := eq_true p279
                  replace q279 := eq_true q279
                  go_wp2
                  repeat ((with_reducible refine gate_quiet ?_); go_quiet (fail); try go_wp2)
                  go_roundg k1
                  case measure => have := HK1.out; omega
                  case rel => exact ⟨(wrap64 (x13_1 + 1)), (by first | rfl | (simp; done) | (simp [*]; done)), H', ⟨by have := HK1.out; omega⟩, by repeat (first | exact Drawn0.refl _ | apply Drawn0.step)⟩
                · rw [if_neg c8] at H
                  have c8b0 : ((rd l0 x13_1) == (rd l1 x13_1)) = false := beq_eq_false_iff_ne.mpr c8
                  have c8b1 : ((rd l0 x13_1) != (rd l1 x13_1)) = true := bne_iff_ne.mpr c8
                  obtain rfl := Option.some.inj H
                  have p278 : 0 ≤ (x13_1 : Int) := of_decide_eq_true (by first | (with_reducible assumption) | assumption)
                  have q278 : x13_1 < (l0.length : Int) := of_decide_eq_true (by first | (with_reducible assumption) | assumption)
                  obtain ⟨ad278, e278, hx278_0⟩ := Kd.at_int HR0.out x13_1 p278 q278
                  cases e278
                  replace p278 := eq_true p278
                  replace q278 := eq_true q278
                  have p279 : 0 ≤ (x13_1 : Int) := of_decide_eq_true (by first | (with_reducible assumption) | assumption)
                  have q279 : x13_1 < (l1.length : Int) := of_decide_eq_true (by first | (with_reducible assumption) | assumption)
                  obtain ⟨ad279, e279, hx279_0⟩ := Kd.at_int HR1.out x13_1 p279 q279
                  cases e279
                  replace p279 := eq_true p279
                  replace q279 := eq_true q279
                  go_wp2
                  repeat ((with_reducible refine gate_quiet ?_); go_quiet (fail); try go_wp2)
                  go_ret
                  exact ⟨by first | rfl | (simp; done) | (simp [*]; done), by repeat (first | exact Drawn0.refl _ | apply Drawn0.step)⟩
              · rw [if_neg c7] at H
                exact absurd H (by simp)
            · rw [if_neg c6] at H
              exact absurd H (by simp)
          · rw [if_neg c5] at H
            exact absurd H (by simp)
        · rw [if_neg c4] at H
          have c4b0 : decide (x13_1 < (l0.length : Int)) = false := decide_eq_false c4
          clear c4
          obtain rfl := Option.some.inj H
          go_wp2
          repeat ((with_reducible refine gate_quiet ?_); go_quiet (fail); try go_wp2)
          go_ret
          exact ⟨by first | rfl | (simp; done) | (simp [*]; done), by repeat (first | exact Drawn0.refl _ | apply Drawn0.step)⟩
  · rw [if_neg c3] at H
    have c3b0 : ((l0.length : Int) == (l1.length : Int)) = false := beq_eq_false_iff_ne.mpr c3
    have c3b1 : ((l0.length : Int) != (l1.length : Int)) = true := bne_iff_ne.mpr c3
    have c3b2 : (l0.length == l1.length) = false := by first | simpa using c3 | (simp at c3 ⊢; omega)
    obtain rfl := Option.some.inj H
    go_enter Tryz.func89, Tryz.ntmps89
    go_wp2
    repeat ((with_reducible refine gate_quiet ?_); go_quiet (fail); try go_wp2)
    go_ret
    exact ⟨by first | rfl | (simp; done) | (simp [*]; done), by repeat (first | exact Drawn0.refl _ | apply Drawn0.step)⟩
end
-- YtknanbnjbilciaaGreatDoorP8
section
attribute [local go_sem] max2_int min2_int max_two min_two max_three min_three max_four min_four
set_option linter.unusedVariables false
set_option linter.unusedSimpArgs false

/-! ### crc32_bytes: function 32 -/
def crc32_bytes.l0 : Nat → Int → List Int → Int → Option (List Int)
  | 0, _, _, _ => none
  | k + 1, x0, x3, x4 => if x4 < 4 then (if x3.length < 140737488355328 then (crc32_bytes.l0 k (x0 / 256) (x3 ++ [(x0) % 256]) (wrap64 (x4 + 1))) else (none)) else (some x3)
def crc32_bytes.f (k : Nat) (a0 : Int) : Option (List Int) := crc32_bytes.l0 k a0 ([] : List Int) 0
theorem crc32_bytes.mono_l : ∀ k, (∀ y0 y1 y2, LeO (crc32_bytes.l0 k y0 y1 y2) (crc32_bytes.l0 (k + 1) y0 y1 y2))
  | 0 => fun _ _ _ r h => by simp [crc32_bytes.l0] at h
  | k + 1 => by
    have ih0 := crc32_bytes.mono_l k
    · intro y0 y1 y2
      unfold crc32_bytes.l0
      repeat' first
      | (with_reducible exact ih0 _ _ _)
      | (with_reducible exact LeO.refl _)
      | (with_reducible exact LeO.none _)
      | (with_reducible refine LeO.ite ?_ ?_)
      | (with_reducible refine LeO.bind ?_ (fun _ => ?_))
      | exact ih0 _ _ _
      | exact LeO.none _
      | refine LeO.ite ?_ ?_
      | refine LeO.bind ?_ (fun _ => ?_)
theorem crc32_bytes.mono : ∀ a0 k, LeO (crc32_bytes.f k a0) (crc32_bytes.f (k + 1) a0) := by
  intro a0 k
  have ih0 := crc32_bytes.mono_l k
  unfold crc32_bytes.f
  repeat' first
      | (with_reducible exact ih0 _ _ _)
      | (with_reducible exact LeO.refl _)
      | (with_reducible exact LeO.none _)
      | (with_reducible refine LeO.ite ?_ ?_)
      | (with_reducible refine LeO.bind ?_ (fun _ => ?_))
      | exact ih0 _ _ _
      | exact LeO.none _
      | refine LeO.ite ?_ ?_
      | refine LeO.bind ?_ (fun _ => ?_)
set_option maxHeartbeats 8000000 in
set_option maxRecDepth 100000 in
theorem crc32_bytes.calls (k : Nat) (a0 : Int) (r : List Int) (w : World) (h : crc32_bytes.f k a0 = some r) :
    Calls Tryz.prog 32 #[.int .u32 a0] w fun e w' => ∃ v0_ : Value, e = .returned (v0_) ∧ Kd.R (Kd.int .u8) 5 w' w.heap.size (fun _ => True) v0_ r ∧ Below w.heap.size w w' := by
  have HB := Aside0.mk (Below.refl w.heap.size w)
  have H : (crc32_bytes.l0 k a0 ([] : List Int) 0) = some r := h
  clear h
  have H' := Aside0.mk H
  clear H
  go_enter Tryz.func32, Tryz.ntmps32
  go_wp2
  go_loopg [0, 3, 4] k (fun kq v0 v3 v4 w' => ∃ (x0_1 : Int) (x3_1 : List Int) (x4_1 : Int), v0 = .int .u32 x0_1 ∧ v4 = .int .i64 x4_1 ∧ Aside0 (crc32_bytes.l0 kq x0_1 x3_1 x4_1 = some r) ∧ Aside0 (kq ≤ k) ∧ Aside0 (Kd.R (Kd.int .u8) 5 w' w.heap.size (fun _ => True) v3 x3_1) ∧ Aside0 (Below w.heap.size w w'))
  case atStart => exact ⟨(a0), (([] : List Int)), (0), (by first | rfl | (simp; done) | (simp [*]; done)), (by first | rfl | (simp; done) | (simp [*]; done)), H', ⟨Nat.le_refl _⟩, ⟨by first | exact Kd.R_nil _ _ _ _ _ | exact Kd.N_nil _ _ _ _ _ | exact Kd.V_nil _ _ _ _ _ | exact Kd.Q_nil _ _ _ _ _ | exact Kd.S_nil _ _ _ _ _⟩, ⟨by repeat (first | (with_reducible first | exact HB.out | apply below_alloc | apply pw_below_drewN | apply below_drew1) | exact HB.out)⟩⟩
  case round =>
    clear H'
    obtain ⟨x0_1, x3_1, x4_1, rfl, rfl, HA, HK1, HO_3, HB⟩ := hrel
    cases gk with
    | zero => exact absurd HA.out (by simp [crc32_bytes.l0])
    | succ k1 =>
      have H := HA.out
      clear HA
      simp only [crc32_bytes.l0] at H
      by_cases c2 : x4_1 < 4
      · rw [if_pos c2] at H
        have c2b0 : decide (x4_1 < 4) = true := decide_eq_true c2
        clear c2
        by_cases c3 : x3_1.length < 140737488355328
        · rw [if_pos c3] at H
          have LMc3 := Aside0.mk c3
          clear c3
          obtain ⟨y112, hy112⟩ : ∃ y_ : List Int, y_ = (x3_1 ++ [(x0_1) % 256]) := ⟨_, rfl⟩
          replace H : (crc32_bytes.l0 k1 (x0_1 / 256) y112 (wrap64 (x4_1 + 1))) = some r := by first | (rw [hy112]; with_reducible exact H) | (have H2_ := (Option.bind_some _ _).symm.trans H; rw [hy112]; with_reducible exact H2_) | (have H2_ := (Option.bind_some _ _).symm.trans H; with_reducible exact H2_) | with_reducible exact H | (rw [hy112]; exact H) | exact H
          have Ny112 := Aside0.mk hy112
          clear hy112
          have H' := Aside0.mk H
          clear H
          go_wp2_with (first | ((with_reducible refine gate_builtin (b := .append) (xs := #[.tmp 6, .tmp 9]) rfl ?_); at_builtin; refine Kd.R_append (Kd.int .u8) (w0 := w) w.heap.size rfl (.tmp 6) (.tmp 9) 31 5 (.int .u8 0) 1 rfl Tryz.underlying31 info5 rfl (by decide) (by omega) u3 x3_1 ((x0_1) % 256) [.int .u8 ((x0_1) % 256)] (fun _ => True) (fun _ => False) rfl rfl ?aP (fun _ hk => hk.elim) ?aF ?aO ?aB ?aS ?aL ?_; (case aP => exact rfl); (case aB => exact (by repeat (first | (with_reducible first | exact HB.out | apply below_alloc | apply pw_below_drewN | apply below_drew1) | exact HB.out))); (case aF => exact (fun _ _ => trivial)); (case aO => exact (by (with_reducible repeat (first | apply Kd.R_alloc | apply Kd.R_drewN | apply Kd.R_drew)); exact HO_3.out)); (case aS => exact (below_size (by repeat (first | (with_reducible first | exact HB.out | apply below_alloc | apply pw_below_drewN | apply below_drew1) | exact HB.out)))); (case aL => have := LMc3.out; omega); intro v113 w4 ho hb hg hat; rw [← Ny112.out] at ho; have n0_ := Aside0.mk (hb); have n1_ := Aside0.mk (ho); clear HB; clear HO_3; have HB := n0_; have HO114 := n1_; clear n0_ n1_; clear ho hb hg hat))
          go_roundg k1
          case measure => have := HK1.out; omega
          case rel => exact ⟨(x0_1 / 256), (y112), (wrap64 (x4_1 + 1)), (by first | rfl | (simp; done) | (simp [*]; done)), (by first | rfl | (simp; done) | (simp [*]; done)), H', ⟨by have := HK1.out; omega⟩, ⟨by (with_reducible repeat (first | apply Kd.R_alloc | apply Kd.R_drewN | apply Kd.R_drew)); exact HO114.out⟩, ⟨by repeat (first | (with_reducible first | exact HB.out | apply below_alloc | apply pw_below_drewN | apply below_drew1) | exact HB.out)⟩⟩
        · rw [if_neg c3] at H
          exact absurd H (by simp)
      · rw [if_neg c2] at H
        have c2b0 : decide (x4_1 < 4) = false := decide_eq_false c2
        clear c2
        obtain rfl := Option.some.inj H
        go_wp2
        go_ret
        exact ⟨_, by first | rfl | (simp [errW_none, errW_some] <;> rfl) | (simp [*, errW_none, errW_some] <;> rfl), by (with_reducible repeat (first | apply Kd.R_alloc | apply Kd.R_drewN | apply Kd.R_drew)); exact HO_3.out, by repeat (first | (with_reducible first | exact HB.out | apply below_alloc | apply pw_below_drewN | apply below_drew1) | exact HB.out)⟩
end
-- YtknanbnjbilciaaGreatDoorP103
section
attribute [local go_sem] max2_int min2_int max_two min_two max_three min_three max_four min_four
set_option linter.unusedVariables false
set_option linter.unusedSimpArgs false

/-! ### crc32_Open: function 60 -/
def crc32_Open.f (k : Nat) (l0 : List Int) : Option (List Int × Bool) := if (wrap64 ((l0.length : Int) - 4)) < 0 then (some (([] : List Int), false)) else (if 0 ≤ (wrap64 ((l0.length : Int) - 4)) then (if (wrap64 ((l0.length : Int) - 4)) ≤ (l0.length : Int) then ((crc32_Sum.f (l0.take ((wrap64 ((l0.length : Int) - 4)) : Int).toNat)).bind fun t281 => ((crc32_bytes.f k t281).bind fun t282 => ((slices_Equal_byte_byte.f k t282 (l0.drop ((wrap64 ((l0.length : Int) - 4)) : Int).toNat)).bind fun t286 => (if t286 = true then ((slices_Clone_byte_byte.f (l0.take ((wrap64 ((l0.length : Int) - 4)) : Int).toNat)).bind fun t288 => (some (t288, true))) else (some (([] : List Int), false)))))) else (none)) else (none))
theorem crc32_Open.mono : ∀ a0 k, LeO (crc32_Open.f k a0) (crc32_Open.f (k + 1) a0) := by
  intro a0 k
  unfold crc32_Open.f
  repeat' first
      | (with_reducible exact crc32_bytes.mono _ _)
      | (with_reducible exact slices_Equal_byte_byte.mono _ _ _)
      | (with_reducible exact LeO.refl _)
      | (with_reducible exact LeO.none _)
      | (with_reducible refine LeO.ite ?_ ?_)
      | (with_reducible refine LeO.bind ?_ (fun _ => ?_))
      | exact crc32_bytes.mono _ _
      | exact slices_Equal_byte_byte.mono _ _ _
      | exact LeO.none _
      | refine LeO.ite ?_ ?_
      | refine LeO.bind ?_ (fun _ => ?_)
def crc32_Open.T2 : Bool × List (List Nat × List Nat) := (true, [([], []), ([0], [0]), ([1], [1]), ([2], [2]), ([2], [2]), ([3, 4, 2], [2, 3, 4]), ([5, 2, 2], [2, 5]), ([6, 6, 2], [2, 6]), ([2], [2]), ([2], [2]), ([8, 9, 2], [2, 8, 9]), ([7, 10, 7, 2], [2, 7, 10]), ([11, 2], [2, 11]), ([2, 12], [2, 12])])
def crc32_Open.B2 : List Nat := [0, 1, 3, 7, 7, 31, 63, 127, 7, 7, 775, 2047, 4095, 8191]
theorem crc32_Open.tab2 : rtab .any (opsOf Tryz.f60 2) = crc32_Open.T2 := by kernel_rfl
theorem crc32_Open.bits2 : waitsOk crc32_Open.T2.2 crc32_Open.B2 = true := by kernel_rfl
set_option maxHeartbeats 8000000 in
set_option maxRecDepth 100000 in
theorem crc32_Open.calls (k : Nat) (A0 : Option Addr) (c0 : Nat) (l0 : List Int) (r1 : List Int) (r2 : Bool) (w : World) (hr0 : Kd.C (Kd.int .u8) w A0 l0.length l0) (hc0 : l0.length ≤ c0) (h : crc32_Open.f k l0 = some (r1, r2)) :
    Calls Tryz.prog 60 #[.slice A0 l0.length c0] w fun e w' => ∃ v0_ : Value, e = .returned (.tuple #[v0_, .bool r2]) ∧ Kd.R (Kd.int .u8) 5 w' w.heap.size (fun _ => True) v0_ r1 ∧ Below w.heap.size w w' := by
  have HR0 := Aside0.mk hr0
  have HC0 := Aside0.mk hc0
  clear hr0 hc0
  have HB := Aside0.mk (Below.refl w.heap.size w)
  have H : (if (wrap64 ((l0.length : Int) - 4)) < 0 then (some (([] : List Int), false)) else (if 0 ≤ (wrap64 ((l0.length : Int) - 4)) then (if (wrap64 ((l0.length : Int) - 4)) ≤ (l0.length : Int) then ((crc32_Sum.f (l0.take ((wrap64 ((l0.length : Int) - 4)) : Int).toNat)).bind fun t281 => ((crc32_bytes.f k t281).bind fun t282 => ((slices_Equal_byte_byte.f k t282 (l0.drop ((wrap64 ((l0.length : Int) - 4)) : Int).toNat)).bind fun t286 => (if t286 = true then ((slices_Clone_byte_byte.f (l0.take ((wrap64 ((l0.length : Int) - 4)) : Int).toNat)).bind fun t288 => (some (t288, true))) else (some (([] : List Int), false)))))) else (none)) else (none))) = some (r1, r2) := h
  clear h
  by_cases c2 : (wrap64 ((l0.length : Int) - 4)) < 0
  · rw [if_pos c2] at H
    have c2b0 : decide ((wrap64 ((l0.length : Int) - 4)) < 0) = true := decide_eq_true c2
    clear c2
    simp only [Option.some.injEq, Prod.mk.injEq] at H
    obtain ⟨rfl, rfl⟩ := H
    go_enter Tryz.func60, Tryz.ntmps60
    try go_wp2
    have n0_ := Aside0.mk (below_drew1 HB.out)
    clear HB
    have HB := n0_
    clear n0_
    refine start_ (n := 14) (S := fun w' => True) (ds := []) #[false, false, false, false, false, false, false, false, false, false, false, false, false, false] (by kernel_rfl) rfl rfl trivial (fun hHeld => ?_); refine with_tabW crc32_Open.tab2 crc32_Open.bits2 (fun HT_ HW_ => ?_)
    generalize w.drew = w3 at HB hHeld ⊢
    refine pure_ (i := 0) (N := some 8) (v := ?_) (a' := ?_) #[true, false, false, false, false, false, false, false, false, false, false, false, false, false] rfl rfl (any_of HT_.out (by kernel_rfl)) (fun _ _ _ h => h) (Or.inl ⟨by rfl, ?_⟩) ?_ ?_
    rotate_left
    · intro w'
      go_simp
      with_reducible rfl
    rotate_left
    · simp only [Act.put, List.setIfInBounds_toArray, List.set_cons_zero, List.set_cons_succ, i64_w, i32_w]
      rfl
    refine pure_ (i := 1) (N := some 9) (v := ?_) (a' := ?_) #[true, true, false, false, false, false, false, false, false, false, false, false, false, false] rfl rfl (any_of HT_.out (by kernel_rfl)) (fun _ _ _ h => h) (Or.inl ⟨by rfl, ?_⟩) ?_ ?_
    rotate_left
    · intro w'
      go_simp
      with_reducible rfl
    rotate_left
    · simp only [Act.put, List.setIfInBounds_toArray, List.set_cons_zero, List.set_cons_succ, i64_w, i32_w]
      rfl
    refine pure_ (i := 2) (N := some 10) (v := ?_) (a' := ?_) #[true, true, true, false, false, false, false, false, false, false, false, false, false, false] rfl rfl (any_of HT_.out (by kernel_rfl)) (fun _ _ _ h => h) (Or.inl ⟨by rfl, ?_⟩) ?_ ?_
    rotate_left
    · intro w'
      go_simp
      with_reducible rfl
    rotate_left
    · simp only [Act.put, List.setIfInBounds_toArray, List.set_cons_zero, List.set_cons_succ, i64_w, i32_w]
      rfl
    refine pure_ (i := 3) (N := some 11) (v := undef) (a' := ?_) #[true, true, true, true, false, false, false, false, false, false, false, false, false, false] rfl rfl (any_of HT_.out (by kernel_rfl)) (fun _ _ _ h => h) (Or.inr ⟨by rfl, rfl⟩) ?_ ?_
    rotate_left
    · simp only [Act.put, List.setIfInBounds_toArray, List.set_cons_zero, List.set_cons_succ, i64_w, i32_w]
      rfl
    refine pure_ (i := 4) (N := some 12) (v := undef) (a' := ?_) #[true, true, true, true, true, false, false, false, false, false, false, false, false, false] rfl rfl (any_of HT_.out (by kernel_rfl)) (fun _ _ _ h => h) (Or.inr ⟨by rfl, rfl⟩) ?_ ?_
    rotate_left
    · simp only [Act.put, List.setIfInBounds_toArray, List.set_cons_zero, List.set_cons_succ, i64_w, i32_w]
      rfl
    refine pure_ (i := 5) (N := some 13) (v := undef) (a' := ?_) #[true, true, true, true, true, true, false, false, false, false, false, false, false, false] rfl rfl (any_of HT_.out (by kernel_rfl)) (fun _ _ _ h => h) (Or.inr ⟨by rfl, rfl⟩) ?_ ?_
    rotate_left
    · simp only [Act.put, List.setIfInBounds_toArray, List.set_cons_zero, List.set_cons_succ, i64_w, i32_w]
      rfl
    refine pure_ (i := 6) (N := some 14) (v := undef) (a' := ?_) #[true, true, true, true, true, true, true, false, false, false, false, false, false, false] rfl rfl (any_of HT_.out (by kernel_rfl)) (fun _ _ _ h => h) (Or.inr ⟨by rfl, rfl⟩) ?_ ?_
    rotate_left
    · simp only [Act.put, List.setIfInBounds_toArray, List.set_cons_zero, List.set_cons_succ, i64_w, i32_w]
      rfl
    refine pure_ (i := 7) (N := some 15) (v := undef) (a' := ?_) #[true, true, true, true, true, true, true, true, false, false, false, false, false, false] rfl rfl (any_of HT_.out (by kernel_rfl)) (fun _ _ _ h => h) (Or.inr ⟨by rfl, rfl⟩) ?_ ?_
    rotate_left
    · simp only [Act.put, List.setIfInBounds_toArray, List.set_cons_zero, List.set_cons_succ, i64_w, i32_w]
      rfl
    refine pure_ (i := 8) (N := some 16) (v := undef) (a' := ?_) #[true, true, true, true, true, true, true, true, true, false, false, false, false, false] rfl rfl (any_of HT_.out (by kernel_rfl)) (fun _ _ _ h => h) (Or.inr ⟨by rfl, rfl⟩) ?_ ?_
    rotate_left
    · simp only [Act.put, List.setIfInBounds_toArray, List.set_cons_zero, List.set_cons_succ, i64_w, i32_w]
      rfl
    refine pure_ (i := 9) (N := some 17) (v := undef) (a' := ?_) #[true, true, true, true, true, true, true, true, true, true, false, false, false, false] rfl rfl (any_of HT_.out (by kernel_rfl)) (fun _ _ _ h => h) (Or.inr ⟨by rfl, rfl⟩) ?_ ?_
    rotate_left
    · simp only [Act.put, List.setIfInBounds_toArray, List.set_cons_zero, List.set_cons_succ, i64_w, i32_w]
      rfl
    refine pure_ (i := 10) (N := some 18) (v := undef) (a' := ?_) #[true, true, true, true, true, true, true, true, true, true, true, false, false, false] rfl rfl (any_of HT_.out (by kernel_rfl)) (fun _ _ _ h => h) (Or.inr ⟨by rfl, rfl⟩) ?_ ?_
    rotate_left
    · simp only [Act.put, List.setIfInBounds_toArray, List.set_cons_zero, List.set_cons_succ, i64_w, i32_w]
      rfl
    refine pure_ (i := 11) (N := some 19) (v := undef) (a' := ?_) #[true, true, true, true, true, true, true, true, true, true, true, true, false, false] rfl rfl (any_of HT_.out (by kernel_rfl)) (fun _ _ _ h => h) (Or.inr ⟨by rfl, rfl⟩) ?_ ?_
    rotate_left
    · simp only [Act.put, List.setIfInBounds_toArray, List.set_cons_zero, List.set_cons_succ, i64_w, i32_w]
      rfl
    refine pure_ (i := 12) (N := some 20) (v := undef) (a' := ?_) #[true, true, true, true, true, true, true, true, true, true, true, true, true, false] rfl rfl (any_of HT_.out (by kernel_rfl)) (fun _ _ _ h => h) (Or.inr ⟨by rfl, rfl⟩) ?_ ?_
    rotate_left
    · simp only [Act.put, List.setIfInBounds_toArray, List.set_cons_zero, List.set_cons_succ, i64_w, i32_w]
      rfl
    refine pure_ (i := 13) (N := some 21) (v := ?_) (a' := ?_) #[true, true, true, true, true, true, true, true, true, true, true, true, true, true] rfl rfl (any_of HT_.out (by kernel_rfl)) (fun _ _ _ h => h) (Or.inl ⟨by rfl, ?_⟩) ?_ ?_
    rotate_left
    · intro w'
      go_simp
      with_reducible rfl
    rotate_left
    · simp only [Act.put, List.setIfInBounds_toArray, List.set_cons_zero, List.set_cons_succ, i64_w, i32_w]
      rfl
    refine done_ (done_of HT_.out (by kernel_rfl)) ?_
    try go_wp2
    go_ret2
    exact ⟨_, by first | rfl | (simp [errW_none, errW_some] <;> rfl) | (simp [*, errW_none, errW_some] <;> rfl), by first | exact Kd.R_nil _ _ _ _ _ | exact Kd.N_nil _ _ _ _ _ | exact Kd.V_nil _ _ _ _ _ | exact Kd.Q_nil _ _ _ _ _ | exact Kd.S_nil _ _ _ _ _, by repeat (first | (with_reducible first | exact HB.out | apply below_alloc | apply pw_below_drewN | apply below_drew1) | exact HB.out)⟩
  · rw [if_neg c2] at H
    have c2b0 : decide ((wrap64 ((l0.length : Int) - 4)) < 0) = false := decide_eq_false c2
    clear c2
    obtain ⟨ji4, hji4⟩ : ∃ j_ : Int, (wrap64 ((l0.length : Int) - 4)) = j_ := ⟨_, rfl⟩
    replace H : (if 0 ≤ (ji4) then (if (ji4) ≤ (l0.length : Int) then ((crc32_Sum.f (l0.take ((ji4) : Int).toNat)).bind fun t281 => ((crc32_bytes.f k t281).bind fun t282 => ((slices_Equal_byte_byte.f k t282 (l0.drop ((ji4) : Int).toNat)).bind fun t286 => (if t286 = true then ((slices_Clone_byte_byte.f (l0.take ((ji4) : Int).toNat)).bind fun t288 => (some (t288, true))) else (some (([] : List Int), false)))))) else (none)) else (none)) = some (r1, r2) := by first | (rw [hji4] at H; exact H) | (simp only [hji4] at H ⊢; exact H)
    (try rw [hji4] at c2b0)
    have hji4w : (IntKind.i64.wrap ((l0.length : Int) - 4)) = ji4 := (i64_w _).trans hji4
    by_cases c5 : 0 ≤ (ji4)
    · rw [if_pos c5] at H
      have c5b0 := eq_true c5
      have c5b1 : decide (0 ≤ (ji4)) = true := decide_eq_true c5
      clear c5
      by_cases c6 : (ji4) ≤ (l0.length : Int)
      · rw [if_pos c6] at H
        have c6b0 := eq_true c6
        have c6b1 : decide ((ji4) ≤ (l0.length : Int)) = true := decide_eq_true c6
        clear c6
        replace H := Option.bind_eq_some_iff.mp H
        obtain ⟨t281, A70, H⟩ := H
        replace H : ((crc32_bytes.f k t281).bind fun t282 => ((slices_Equal_byte_byte.f k t282 (l0.drop ((ji4) : Int).toNat)).bind fun t286 => (if t286 = true then ((slices_Clone_byte_byte.f (l0.take ((ji4) : Int).toNat)).bind fun t288 => (some (t288, true))) else (some (([] : List Int), false))))) = some (r1, r2) := H
        have A7 := Aside0.mk A70
        clear A70
        replace H := Option.bind_eq_some_iff.mp H
        obtain ⟨t282, A80, H⟩ := H
        replace H : ((slices_Equal_byte_byte.f k t282 (l0.drop ((ji4) : Int).toNat)).bind fun t286 => (if t286 = true then ((slices_Clone_byte_byte.f (l0.take ((ji4) : Int).toNat)).bind fun t288 => (some (t288, true))) else (some (([] : List Int), false)))) = some (r1, r2) := H
        have A8 := Aside0.mk A80
        clear A80
        have c9b0 := eq_true (of_decide_eq_true (by first | (with_reducible assumption) | assumption) : 0 ≤ (ji4))
        have c10b0 := eq_true (of_decide_eq_true (by first | (with_reducible assumption) | assumption) : (ji4) ≤ (l0.length : Int))
        replace H := Option.bind_eq_some_iff.mp H
        obtain ⟨t286, A110, H⟩ := H
        replace H : (if t286 = true then ((slices_Clone_byte_byte.f (l0.take ((ji4) : Int).toNat)).bind fun t288 => (some (t288, true))) else (some (([] : List Int), false))) = some (r1, r2) := H
        have A11 := Aside0.mk A110
        clear A110
        by_cases c12 : t286 = true
        · subst c12
          have H1 : ((slices_Clone_byte_byte.f (l0.take ((ji4) : Int).toNat)).bind fun t288 => (some (t288, true))) = some (r1, r2) := by rw [if_pos rfl] at H; exact H
          clear H
          have H := H1
          clear H1
          have c13b0 := eq_true (of_decide_eq_true (by first | (with_reducible assumption) | assumption) : 0 ≤ (ji4))
          have c14b0 := eq_true (of_decide_eq_true (by first | (with_reducible assumption) | assumption) : (ji4) ≤ (l0.length : Int))
          replace H := Option.bind_eq_some_iff.mp H
          obtain ⟨t288, A150, H⟩ := H
          replace H : (some (t288, true)) = some (r1, r2) := H
          have A15 := Aside0.mk A150
          clear A150
          simp only [Option.some.injEq, Prod.mk.injEq] at H
          obtain ⟨rfl, rfl⟩ := H
          go_enter Tryz.func60, Tryz.ntmps60
          try go_wp2
          have n0_ := Aside0.mk (below_drew1 HB.out)
          clear HB
          have HB := n0_
          clear n0_
          obtain ⟨i017, hi017, _, hsz17, _⟩ := info_parts info5
          obtain ⟨hcut17, hA17, hC17⟩ := print_take_of (P := Tryz.prog) (Value.int .u8) 0 31 5 .i64 Tryz.underlying31 hi017 hsz17 A0 c0 l0 (ji4) (of_decide_eq_true (by first | (with_reducible assumption) | assumption)) (of_decide_eq_true (by first | (with_reducible assumption) | assumption)) HC0.out
          have HR280 := Aside0.mk (Kd.C_of_reads (h1 := fun _ => rfl) (hA17 _ (Kd.reads_of_C HR0.out)))
          have HC280 := Aside0.mk hC17
          clear hA17 hC17 hi017 hsz17
          obtain ⟨i018, hi018, _, hsz18, _⟩ := info_parts info5
          obtain ⟨A18, hcut18, hA18, hC18⟩ := print_drop_of (P := Tryz.prog) (Value.int .u8) 0 31 5 .i64 Tryz.underlying31 hi018 hsz18 A0 c0 l0 (ji4) (of_decide_eq_true (by first | (with_reducible assumption) | assumption)) (of_decide_eq_true (by first | (with_reducible assumption) | assumption)) HC0.out
          have HR285 := Aside0.mk (Kd.C_of_reads (h1 := fun _ => rfl) (hA18 _ (Kd.reads_of_C HR0.out)))
          have HC285 := Aside0.mk hC18
          clear hA18 hC18 hi018 hsz18
          refine start_ (n := 14) (S := fun w' => True) (ds := []) #[false, false, false, false, false, false, false, false, false, false, false, false, false, false] (by kernel_rfl) rfl rfl trivial (fun hHeld => ?_); refine with_tabW crc32_Open.tab2 crc32_Open.bits2 (fun HT_ HW_ => ?_)
          generalize w.drew = w16 at HB HR280 HR285 hHeld ⊢
          refine pure_ (i := 0) (N := some 8) (v := ?_) (a' := ?_) #[true, false, false, false, false, false, false, false, false, false, false, false, false, false] rfl rfl (any_of HT_.out (by kernel_rfl)) (fun _ _ _ h => h) (Or.inl ⟨by rfl, ?_⟩) ?_ ?_
          rotate_left
          · intro w'
            go_simp
            with_reducible rfl
          rotate_left
          · simp only [Act.put, List.setIfInBounds_toArray, List.set_cons_zero, List.set_cons_succ, i64_w, i32_w]
            rfl
          refine pure_ (i := 1) (N := some 9) (v := ?_) (a' := ?_) #[true, true, false, false, false, false, false, false, false, false, false, false, false, false] rfl rfl (any_of HT_.out (by kernel_rfl)) (fun _ _ _ h => h) (Or.inl ⟨by rfl, ?_⟩) ?_ ?_
          rotate_left
          · intro w'
            go_simp
            with_reducible rfl
          rotate_left
          · simp only [Act.put, List.setIfInBounds_toArray, List.set_cons_zero, List.set_cons_succ, i64_w, i32_w]
            rfl
          refine pure_ (i := 2) (N := some 10) (v := ?_) (a' := ?_) #[true, true, true, false, false, false, false, false, false, false, false, false, false, false] rfl rfl (any_of HT_.out (by kernel_rfl)) (fun _ _ _ h => h) (Or.inl ⟨by rfl, ?_⟩) ?_ ?_
          rotate_left
          · intro w'
            go_simp
            with_reducible rfl
          rotate_left
          · simp only [Act.put, List.setIfInBounds_toArray, List.set_cons_zero, List.set_cons_succ, i64_w, i32_w]
            rfl
          refine pure_ (i := 3) (N := some 11) (v := ?_) (a' := ?_) #[true, true, true, true, false, false, false, false, false, false, false, false, false, false] rfl rfl (any_of HT_.out (by kernel_rfl)) (fun _ _ _ h => h) (Or.inl ⟨by rfl, ?_⟩) ?_ ?_
          rotate_left
          · intro w'
            go_simp
            with_reducible rfl
          rotate_left
          · simp only [Act.put, List.setIfInBounds_toArray, List.set_cons_zero, List.set_cons_succ, i64_w, i32_w]
            rfl
          refine pure_ (i := 4) (N := some 12) (v := ?_) (a' := ?_) #[true, true, true, true, true, false, false, false, false, false, false, false, false, false] rfl rfl (any_of HT_.out (by kernel_rfl)) (fun _ _ _ h => h) (Or.inl ⟨by rfl, ?_⟩) ?_ ?_
          rotate_left
          · intro w'
            go_simp
            with_reducible rfl
          rotate_left
          · simp only [Act.put, List.setIfInBounds_toArray, List.set_cons_zero, List.set_cons_succ, i64_w, i32_w]
            rfl
          refine pure_ (i := 5) (N := some 13) (v := ?_) (a' := ?_) #[true, true, true, true, true, true, false, false, false, false, false, false, false, false] rfl rfl (any_of HT_.out (by kernel_rfl)) (fun _ _ _ h => h) (Or.inl ⟨by rfl, ?_⟩) ?_ ?_
          rotate_left
          · intro w'
            go_simp
            with_reducible rfl
          rotate_left
          · simp only [Act.put, List.setIfInBounds_toArray, List.set_cons_zero, List.set_cons_succ, i64_w, i32_w]
            rfl
          refine pure_ (i := 8) (N := some 16) (v := ?_) (a' := ?_) #[true, true, true, true, true, true, false, false, true, false, false, false, false, false] rfl rfl (any_of HT_.out (by kernel_rfl)) (fun _ _ _ h => h) (Or.inl ⟨by rfl, ?_⟩) ?_ ?_
          rotate_left
          · intro w'
            go_simp
            with_reducible rfl
          rotate_left
          · simp only [Act.put, List.setIfInBounds_toArray, List.set_cons_zero, List.set_cons_succ, i64_w, i32_w]
            rfl
          refine pure_ (i := 9) (N := some 17) (v := ?_) (a' := ?_) #[true, true, true, true, true, true, false, false, true, true, false, false, false, false] rfl rfl (any_of HT_.out (by kernel_rfl)) (fun _ _ _ h => h) (Or.inl ⟨by rfl, ?_⟩) ?_ ?_
          rotate_left
          · intro w'
            go_simp
            with_reducible rfl
          rotate_left
          · simp only [Act.put, List.setIfInBounds_toArray, List.set_cons_zero, List.set_cons_succ, i64_w, i32_w]
            rfl
          refine pure_ (i := 10) (N := some 18) (v := ?_) (a' := ?_) #[true, true, true, true, true, true, false, false, true, true, true, false, false, false] rfl rfl (any_of HT_.out (by kernel_rfl)) (fun _ _ _ h => h) (Or.inl ⟨by rfl, ?_⟩) ?_ ?_
          rotate_left
          · intro w'
            go_simp
            with_reducible rfl
          rotate_left
          · simp only [Act.put, List.setIfInBounds_toArray, List.set_cons_zero, List.set_cons_succ, i64_w, i32_w]
            rfl
          refine one_ (i := 6) (N := some 14) #[true, true, true, true, true, true, true, false, true, true, true, false, false, false] rfl rfl (one_of HT_.out (by kernel_rfl)) (by decide) (fun K hK => ?_)
          refine goes_ Tryz.func14 (by kernel_rfl) rfl #[.slice A0 (l0.take ((ji4) : Int).toNat).length c0] (by rfl) rfl rfl (by (try simp only [List.map_toArray, List.map_cons, List.map_nil]); first | done | (rw [show (l0.take ((ji4) : Int).toNat).length = (ji4).toNat from (by rw [List.length_take]; have h_ : ((ji4) : Int) ≤ (l0.length : Int) := of_decide_eq_true (by first | (with_reducible assumption) | assumption); omega)] <;> rfl) | (simp only [hji4]; rfl) | rfl | (simp only [List.length_drop, List.length_take]; rfl)) ?_
          with_reducible refine (crc32_Sum.calls _ _ (l0.take ((ji4) : Int).toNat) t281 _ ?side1 ?side2 A7.out).mono ?_
          (case side1 => repeat (first | exact (Kd.C_below HR280.out HB.out) | (with_reducible refine Kd.C_alloc ?_ _) | (with_reducible refine Kd.C_drewN ?_ _) | (with_reducible refine Kd.C_drew ?_)))
          (case side2 => exact HC280.out)
          rintro e w19 ⟨rfl, hb⟩
          refine ⟨_, rfl, ?_⟩
          have n0_ := Aside0.mk (below_step (by repeat (first | (with_reducible first | exact HB.out | apply below_alloc | apply pw_below_drewN | apply below_drew1) | exact HB.out)) hb)
          clear HB
          have HB := n0_
          clear n0_
          (try clear hb)
          (try clear hb2)
          (try clear hk)
          (try clear hi)
          refine hK.out _ _ trivial (fun hHeld => ?_)
          clear hK K
          refine norm_ (a' := ?_) ?_ ?_
          rotate_left
          · show Act.put _ (some 14) _ = _
            simp only [Act.put, List.setIfInBounds_toArray, List.set_cons_zero, List.set_cons_succ, i64_w, i32_w]
            rfl
          refine one_ (i := 7) (N := some 15) #[true, true, true, true, true, true, true, true, true, true, true, false, false, false] rfl rfl (one_of HT_.out (by kernel_rfl)) (by decide) (fun K hK => ?_)
          refine goes_ Tryz.func32 (by kernel_rfl) rfl #[.int .u32 t281] (by rfl) rfl rfl (by (try simp only [List.map_toArray, List.map_cons, List.map_nil]); first | done | rfl | (simp only [List.length_drop, List.length_take]; rfl)) ?_
          with_reducible refine (crc32_bytes.calls k t281 t282 _ A8.out).mono ?_
          rintro e w20 ⟨v283, rfl, ho0, hb⟩
          refine ⟨_, rfl, ?_⟩
          have n0_ := Aside0.mk (Kd.R_lower ho0 (below_size (by repeat (first | (with_reducible first | exact HB.out | apply below_alloc | apply pw_below_drewN | apply below_drew1) | exact HB.out))))
          have n1_ := Aside0.mk (below_step (by repeat (first | (with_reducible first | exact HB.out | apply below_alloc | apply pw_below_drewN | apply below_drew1) | exact HB.out)) hb)
          clear HB
          have HO284 := n0_
          have HB := n1_
          clear n0_ n1_
          (try clear hb)
          (try clear hb2)
          (try clear hk)
          (try clear hi)
          (try clear ho0)
          obtain ⟨Ao21, co21, eo21⟩ := Kd.R_slice HO284.out
          (first | subst eo21 | (injection eo21 with f1_ f2_ f3_; have f4_ := f1_.symm; have f5_ := f3_.symm; clear f1_ f2_ f3_; subst f4_; subst f5_))
          refine hK.out _ _ trivial (fun hHeld => ?_)
          clear hK K
          refine norm_ (a' := ?_) ?_ ?_
          rotate_left
          · show Act.put _ (some 15) _ = _
            simp only [Act.put, List.setIfInBounds_toArray, List.set_cons_zero, List.set_cons_succ, i64_w, i32_w]
            rfl
          refine one_ (i := 11) (N := some 19) #[true, true, true, true, true, true, true, true, true, true, true, true, false, false] rfl rfl (one_of HT_.out (by kernel_rfl)) (by decide) (fun K hK => ?_)
          refine goes_ Tryz.func89 (by kernel_rfl) rfl #[.slice Ao21 t282.length co21, .slice A18 (l0.drop ((ji4) : Int).toNat).length (c0 - (ji4).toNat)] (by rfl) rfl rfl (by (try simp only [List.map_toArray, List.map_cons, List.map_nil]); first | done | (rw [show (l0.drop ((ji4) : Int).toNat).length = (l0.length - (ji4).toNat) from List.length_drop] <;> rfl) | (simp only [hji4]; rfl) | rfl | (simp only [List.length_drop, List.length_take]; rfl)) ?_
          with_reducible refine (slices_Equal_byte_byte.calls k _ _ t282 _ _ (l0.drop ((ji4) : Int).toNat) true _ ?side1 ?side2 ?side3 ?side4 A11.out).mono ?_
          (case side1 => repeat (first | exact (Kd.R_reads' HO284.out).2.2 | (with_reducible refine Kd.C_alloc ?_ _) | (with_reducible refine Kd.C_drewN ?_ _) | (with_reducible refine Kd.C_drew ?_)))
          (case side2 => exact (Kd.R_reads' HO284.out).2.1)
          (case side3 => repeat (first | exact (Kd.C_below HR285.out HB.out) | (with_reducible refine Kd.C_alloc ?_ _) | (with_reducible refine Kd.C_drewN ?_ _) | (with_reducible refine Kd.C_drew ?_)))
          (case side4 => exact HC285.out)
          rintro e w' ⟨rfl, ⟨nd, rfl⟩⟩
          refine ⟨_, rfl, ?_⟩
          refine hK.out _ _ trivial (fun hHeld => ?_)
          clear hK K
          refine norm_ (a' := ?_) ?_ ?_
          rotate_left
          · show Act.put _ (some 19) _ = _
            simp only [Act.put, List.setIfInBounds_toArray, List.set_cons_zero, List.set_cons_succ, i64_w, i32_w]
            rfl
          refine pure_ (i := 12) (N := some 20) (v := ?_) (a' := ?_) #[true, true, true, true, true, true, true, true, true, true, true, true, true, false] rfl rfl (any_of HT_.out (by kernel_rfl)) (fun _ _ _ h => h) (Or.inl ⟨by rfl, ?_⟩) ?_ ?_
          rotate_left
          · intro w'
            go_simp
            with_reducible rfl
          rotate_left
          · simp only [Act.put, List.setIfInBounds_toArray, List.set_cons_zero, List.set_cons_succ, i64_w, i32_w]
            rfl
          refine pure_ (i := 13) (N := some 21) (v := ?_) (a' := ?_) #[true, true, true, true, true, true, true, true, true, true, true, true, true, true] rfl rfl (any_of HT_.out (by kernel_rfl)) (fun _ _ _ h => h) (Or.inl ⟨by rfl, ?_⟩) ?_ ?_
          rotate_left
          · intro w'
            go_simp
            with_reducible rfl
          rotate_left
          · simp only [Act.put, List.setIfInBounds_toArray, List.set_cons_zero, List.set_cons_succ, i64_w, i32_w]
            rfl
          refine done_ (done_of HT_.out (by kernel_rfl)) ?_
          obtain ⟨i022, hi022, _, hsz22, _⟩ := info_parts info5
          obtain ⟨hcut22, hA22, hC22⟩ := print_take_of (P := Tryz.prog) (Value.int .u8) 0 31 5 .i64 Tryz.underlying31 hi022 hsz22 A0 c0 l0 (ji4) (of_decide_eq_true (by first | (with_reducible assumption) | assumption)) (of_decide_eq_true (by first | (with_reducible assumption) | assumption)) HC0.out
          have HR287 := Aside0.mk (Kd.C_of_reads (h1 := fun _ => rfl) (hA22 _ (Kd.reads_of_C HR0.out)))
          have HC287 := Aside0.mk hC22
          clear hA22 hC22 hi022 hsz22
          try go_wp2_with (first | ((with_reducible refine gate_callee (f := 31) rfl ?_); refine goesL_ (some 25) rfl rfl Tryz.func31 (by kernel_rfl) rfl #[.slice A0 (l0.take ((ji4) : Int).toNat).length c0] rfl (by (try simp only [List.map_toArray, List.map_cons, List.map_nil]); first | done | (rw [show (l0.take ((ji4) : Int).toNat).length = (ji4).toNat from (by rw [List.length_take]; have h_ : ((ji4) : Int) ≤ (l0.length : Int) := of_decide_eq_true (by first | (with_reducible assumption) | assumption); omega)] <;> rfl) | (simp only [hji4]; rfl) | rfl | (simp only [List.length_drop, List.length_take]; rfl)) ?_; (with_reducible refine (slices_Clone_byte_byte.calls _ _ (l0.take ((ji4) : Int).toNat) t288 _ ?side1 ?side2 A15.out).mono ?_); (case side1 => repeat (first | exact (Kd.C_below HR287.out (by repeat (first | (with_reducible first | exact HB.out | apply below_alloc | apply pw_below_drewN | apply below_drew1) | exact HB.out))) | (with_reducible refine Kd.C_alloc ?_ _) | (with_reducible refine Kd.C_drewN ?_ _) | (with_reducible refine Kd.C_drew ?_))); (case side2 => exact HC287.out); rintro e w23 ⟨v289, rfl, ho0, hb⟩; refine ⟨_, rfl, ?_⟩; have n0_ := Aside0.mk (Kd.R_elder' (by (with_reducible repeat (first | apply Kd.R_alloc | apply Kd.R_drewN | apply Kd.R_drew)); exact HO284.out) (Kd.R_base ho0) hb); have n1_ := Aside0.mk (Kd.R_lower (Kd.R_new' ho0 (Kd.R_lt (by (with_reducible repeat (first | apply Kd.R_alloc | apply Kd.R_drewN | apply Kd.R_drew)); exact HO284.out))) (below_size (by repeat (first | (with_reducible first | exact HB.out | apply below_alloc | apply pw_below_drewN | apply below_drew1) | exact HB.out)))); have n2_ := Aside0.mk (below_step (by repeat (first | (with_reducible first | exact HB.out | apply below_alloc | apply pw_below_drewN | apply below_drew1) | exact HB.out)) hb); clear HO284; clear HB; have HO284 := n0_; have HO290 := n1_; have HB := n2_; clear n0_ n1_ n2_; (try clear hb); (try clear hb2); (try clear hk); (try clear hi); (try clear ho0)))
          go_ret2
          exact ⟨_, by first | rfl | (simp [errW_none, errW_some] <;> rfl) | (simp only [← hji4]; first | rfl | (simp [errW_none, errW_some] <;> rfl)) | (simp [*, errW_none, errW_some] <;> rfl), by (with_reducible repeat (first | apply Kd.R_alloc | apply Kd.R_drewN | apply Kd.R_drew)); exact Kd.R_mono HO290.out (fun _ hk => trivial), by repeat (first | (with_reducible first | exact HB.out | apply below_alloc | apply pw_below_drewN | apply below_drew1) | exact HB.out)⟩
        · replace c12 := Bool.eq_false_iff.mpr c12
          subst c12
          have H1 : (some (([] : List Int), false)) = some (r1, r2) := by rw [if_neg (show ¬ (false = true) by decide)] at H; exact H
          clear H
          have H := H1
          clear H1
          simp only [Option.some.injEq, Prod.mk.injEq] at H
          obtain ⟨rfl, rfl⟩ := H
          go_enter Tryz.func60, Tryz.ntmps60
          try go_wp2
          have n0_ := Aside0.mk (below_drew1 HB.out)
          clear HB
          have HB := n0_
          clear n0_
          obtain ⟨i025, hi025, _, hsz25, _⟩ := info_parts info5
          obtain ⟨hcut25, hA25, hC25⟩ := print_take_of (P := Tryz.prog) (Value.int .u8) 0 31 5 .i64 Tryz.underlying31 hi025 hsz25 A0 c0 l0 (ji4) (of_decide_eq_true (by first | (with_reducible assumption) | assumption)) (of_decide_eq_true (by first | (with_reducible assumption) | assumption)) HC0.out
          have HR280 := Aside0.mk (Kd.C_of_reads (h1 := fun _ => rfl) (hA25 _ (Kd.reads_of_C HR0.out)))
          have HC280 := Aside0.mk hC25
          clear hA25 hC25 hi025 hsz25
          obtain ⟨i026, hi026, _, hsz26, _⟩ := info_parts info5
          obtain ⟨A26, hcut26, hA26, hC26⟩ := print_drop_of (P := Tryz.prog) (Value.int .u8) 0 31 5 .i64 Tryz.underlying31 hi026 hsz26 A0 c0 l0 (ji4) (of_decide_eq_true (by first | (with_reducible assumption) | assumption)) (of_decide_eq_true (by first | (with_reducible assumption) | assumption)) HC0.out
          have HR285 := Aside0.mk (Kd.C_of_reads (h1 := fun _ => rfl) (hA26 _ (Kd.reads_of_C HR0.out)))
          have HC285 := Aside0.mk hC26
          clear hA26 hC26 hi026 hsz26
          refine start_ (n := 14) (S := fun w' => True) (ds := []) #[false, false, false, false, false, false, false, false, false, false, false, false, false, false] (by kernel_rfl) rfl rfl trivial (fun hHeld => ?_); refine with_tabW crc32_Open.tab2 crc32_Open.bits2 (fun HT_ HW_ => ?_)
          generalize w.drew = w24 at HB HR280 HR285 hHeld ⊢
          refine pure_ (i := 0) (N := some 8) (v := ?_) (a' := ?_) #[true, false, false, false, false, false, false, false, false, false, false, false, false, false] rfl rfl (any_of HT_.out (by kernel_rfl)) (fun _ _ _ h => h) (Or.inl ⟨by rfl, ?_⟩) ?_ ?_
          rotate_left
          · intro w'
            go_simp
            with_reducible rfl
          rotate_left
          · simp only [Act.put, List.setIfInBounds_toArray, List.set_cons_zero, List.set_cons_succ, i64_w, i32_w]
            rfl
          refine pure_ (i := 1) (N := some 9) (v := ?_) (a' := ?_) #[true, true, false, false, false, false, false, false, false, false, false, false, false, false] rfl rfl (any_of HT_.out (by kernel_rfl)) (fun _ _ _ h => h) (Or.inl ⟨by rfl, ?_⟩) ?_ ?_
          rotate_left
          · intro w'
            go_simp
            with_reducible rfl
          rotate_left
          · simp only [Act.put, List.setIfInBounds_toArray, List.set_cons_zero, List.set_cons_succ, i64_w, i32_w]
            rfl
          refine pure_ (i := 2) (N := some 10) (v := ?_) (a' := ?_) #[true, true, true, false, false, false, false, false, false, false, false, false, false, false] rfl rfl (any_of HT_.out (by kernel_rfl)) (fun _ _ _ h => h) (Or.inl ⟨by rfl, ?_⟩) ?_ ?_
          rotate_left
          · intro w'
            go_simp
            with_reducible rfl
          rotate_left
          · simp only [Act.put, List.setIfInBounds_toArray, List.set_cons_zero, List.set_cons_succ, i64_w, i32_w]
            rfl
          refine pure_ (i := 3) (N := some 11) (v := ?_) (a' := ?_) #[true, true, true, true, false, false, false, false, false, false, false, false, false, false] rfl rfl (any_of HT_.out (by kernel_rfl)) (fun _ _ _ h => h) (Or.inl ⟨by rfl, ?_⟩) ?_ ?_
          rotate_left
          · intro w'
            go_simp
            with_reducible rfl
          rotate_left
          · simp only [Act.put, List.setIfInBounds_toArray, List.set_cons_zero, List.set_cons_succ, i64_w, i32_w]
            rfl
          refine pure_ (i := 4) (N := some 12) (v := ?_) (a' := ?_) #[true, true, true, true, true, false, false, false, false, false, false, false, false, false] rfl rfl (any_of HT_.out (by kernel_rfl)) (fun _ _ _ h => h) (Or.inl ⟨by rfl, ?_⟩) ?_ ?_
          rotate_left
          · intro w'
            go_simp
            with_reducible rfl
          rotate_left
          · simp only [Act.put, List.setIfInBounds_toArray, List.set_cons_zero, List.set_cons_succ, i64_w, i32_w]
            rfl
          refine pure_ (i := 5) (N := some 13) (v := ?_) (a' := ?_) #[true, true, true, true, true, true, false, false, false, false, false, false, false, false] rfl rfl (any_of HT_.out (by kernel_rfl)) (fun _ _ _ h => h) (Or.inl ⟨by rfl, ?_⟩) ?_ ?_
          rotate_left
          · intro w'
            go_simp
            with_reducible rfl
          rotate_left
          · simp only [Act.put, List.setIfInBounds_toArray, List.set_cons_zero, List.set_cons_succ, i64_w, i32_w]
            rfl
          refine pure_ (i := 8) (N := some 16) (v := ?_) (a' := ?_) #[true, true, true, true, true, true, false, false, true, false, false, false, false, false] rfl rfl (any_of HT_.out (by kernel_rfl)) (fun _ _ _ h => h) (Or.inl ⟨by rfl, ?_⟩) ?_ ?_
          rotate_left
          · intro w'
            go_simp
            with_reducible rfl
          rotate_left
          · simp only [Act.put, List.setIfInBounds_toArray, List.set_cons_zero, List.set_cons_succ, i64_w, i32_w]
            rfl
          refine pure_ (i := 9) (N := some 17) (v := ?_) (a' := ?_) #[true, true, true, true, true, true, false, false, true, true, false, false, false, false] rfl rfl (any_of HT_.out (by kernel_rfl)) (fun _ _ _ h => h) (Or.inl ⟨by rfl, ?_⟩) ?_ ?_
          rotate_left
          · intro w'
            go_simp
            with_reducible rfl
          rotate_left
          · simp only [Act.put, List.setIfInBounds_toArray, List.set_cons_zero, List.set_cons_succ, i64_w, i32_w]
            rfl
          refine pure_ (i := 10) (N := some 18) (v := ?_) (a' := ?_) #[true, true, true, true, true, true, false, false, true, true, true, false, false, false] rfl rfl (any_of HT_.out (by kernel_rfl)) (fun _ _ _ h => h) (Or.inl ⟨by rfl, ?_⟩) ?_ ?_
          rotate_left
          · intro w'
            go_simp
            with_reducible rfl
          rotate_left
          · simp only [Act.put, List.setIfInBounds_toArray, List.set_cons_zero, List.set_cons_succ, i64_w, i32_w]
            rfl
          refine one_ (i := 6) (N := some 14) #[true, true, true, true, true, true, true, false, true, true, true, false, false, false] rfl rfl (one_of HT_.out (by kernel_rfl)) (by decide) (fun K hK => ?_)
          refine goes_ Tryz.func14 (by kernel_rfl) rfl #[.slice A0 (l0.take ((ji4) : Int).toNat).length c0] (by rfl) rfl rfl (by (try simp only [List.map_toArray, List.map_cons, List.map_nil]); first | done | (rw [show (l0.take ((ji4) : Int).toNat).length = (ji4).toNat from (by rw [List.length_take]; have h_ : ((ji4) : Int) ≤ (l0.length : Int) := of_decide_eq_true (by first | (with_reducible assumption) | assumption); omega)] <;> rfl) | (simp only [hji4]; rfl) | rfl | (simp only [List.length_drop, List.length_take]; rfl)) ?_
          with_reducible refine (crc32_Sum.calls _ _ (l0.take ((ji4) : Int).toNat) t281 _ ?side1 ?side2 A7.out).mono ?_
          (case side1 => repeat (first | exact (Kd.C_below HR280.out HB.out) | (with_reducible refine Kd.C_alloc ?_ _) | (with_reducible refine Kd.C_drewN ?_ _) | (with_reducible refine Kd.C_drew ?_)))
          (case side2 => exact HC280.out)
          rintro e w27 ⟨rfl, hb⟩
          refine ⟨_, rfl, ?_⟩
          have n0_ := Aside0.mk (below_step (by repeat (first | (with_reducible first | exact HB.out | apply below_alloc | apply pw_below_drewN | apply below_drew1) | exact HB.out)) hb)
          clear HB
          have HB := n0_
          clear n0_
          (try clear hb)
          (try clear hb2)
          (try clear hk)
          (try clear hi)
          refine hK.out _ _ trivial (fun hHeld => ?_)
          clear hK K
          refine norm_ (a' := ?_) ?_ ?_
          rotate_left
          · show Act.put _ (some 14) _ = _
            simp only [Act.put, List.setIfInBounds_toArray, List.set_cons_zero, List.set_cons_succ, i64_w, i32_w]
            rfl
          refine one_ (i := 7) (N := some 15) #[true, true, true, true, true, true, true, true, true, true, true, false, false, false] rfl rfl (one_of HT_.out (by kernel_rfl)) (by decide) (fun K hK => ?_)
          refine goes_ Tryz.func32 (by kernel_rfl) rfl #[.int .u32 t281] (by rfl) rfl rfl (by (try simp only [List.map_toArray, List.map_cons, List.map_nil]); first | done | rfl | (simp only [List.length_drop, List.length_take]; rfl)) ?_
          with_reducible refine (crc32_bytes.calls k t281 t282 _ A8.out).mono ?_
          rintro e w28 ⟨v283, rfl, ho0, hb⟩
          refine ⟨_, rfl, ?_⟩
          have n0_ := Aside0.mk (Kd.R_lower ho0 (below_size (by repeat (first | (with_reducible first | exact HB.out | apply below_alloc | apply pw_below_drewN | apply below_drew1) | exact HB.out))))
          have n1_ := Aside0.mk (below_step (by repeat (first | (with_reducible first | exact HB.out | apply below_alloc | apply pw_below_drewN | apply below_drew1) | exact HB.out)) hb)
          clear HB
          have HO284 := n0_
          have HB := n1_
          clear n0_ n1_
          (try clear hb)
          (try clear hb2)
          (try clear hk)
          (try clear hi)
          (try clear ho0)
          obtain ⟨Ao29, co29, eo29⟩ := Kd.R_slice HO284.out
          (first | subst eo29 | (injection eo29 with f1_ f2_ f3_; have f4_ := f1_.symm; have f5_ := f3_.symm; clear f1_ f2_ f3_; subst f4_; subst f5_))
          refine hK.out _ _ trivial (fun hHeld => ?_)
          clear hK K
          refine norm_ (a' := ?_) ?_ ?_
          rotate_left
          · show Act.put _ (some 15) _ = _
            simp only [Act.put, List.setIfInBounds_toArray, List.set_cons_zero, List.set_cons_succ, i64_w, i32_w]
            rfl
          refine one_ (i := 11) (N := some 19) #[true, true, true, true, true, true, true, true, true, true, true, true, false, false] rfl rfl (one_of HT_.out (by kernel_rfl)) (by decide) (fun K hK => ?_)
          refine goes_ Tryz.func89 (by kernel_rfl) rfl #[.slice Ao29 t282.length co29, .slice A26 (l0.drop ((ji4) : Int).toNat).length (c0 - (ji4).toNat)] (by rfl) rfl rfl (by (try simp only [List.map_toArray, List.map_cons, List.map_nil]); first | done | (rw [show (l0.drop ((ji4) : Int).toNat).length = (l0.length - (ji4).toNat) from List.length_drop] <;> rfl) | (simp only [hji4]; rfl) | rfl | (simp only [List.length_drop, List.length_take]; rfl)) ?_
          with_reducible refine (slices_Equal_byte_byte.calls k _ _ t282 _ _ (l0.drop ((ji4) : Int).toNat) false _ ?side1 ?side2 ?side3 ?side4 A11.out).mono ?_
          (case side1 => repeat (first | exact (Kd.R_reads' HO284.out).2.2 | (with_reducible refine Kd.C_alloc ?_ _) | (with_reducible refine Kd.C_drewN ?_ _) | (with_reducible refine Kd.C_drew ?_)))
          (case side2 => exact (Kd.R_reads' HO284.out).2.1)
          (case side3 => repeat (first | exact (Kd.C_below HR285.out HB.out) | (with_reducible refine Kd.C_alloc ?_ _) | (with_reducible refine Kd.C_drewN ?_ _) | (with_reducible refine Kd.C_drew ?_)))
          (case side4 => exact HC285.out)
          rintro e w' ⟨rfl, ⟨nd, rfl⟩⟩
          refine ⟨_, rfl, ?_⟩
          refine hK.out _ _ trivial (fun hHeld => ?_)
          clear hK K
          refine norm_ (a' := ?_) ?_ ?_
          rotate_left
          · show Act.put _ (some 19) _ = _
            simp only [Act.put, List.setIfInBounds_toArray, List.set_cons_zero, List.set_cons_succ, i64_w, i32_w]
            rfl
          refine pure_ (i := 12) (N := some 20) (v := ?_) (a' := ?_) #[true, true, true, true, true, true, true, true, true, true, true, true, true, false] rfl rfl (any_of HT_.out (by kernel_rfl)) (fun _ _ _ h => h) (Or.inl ⟨by rfl, ?_⟩) ?_ ?_
          rotate_left
          · intro w'
            go_simp
            with_reducible rfl
          rotate_left
          · simp only [Act.put, List.setIfInBounds_toArray, List.set_cons_zero, List.set_cons_succ, i64_w, i32_w]
            rfl
          refine pure_ (i := 13) (N := some 21) (v := ?_) (a' := ?_) #[true, true, true, true, true, true, true, true, true, true, true, true, true, true] rfl rfl (any_of HT_.out (by kernel_rfl)) (fun _ _ _ h => h) (Or.inl ⟨by rfl, ?_⟩) ?_ ?_
          rotate_left
          · intro w'
            go_simp
            with_reducible rfl
          rotate_left
          · simp only [Act.put, List.setIfInBounds_toArray, List.set_cons_zero, List.set_cons_succ, i64_w, i32_w]
            rfl
          refine done_ (done_of HT_.out (by kernel_rfl)) ?_
          try go_wp2
          go_ret2
          exact ⟨_, by first | rfl | (simp [errW_none, errW_some] <;> rfl) | (simp only [← hji4]; first | rfl | (simp [errW_none, errW_some] <;> rfl)) | (simp [*, errW_none, errW_some] <;> rfl), by first | exact Kd.R_nil _ _ _ _ _ | exact Kd.N_nil _ _ _ _ _ | exact Kd.V_nil _ _ _ _ _ | exact Kd.Q_nil _ _ _ _ _ | exact Kd.S_nil _ _ _ _ _, by repeat (first | (with_reducible first | exact HB.out | apply below_alloc | apply pw_below_drewN | apply below_drew1) | exact HB.out)⟩
      · rw [if_neg c6] at H
        exact absurd H (by simp)
    · rw [if_neg c5] at H
      exact absurd H (by simp)
end
-- YtknanbnjbilciaaGreatDoorP9
section
attribute [local go_sem] max2_int min2_int max_two min_two max_three min_three max_four min_four
set_option linter.unusedVariables false
set_option linter.unusedSimpArgs false

/-! ### crc32_Close: function 16 -/
def crc32_Close.f (k : Nat) (l0 : List Int) : Option (List Int) := (slices_Clone_byte_byte.f l0).bind fun t115 => ((crc32_Sum.f l0).bind fun t118 => ((crc32_bytes.f k t118).bind fun t119 => (if t115.length + t119.length < 140737488355328 then (some (t115 ++ t119)) else (none))))
theorem crc32_Close.mono : ∀ a0 k, LeO (crc32_Close.f k a0) (crc32_Close.f (k + 1) a0) := by
  intro a0 k
  unfold crc32_Close.f
  repeat' first
      | (with_reducible exact crc32_bytes.mono _ _)
      | (with_reducible exact LeO.refl _)
      | (with_reducible exact LeO.none _)
      | (with_reducible refine LeO.ite ?_ ?_)
      | (with_reducible refine LeO.bind ?_ (fun _ => ?_))
      | exact crc32_bytes.mono _ _
      | exact LeO.none _
      | refine LeO.ite ?_ ?_
      | refine LeO.bind ?_ (fun _ => ?_)
set_option maxHeartbeats 8000000 in
set_option maxRecDepth 100000 in
theorem crc32_Close.calls (k : Nat) (A0 : Option Addr) (c0 : Nat) (l0 : List Int) (r : List Int) (w : World) (hr0 : Kd.C (Kd.int .u8) w A0 l0.length l0) (hc0 : l0.length ≤ c0) (h : crc32_Close.f k l0 = some r) :
    Calls Tryz.prog 16 #[.slice A0 l0.length c0] w fun e w' => ∃ v0_ : Value, e = .returned (v0_) ∧ Kd.R (Kd.int .u8) 5 w' w.heap.size (fun _ => True) v0_ r ∧ Below w.heap.size w w' := by
  have HR0 := Aside0.mk hr0
  have HC0 := Aside0.mk hc0
  clear hr0 hc0
  have HB := Aside0.mk (Below.refl w.heap.size w)
  have H : ((slices_Clone_byte_byte.f l0).bind fun t115 => ((crc32_Sum.f l0).bind fun t118 => ((crc32_bytes.f k t118).bind fun t119 => (if t115.length + t119.length < 140737488355328 then (some (t115 ++ t119)) else (none))))) = some r := h
  clear h
  replace H := Option.bind_eq_some_iff.mp H
  obtain ⟨t115, A20, H⟩ := H
  replace H : ((crc32_Sum.f l0).bind fun t118 => ((crc32_bytes.f k t118).bind fun t119 => (if t115.length + t119.length < 140737488355328 then (some (t115 ++ t119)) else (none)))) = some r := H
  have A2 := Aside0.mk A20
  clear A20
  replace H := Option.bind_eq_some_iff.mp H
  obtain ⟨t118, A30, H⟩ := H
  replace H : ((crc32_bytes.f k t118).bind fun t119 => (if t115.length + t119.length < 140737488355328 then (some (t115 ++ t119)) else (none))) = some r := H
  have A3 := Aside0.mk A30
  clear A30
  replace H := Option.bind_eq_some_iff.mp H
  obtain ⟨t119, A40, H⟩ := H
  replace H : (if t115.length + t119.length < 140737488355328 then (some (t115 ++ t119)) else (none)) = some r := H
  have A4 := Aside0.mk A40
  clear A40
  by_cases c5 : t115.length + t119.length < 140737488355328
  · rw [if_pos c5] at H
    have LMc5 := Aside0.mk c5
    clear c5
    obtain ⟨y122, hy122⟩ : ∃ y_ : List Int, y_ = (t115 ++ t119) := ⟨_, rfl⟩
    replace H : (some y122) = some r := by first | (rw [hy122]; with_reducible exact H) | (have H2_ := (Option.bind_some _ _).symm.trans H; rw [hy122]; with_reducible exact H2_) | (have H2_ := (Option.bind_some _ _).symm.trans H; with_reducible exact H2_) | with_reducible exact H | (rw [hy122]; exact H) | exact H
    have Ny122 := Aside0.mk hy122
    clear hy122
    obtain rfl := Option.some.inj H
    go_enter Tryz.func16, Tryz.ntmps16
    go_wp2_with (first | ((with_reducible refine gate_callee (f := 31) rfl ?_); refine goesL_ (some 4) rfl rfl Tryz.func31 (by kernel_rfl) rfl #[.slice A0 l0.length c0] rfl (by (try simp only [List.map_toArray, List.map_cons, List.map_nil]); first | done | rfl | (simp only [List.length_drop, List.length_take]; rfl)) ?_; (with_reducible refine (slices_Clone_byte_byte.calls _ _ l0 t115 _ ?side1 ?side2 A2.out).mono ?_); (case side1 => repeat (first | exact HR0.out | (with_reducible refine Kd.C_alloc ?_ _) | (with_reducible refine Kd.C_drewN ?_ _) | (with_reducible refine Kd.C_drew ?_))); (case side2 => exact HC0.out); rintro e w6 ⟨v116, rfl, ho0, hb⟩; refine ⟨_, rfl, ?_⟩; have n0_ := Aside0.mk (Kd.R_lower ho0 (below_size (by repeat (first | (with_reducible first | exact HB.out | apply below_alloc | apply pw_below_drewN | apply below_drew1) | exact HB.out)))); have n1_ := Aside0.mk (below_step (by repeat (first | (with_reducible first | exact HB.out | apply below_alloc | apply pw_below_drewN | apply below_drew1) | exact HB.out)) hb); clear HB; have HO117 := n0_; have HB := n1_; clear n0_ n1_; (try clear hb); (try clear hb2); (try clear hk); (try clear hi); (try clear ho0)) | ((with_reducible refine gate_callee (f := 14) rfl ?_); refine goesL_ (some 6) rfl rfl Tryz.func14 (by kernel_rfl) rfl #[.slice A0 l0.length c0] rfl (by (try simp only [List.map_toArray, List.map_cons, List.map_nil]); first | done | rfl | (simp only [List.length_drop, List.length_take]; rfl)) ?_; (with_reducible refine (crc32_Sum.calls _ _ l0 t118 _ ?side1 ?side2 A3.out).mono ?_); (case side1 => repeat (first | exact (Kd.C_below HR0.out HB.out) | (with_reducible refine Kd.C_alloc ?_ _) | (with_reducible refine Kd.C_drewN ?_ _) | (with_reducible refine Kd.C_drew ?_))); (case side2 => exact HC0.out); rintro e w7 ⟨rfl, hb⟩; refine ⟨_, rfl, ?_⟩; have n0_ := Aside0.mk (Kd.R_below (by (with_reducible repeat (first | apply Kd.R_alloc | apply Kd.R_drewN | apply Kd.R_drew)); exact HO117.out) hb); have n1_ := Aside0.mk (below_step (by repeat (first | (with_reducible first | exact HB.out | apply below_alloc | apply pw_below_drewN | apply below_drew1) | exact HB.out)) hb); clear HO117; clear HB; have HO117 := n0_; have HB := n1_; clear n0_ n1_; (try clear hb); (try clear hb2); (try clear hk); (try clear hi)) | ((with_reducible refine gate_callee (f := 32) rfl ?_); refine goesL_ (some 7) rfl rfl Tryz.func32 (by kernel_rfl) rfl #[.int .u32 t118] rfl (by (try simp only [List.map_toArray, List.map_cons, List.map_nil]); first | done | rfl | (simp only [List.length_drop, List.length_take]; rfl)) ?_; (with_reducible refine (crc32_bytes.calls k t118 t119 _ A4.out).mono ?_); rintro e w8 ⟨v120, rfl, ho0, hb⟩; refine ⟨_, rfl, ?_⟩; have n0_ := Aside0.mk (Kd.R_elder' (by (with_reducible repeat (first | apply Kd.R_alloc | apply Kd.R_drewN | apply Kd.R_drew)); exact HO117.out) (Kd.R_base ho0) hb); have n1_ := Aside0.mk (Kd.R_lower (Kd.R_new' ho0 (Kd.R_lt (by (with_reducible repeat (first | apply Kd.R_alloc | apply Kd.R_drewN | apply Kd.R_drew)); exact HO117.out))) (below_size (by repeat (first | (with_reducible first | exact HB.out | apply below_alloc | apply pw_below_drewN | apply below_drew1) | exact HB.out)))); have n2_ := Aside0.mk (below_step (by repeat (first | (with_reducible first | exact HB.out | apply below_alloc | apply pw_below_drewN | apply below_drew1) | exact HB.out)) hb); clear HO117; clear HB; have HO117 := n0_; have HO121 := n1_; have HB := n2_; clear n0_ n1_ n2_; (try clear hb); (try clear hb2); (try clear hk); (try clear hi); (try clear ho0); obtain ⟨Ao10, co10, eo10⟩ := Kd.R_slice HO121.out; subst eo10) | ((with_reducible refine gate_builtin (b := .append) (xs := #[.tmp 4, .tmp 7]) rfl ?_); at_builtin; refine Kd.R_append_rows (Kd.int .u8) (w0 := w) w.heap.size rfl (.tmp 4) (.tmp 7) 31 5 (.int .u8 0) 1 rfl Tryz.underlying31 info5 rfl (by decide) (by omega) v116 t115 t119 _ _ _ (fun k_ => some k_ ≠ (.slice Ao10 t119.length co10 : Value).ownBlock) (fun _ => False) rfl rfl ?aO ?aR (fun _ _ h => h) (fun _ h => h.elim) ?aF ?aB ?aS ?aL ?_; (case aR => repeat (first | exact (Kd.R_reads' HO121.out).2.2 | (with_reducible refine Kd.C_alloc ?_ _) | (with_reducible refine Kd.C_drewN ?_ _) | (with_reducible refine Kd.C_drew ?_))); (case aB => exact (by repeat (first | (with_reducible first | exact HB.out | apply below_alloc | apply pw_below_drewN | apply below_drew1) | exact HB.out))); (case aF => exact (fun k_ hk => Kd.fresh' (Kd.R_lt (by (with_reducible repeat (first | apply Kd.R_alloc | apply Kd.R_drewN | apply Kd.R_drew)); exact HO121.out)) k_ hk)); (case aO => exact (by (with_reducible repeat (first | apply Kd.R_alloc | apply Kd.R_drewN | apply Kd.R_drew)); exact Kd.R_mono HO117.out (fun _ hk => hk.2))); (case aS => exact (below_size (by repeat (first | (with_reducible first | exact HB.out | apply below_alloc | apply pw_below_drewN | apply below_drew1) | exact HB.out)))); (case aL => have := LMc5.out; omega); intro v123 w9 ho hb hg hat; rw [← Ny122.out] at ho; have n0_ := Aside0.mk (Kd.R_after (ok := (fun _ => True)) (by (with_reducible repeat (first | apply Kd.R_alloc | apply Kd.R_drewN | apply Kd.R_drew)); exact HO121.out) hg hat); have n1_ := Aside0.mk (hb); have n2_ := Aside0.mk (ho); clear HO121; clear HB; clear HO117; have HO121 := n0_; have HB := n1_; have HO124 := n2_; clear n0_ n1_ n2_; clear ho hb hg hat))
    go_ret
    exact ⟨_, by first | rfl | (simp [errW_none, errW_some] <;> rfl) | (simp [*, errW_none, errW_some] <;> rfl), by (with_reducible repeat (first | apply Kd.R_alloc | apply Kd.R_drewN | apply Kd.R_drew)); exact Kd.R_mono HO124.out (fun _ hk => trivial), by repeat (first | (with_reducible first | exact HB.out | apply below_alloc | apply pw_below_drewN | apply below_drew1) | exact HB.out)⟩
  · rw [if_neg c5] at H
    exact absurd H (by simp)
end
end Go.Proofs.YtknanbnjbilciaaGreatDoor.P
namespace Go.Proofs.YtknanbnjbilciaaGreatDoor.P
open Go Go.RowKit Go.Proofs.YtknanbnjbilciaaGreatDoorW.PrintWords Go.Proofs.YtknanbnjbilciaaGreatDoorW.PrintLast Go.Proofs.YtknanbnjbilciaaGreatDoorW.PrintMore
set_option linter.unusedVariables false
-- YtknanbnjbilciaaGreatDoorPK32
def byt (l : List Int) : Prop := ∀ x ∈ l, 0 ≤ x ∧ x ≤ 255
theorem byt_all {l : List Int} (h : byt l) : l.all (fun x => decide (0 ≤ x ∧ x ≤ 255)) = true := by
  rw [List.all_eq_true]; intro x hx; exact decide_eq_true (h x hx)
theorem csum_f {l : List Int} (h : byt l) (hl : l.length ≤ 1000) : crc32_Sum.f l = some ((sum32 l).toNat : Int) := by
  unfold crc32_Sum.f; rw [if_pos ⟨byt_all h, by omega⟩]
/-- A sum's four bytes, the lowest first. -/
def four (n : Nat) : List Int := [((n % 256 : Nat) : Int), ((n / 256 % 256 : Nat) : Int), ((n / 65536 % 256 : Nat) : Int), ((n / 16777216 % 256 : Nat) : Int)]
theorem four_byt (n : Nat) : byt (four n) := by
  intro x hx
  simp only [four, List.mem_cons, List.not_mem_nil, or_false] at hx
  rcases hx with rfl | rfl | rfl | rfl <;> omega
theorem bytes_f (n : Nat) (k : Nat) (hk : 5 ≤ k) : crc32_bytes.f k (n : Int) = some (four n) := by
  obtain ⟨k, rfl⟩ : ∃ m, k = m + 5 := ⟨k - 5, by omega⟩
  unfold crc32_bytes.f
  have e1 : wrap64 (0 + 1) = 1 := by decide +kernel
  have e2 : wrap64 (1 + 1) = 2 := by decide +kernel
  have e3 : wrap64 (2 + 1) = 3 := by decide +kernel
  have e4 : wrap64 (3 + 1) = 4 := by decide +kernel
  rw [show k + 5 = (k + 4) + 1 from rfl, crc32_bytes.l0.eq_2, if_pos (by decide), if_pos (by decide), e1]
  rw [show k + 4 = (k + 3) + 1 from rfl, crc32_bytes.l0.eq_2, if_pos (by decide), if_pos (by simp only [List.length_append, List.length_cons, List.length_nil]; decide), e2]
  rw [show k + 3 = (k + 2) + 1 from rfl, crc32_bytes.l0.eq_2, if_pos (by decide), if_pos (by simp only [List.length_append, List.length_cons, List.length_nil]; decide), e3]
  rw [show k + 2 = (k + 1) + 1 from rfl, crc32_bytes.l0.eq_2, if_pos (by decide), if_pos (by simp only [List.length_append, List.length_cons, List.length_nil]; decide), e4]
  rw [crc32_bytes.l0.eq_2, if_neg (by decide)]
  unfold four
  simp only [List.nil_append, List.cons_append]
  refine congrArg some ?_
  have t1 : (n : Int) % 256 = ((n % 256 : Nat) : Int) := by omega
  have t2 : (n : Int) / 256 % 256 = ((n / 256 % 256 : Nat) : Int) := by omega
  have t3 : (n : Int) / 256 / 256 % 256 = ((n / 65536 % 256 : Nat) : Int) := by omega
  have t4 : (n : Int) / 256 / 256 / 256 % 256 = ((n / 16777216 % 256 : Nat) : Int) := by omega
  rw [t1, t2, t3, t4]
theorem close_f {l : List Int} (h : byt l) (hl : l.length ≤ 1000) (k : Nat) (hk : 5 ≤ k) : crc32_Close.f k l = some (l ++ four (sum32 l).toNat) := by
  unfold crc32_Close.f slices_Clone_byte_byte.f
  rw [if_pos (by omega), Option.bind_some, csum_f h hl, Option.bind_some, bytes_f _ k hk, Option.bind_some, if_pos (by show l.length + 4 < _; omega)]
theorem equal_l0 (a b : List Int) (hl : a.length = b.length) (hm : a.length ≤ 1000) (d : Nat) : ∀ k i : Nat, i + d = a.length → d < k → slices_Equal_byte_byte.l0 k a b (a.length : Int) (i : Int) = some (decide (a.drop i = b.drop i)) := by
  induction d with
  | zero =>
    intro k i hi hk
    obtain ⟨k, rfl⟩ := pred hk
    rw [slices_Equal_byte_byte.l0.eq_2, if_neg (by omega), List.drop_eq_nil_of_le (by omega), List.drop_eq_nil_of_le (by omega)]; rfl
  | succ d ih =>
    intro k i hi hk
    obtain ⟨k, rfl⟩ := pred hk
    have hn := ih k (i + 1) (by omega) (by omega)
    rw [slices_Equal_byte_byte.l0.eq_2, if_pos (by omega), if_pos (by omega), if_pos (by omega), if_pos (by omega), rd_get a i (by omega), rd_get b i (by omega), drop_cons a i (by omega), drop_cons b i (by omega)]
    by_cases e : a[i] = b[i]
    · rw [if_pos e, wrap_succ i (by omega), hn]
      refine congrArg some (decide_eq_decide.2 ?_)
      rw [← e]
      exact ⟨fun h => by rw [h], fun h => by injection h⟩
    · rw [if_neg e, decide_eq_false]
      intro h; injection h with h1 _; exact e h1
theorem equal_f (a b : List Int) (hm : a.length ≤ 1000) (k : Nat) (hk : a.length < k) : slices_Equal_byte_byte.f k a b = some (decide (a = b)) := by
  unfold slices_Equal_byte_byte.f
  by_cases e : a.length = b.length
  · rw [if_pos (by omega)]
    have := equal_l0 a b e hm a.length k 0 (by omega) hk
    simpa using this
  · rw [if_neg (by omega), decide_eq_false]
    intro h; exact e (by rw [h])
/-- Is it a closed text? -/
def closed (l : List Int) : Prop := 4 ≤ l.length ∧ four (sum32 (l.take (l.length - 4))).toNat = l.drop (l.length - 4)
instance (l : List Int) : Decidable (closed l) := by unfold closed; infer_instance
theorem open_f {l : List Int} (h : byt l) (hl : l.length ≤ 1000) (k : Nat) (hk : 5 ≤ k) : crc32_Open.f k l = some (if closed l then (l.take (l.length - 4), true) else ([], false)) := by
  unfold crc32_Open.f
  rw [wrap_in (by omega) (by omega)]
  by_cases h4 : 4 ≤ l.length
  · have e : ((l.length : Int) - 4).toNat = l.length - 4 := by omega
    have ht : byt (l.take (l.length - 4)) := fun x hx => h x (List.mem_of_mem_take hx)
    rw [if_neg (by omega), if_pos (by omega), if_pos (by omega), e, csum_f ht (by rw [List.length_take]; omega), Option.bind_some, bytes_f _ k hk, Option.bind_some, equal_f _ _ (by show 4 ≤ _; omega) k (by show 4 < _; omega), Option.bind_some]
    by_cases c : four (sum32 (l.take (l.length - 4))).toNat = l.drop (l.length - 4)
    · rw [decide_eq_true c, if_pos rfl, if_pos ⟨h4, c⟩]
      unfold slices_Clone_byte_byte.f
      rw [if_pos (by rw [List.length_take]; omega), Option.bind_some]
    · rw [decide_eq_false c, if_neg (by decide), if_neg (fun z => c z.2)]
  · rw [if_pos (by omega), if_neg (fun z => h4 z.1)]
end Go.Proofs.YtknanbnjbilciaaGreatDoor.P
namespace Go.Proofs.YtknanbnjbilciaaGreatDoor.P
open Go.RowKit Go.Proofs.YtknanbnjbilciaaGreatDoorW.PrintWords Go.Proofs.YtknanbnjbilciaaGreatDoorW.PrintLast Go.Proofs.YtknanbnjbilciaaGreatDoorW.PrintMore
-- YtknanbnjbilciaaGreatDoorP104
section
attribute [local go_sem] max2_int min2_int max_two min_two max_three min_three max_four min_four
set_option linter.unusedVariables false
set_option linter.unusedSimpArgs false

/-! ### harq_open: function 27 -/
def harq_open.f (k : Nat) (l0 : List Int) (a1 : Int) : Option (List Int × Bool) := if a1 = 0 then ((bits_Bytes.f k l0).bind fun bt291 => (if bt291.2 = 0 then ((crc32_Open.f k bt291.1).bind fun bt295 => (some (bt295.1, bt295.2))) else (some (([] : List Int), false)))) else (some (([] : List Int), false))
theorem harq_open.mono : ∀ a0 a1 k, LeO (harq_open.f k a0 a1) (harq_open.f (k + 1) a0 a1) := by
  intro a0 a1 k
  unfold harq_open.f
  repeat' first
      | (with_reducible exact bits_Bytes.mono _ _)
      | (with_reducible exact crc32_Open.mono _ _)
      | (with_reducible exact LeO.refl _)
      | (with_reducible exact LeO.none _)
      | (with_reducible refine LeO.ite ?_ ?_)
      | (with_reducible refine LeO.bind ?_ (fun _ => ?_))
      | exact bits_Bytes.mono _ _
      | exact crc32_Open.mono _ _
      | exact LeO.none _
      | refine LeO.ite ?_ ?_
      | refine LeO.bind ?_ (fun _ => ?_)
set_option maxHeartbeats 8000000 in
set_option maxRecDepth 100000 in
theorem harq_open.calls (k : Nat) (A0 : Option Addr) (c0 : Nat) (l0 : List Int) (a1 : Int) (r1 : List Int) (r2 : Bool) (w : World) (hr0 : Kd.C (Kd.int .u8) w A0 l0.length l0) (hc0 : l0.length ≤ c0) (h : harq_open.f k l0 a1 = some (r1, r2)) :
    Calls Tryz.prog 27 #[.slice A0 l0.length c0, .int .i64 a1] w fun e w' => ∃ v0_ : Value, e = .returned (.tuple #[v0_, .bool r2]) ∧ Kd.R (Kd.int .u8) 5 w' w.heap.size (fun _ => True) v0_ r1 ∧ Below w.heap.size w w' := by
  have HR0 := Aside0.mk hr0
  have HC0 := Aside0.mk hc0
  clear hr0 hc0
  have HB := Aside0.mk (Below.refl w.heap.size w)
  have H : (if a1 = 0 then ((bits_Bytes.f k l0).bind fun bt291 => (if bt291.2 = 0 then ((crc32_Open.f k bt291.1).bind fun bt295 => (some (bt295.1, bt295.2))) else (some (([] : List Int), false)))) else (some (([] : List Int), false))) = some (r1, r2) := h
  clear h
  by_cases c3 : a1 = 0
  · rw [if_pos c3] at H
    have c3b0 : (a1 == 0) = true := beq_iff_eq.mpr c3
    have c3b1 : (a1 != 0) = false := bne_eq_false_iff_eq.mpr c3
    clear c3
    replace H := Option.bind_eq_some_iff.mp H
    obtain ⟨⟨t291, t292⟩, A40, H⟩ := H
    replace H : (if t292 = 0 then ((crc32_Open.f k t291).bind fun bt295 => (some (bt295.1, bt295.2))) else (some (([] : List Int), false))) = some (r1, r2) := H
    have A4 := Aside0.mk A40
    clear A40
    by_cases c5 : t292 = 0
    · rw [if_pos c5] at H
      have c5b0 : (t292 == 0) = true := beq_iff_eq.mpr c5
      have c5b1 : (t292 != 0) = false := bne_eq_false_iff_eq.mpr c5
      clear c5
      replace H := Option.bind_eq_some_iff.mp H
      obtain ⟨⟨t295, t296⟩, A60, H⟩ := H
      replace H : (some (t295, t296)) = some (r1, r2) := H
      have A6 := Aside0.mk A60
      clear A60
      simp only [Option.some.injEq, Prod.mk.injEq] at H
      obtain ⟨rfl, rfl⟩ := H
      go_enter Tryz.func27, Tryz.ntmps27
      go_wp2_with (first | ((with_reducible refine gate_callee (f := 38) rfl ?_); refine goesL_ (some 11) rfl rfl Tryz.func38 (by kernel_rfl) rfl #[.slice A0 l0.length c0] rfl (by (try simp only [List.map_toArray, List.map_cons, List.map_nil]); first | done | rfl | (simp only [List.length_drop, List.length_take]; rfl)) ?_; (with_reducible refine (bits_Bytes.calls k _ _ l0 t291 t292 _ ?side1 ?side2 A4.out).mono ?_); (case side1 => repeat (first | exact HR0.out | (with_reducible refine Kd.C_alloc ?_ _) | (with_reducible refine Kd.C_drewN ?_ _) | (with_reducible refine Kd.C_drew ?_))); (case side2 => exact HC0.out); rintro e w7 ⟨v293, rfl, ho0, hb⟩; refine ⟨_, rfl, ?_⟩; have n0_ := Aside0.mk (Kd.R_lower ho0 (below_size (by repeat (first | (with_reducible first | exact HB.out | apply below_alloc | apply pw_below_drewN | apply below_drew1) | exact HB.out)))); have n1_ := Aside0.mk (below_step (by repeat (first | (with_reducible first | exact HB.out | apply below_alloc | apply pw_below_drewN | apply below_drew1) | exact HB.out)) hb); clear HB; have HO294 := n0_; have HB := n1_; clear n0_ n1_; (try clear hb); (try clear hb2); (try clear hk); (try clear hi); (try clear ho0); obtain ⟨Ao8, co8, eo8⟩ := Kd.R_slice HO294.out; subst eo8) | ((with_reducible refine gate_callee (f := 60) rfl ?_); refine goesL_ (some 17) rfl rfl Tryz.func60 (by kernel_rfl) rfl #[.slice Ao8 t291.length co8] rfl (by (try simp only [List.map_toArray, List.map_cons, List.map_nil]); first | done | rfl | (simp only [List.length_drop, List.length_take]; rfl)) ?_; (with_reducible refine (crc32_Open.calls k _ _ t291 t295 t296 _ ?side1 ?side2 A6.out).mono ?_); (case side1 => repeat (first | exact (Kd.R_reads' HO294.out).2.2 | (with_reducible refine Kd.C_alloc ?_ _) | (with_reducible refine Kd.C_drewN ?_ _) | (with_reducible refine Kd.C_drew ?_))); (case side2 => exact (Kd.R_reads' HO294.out).2.1); rintro e w9 ⟨v297, rfl, ho0, hb⟩; refine ⟨_, rfl, ?_⟩; have n0_ := Aside0.mk (Kd.R_elder' (by (with_reducible repeat (first | apply Kd.R_alloc | apply Kd.R_drewN | apply Kd.R_drew)); exact HO294.out) (Kd.R_base ho0) hb); have n1_ := Aside0.mk (Kd.R_lower (Kd.R_new' ho0 (Kd.R_lt (by (with_reducible repeat (first | apply Kd.R_alloc | apply Kd.R_drewN | apply Kd.R_drew)); exact HO294.out))) (below_size (by repeat (first | (with_reducible first | exact HB.out | apply below_alloc | apply pw_below_drewN | apply below_drew1) | exact HB.out)))); have n2_ := Aside0.mk (below_step (by repeat (first | (with_reducible first | exact HB.out | apply below_alloc | apply pw_below_drewN | apply below_drew1) | exact HB.out)) hb); clear HO294; clear HB; have HO294 := n0_; have HO298 := n1_; have HB := n2_; clear n0_ n1_ n2_; (try clear hb); (try clear hb2); (try clear hk); (try clear hi); (try clear ho0)))
      go_ret2
      exact ⟨_, by first | rfl | (simp [errW_none, errW_some] <;> rfl) | (simp [*, errW_none, errW_some] <;> rfl), by (with_reducible repeat (first | apply Kd.R_alloc | apply Kd.R_drewN | apply Kd.R_drew)); exact Kd.R_mono HO298.out (fun _ hk => trivial), by repeat (first | (with_reducible first | exact HB.out | apply below_alloc | apply pw_below_drewN | apply below_drew1) | exact HB.out)⟩
    · rw [if_neg c5] at H
      have c5b0 : (t292 == 0) = false := beq_eq_false_iff_ne.mpr c5
      have c5b1 : (t292 != 0) = true := bne_iff_ne.mpr c5
      simp only [Option.some.injEq, Prod.mk.injEq] at H
      obtain ⟨rfl, rfl⟩ := H
      go_enter Tryz.func27, Tryz.ntmps27
      go_wp2_with (first | ((with_reducible refine gate_callee (f := 38) rfl ?_); refine goesL_ (some 11) rfl rfl Tryz.func38 (by kernel_rfl) rfl #[.slice A0 l0.length c0] rfl (by (try simp only [List.map_toArray, List.map_cons, List.map_nil]); first | done | rfl | (simp only [List.length_drop, List.length_take]; rfl)) ?_; (with_reducible refine (bits_Bytes.calls k _ _ l0 t291 t292 _ ?side1 ?side2 A4.out).mono ?_); (case side1 => repeat (first | exact HR0.out | (with_reducible refine Kd.C_alloc ?_ _) | (with_reducible refine Kd.C_drewN ?_ _) | (with_reducible refine Kd.C_drew ?_))); (case side2 => exact HC0.out); rintro e w10 ⟨v293, rfl, ho0, hb⟩; refine ⟨_, rfl, ?_⟩; have n0_ := Aside0.mk (Kd.R_lower ho0 (below_size (by repeat (first | (with_reducible first | exact HB.out | apply below_alloc | apply pw_below_drewN | apply below_drew1) | exact HB.out)))); have n1_ := Aside0.mk (below_step (by repeat (first | (with_reducible first | exact HB.out | apply below_alloc | apply pw_below_drewN | apply below_drew1) | exact HB.out)) hb); clear HB; have HO294 := n0_; have HB := n1_; clear n0_ n1_; (try clear hb); (try clear hb2); (try clear hk); (try clear hi); (try clear ho0)))
      go_ret2
      exact ⟨_, by first | rfl | (simp [errW_none, errW_some] <;> rfl) | (simp [*, errW_none, errW_some] <;> rfl), by first | exact Kd.R_nil _ _ _ _ _ | exact Kd.N_nil _ _ _ _ _ | exact Kd.V_nil _ _ _ _ _ | exact Kd.Q_nil _ _ _ _ _ | exact Kd.S_nil _ _ _ _ _, by repeat (first | (with_reducible first | exact HB.out | apply below_alloc | apply pw_below_drewN | apply below_drew1) | exact HB.out)⟩
  · rw [if_neg c3] at H
    have c3b0 : (a1 == 0) = false := beq_eq_false_iff_ne.mpr c3
    have c3b1 : (a1 != 0) = true := bne_iff_ne.mpr c3
    simp only [Option.some.injEq, Prod.mk.injEq] at H
    obtain ⟨rfl, rfl⟩ := H
    go_enter Tryz.func27, Tryz.ntmps27
    go_wp2
    go_ret2
    exact ⟨_, by first | rfl | (simp [errW_none, errW_some] <;> rfl) | (simp [*, errW_none, errW_some] <;> rfl), by first | exact Kd.R_nil _ _ _ _ _ | exact Kd.N_nil _ _ _ _ _ | exact Kd.V_nil _ _ _ _ _ | exact Kd.Q_nil _ _ _ _ _ | exact Kd.S_nil _ _ _ _ _, by repeat (first | (with_reducible first | exact HB.out | apply below_alloc | apply pw_below_drewN | apply below_drew1) | exact HB.out)⟩
end
-- YtknanbnjbilciaaGreatDoorP66
section
attribute [local go_sem] max2_int min2_int max_two min_two max_three min_three max_four min_four
set_option linter.unusedVariables false
set_option linter.unusedSimpArgs false

/-! ### harq_within: function 52 -/
def harq_within.f (a0 : Int) : Option (Bool) := if a0 ≥ 0 then (some (decide (a0 ≤ 64))) else (some false)
set_option maxHeartbeats 8000000 in
set_option maxRecDepth 100000 in
theorem harq_within.calls (a0 : Int) (r : Bool) (w : World) (h : harq_within.f a0 = some r) :
    Calls Tryz.prog 52 #[.int .i64 a0] w fun e w' => e = .returned (.bool r) ∧ Drawn0 w w' := by
  have H : (if a0 ≥ 0 then (some (decide (a0 ≤ 64))) else (some false)) = some r := h
  clear h
  by_cases c2 : a0 ≥ 0
  · rw [if_pos c2] at H
    have c2b0 : decide (0 ≤ a0) = true := decide_eq_true c2
    clear c2
    obtain rfl := Option.some.inj H
    go_enter Tryz.func52, Tryz.ntmps52
    go_wp2
    go_ret
    exact ⟨by first | rfl | (simp; done) | (simp [*]; done), by repeat (first | exact Drawn0.refl _ | apply Drawn0.step)⟩
  · rw [if_neg c2] at H
    have c2b0 : decide (0 ≤ a0) = false := decide_eq_false c2
    clear c2
    obtain rfl := Option.some.inj H
    go_enter Tryz.func52, Tryz.ntmps52
    go_wp2
    go_ret
    exact ⟨by first | rfl | (simp; done) | (simp [*]; done), by repeat (first | exact Drawn0.refl _ | apply Drawn0.step)⟩
end
-- YtknanbnjbilciaaGreatDoorP95
section
attribute [local go_sem] max2_int min2_int max_two min_two max_three min_three max_four min_four
set_option linter.unusedVariables false
set_option linter.unusedSimpArgs false

/-! ### harq_right: function 24 -/
def harq_right.j0 : Nat → Int → List Int → Bool → Option (Int)
  | 0, _, _, _ => none
  | k + 1, x0, x2, x11 => if x11 = true then (some 1) else ((bits_Right.f k x2).bind fun t255 => (if t255 = true then ((frame_Bits.f x0).bind fun t256 => (if (x2.length : Int) = t256 then (some 0) else (some 13))) else (some 5)))
def harq_right.f (k : Nat) (a0 : Int) (a1 : Int) (l2 : List Int) : Option (Int) := (harq_within.f a0).bind fun t254 => (if t254 = true then (if a1 < 0 then (harq_right.j0 k a0 l2 true) else (harq_right.j0 k a0 l2 (decide (a1 ≥ 4)))) else (some 7))
theorem harq_right.mono_l : ∀ k, (∀ y0 y1 y2, LeO (harq_right.j0 k y0 y1 y2) (harq_right.j0 (k + 1) y0 y1 y2))
  | 0 => fun _ _ _ r h => by simp [harq_right.j0] at h
  | k + 1 => by
    have ih0 := harq_right.mono_l k
    · intro y0 y1 y2
      unfold harq_right.j0
      repeat' first
      | (with_reducible exact ih0 _ _ _)
      | (with_reducible exact bits_Right.mono _ _)
      | (with_reducible exact LeO.refl _)
      | (with_reducible exact LeO.none _)
      | (with_reducible refine LeO.ite ?_ ?_)
      | (with_reducible refine LeO.bind ?_ (fun _ => ?_))
      | exact ih0 _ _ _
      | exact bits_Right.mono _ _
      | exact LeO.none _
      | refine LeO.ite ?_ ?_
      | refine LeO.bind ?_ (fun _ => ?_)
theorem harq_right.mono : ∀ a0 a1 a2 k, LeO (harq_right.f k a0 a1 a2) (harq_right.f (k + 1) a0 a1 a2) := by
  intro a0 a1 a2 k
  have ih0 := harq_right.mono_l k
  unfold harq_right.f
  repeat' first
      | (with_reducible exact ih0 _ _ _)
      | (with_reducible exact bits_Right.mono _ _)
      | (with_reducible exact LeO.refl _)
      | (with_reducible exact LeO.none _)
      | (with_reducible refine LeO.ite ?_ ?_)
      | (with_reducible refine LeO.bind ?_ (fun _ => ?_))
      | exact ih0 _ _ _
      | exact bits_Right.mono _ _
      | exact LeO.none _
      | refine LeO.ite ?_ ?_
      | refine LeO.bind ?_ (fun _ => ?_)
set_option maxHeartbeats 8000000 in
set_option maxRecDepth 100000 in
theorem harq_right.calls (k : Nat) (a0 : Int) (a1 : Int) (A2 : Option Addr) (c2 : Nat) (l2 : List Int) (r : Int) (w : World) (hr2 : Kd.C (Kd.int .u8) w A2 l2.length l2) (hc2 : l2.length ≤ c2) (h : harq_right.f k a0 a1 l2 = some r) :
    Calls Tryz.prog 24 #[.int .i64 a0, .int .i64 a1, .slice A2 l2.length c2] w fun e w' => e = .returned (.int .i64 r) ∧ Drawn0 w w' := by
  have HR2 := Aside0.mk hr2
  have HC2 := Aside0.mk hc2
  clear hr2 hc2
  have H : ((harq_within.f a0).bind fun t254 => (if t254 = true then (if a1 < 0 then (harq_right.j0 k a0 l2 true) else (harq_right.j0 k a0 l2 (decide (a1 ≥ 4)))) else (some 7))) = some r := h
  clear h
  replace H := Option.bind_eq_some_iff.mp H
  obtain ⟨t254, A40, H⟩ := H
  replace H : (if t254 = true then (if a1 < 0 then (harq_right.j0 k a0 l2 true) else (harq_right.j0 k a0 l2 (decide (a1 ≥ 4)))) else (some 7)) = some r := H
  have A4 := Aside0.mk A40
  clear A40
  by_cases c5 : t254 = true
  · subst c5
    have H1 : (if a1 < 0 then (harq_right.j0 k a0 l2 true) else (harq_right.j0 k a0 l2 (decide (a1 ≥ 4)))) = some r := by rw [if_pos rfl] at H; exact H
    clear H
    have H := H1
    clear H1
    have HC6 := Aside0.mk H
    clear H
    go_enter Tryz.func24, Tryz.ntmps24
    go_upto_region 3 with (first | ((with_reducible refine gate_callee (f := 52) rfl ?_); refine goesL_ (some 9) rfl rfl Tryz.func52 (by kernel_rfl) rfl #[.int .i64 a0] rfl (by (try simp only [List.map_toArray, List.map_cons, List.map_nil]); first | done | rfl | (simp only [List.length_drop, List.length_take]; rfl)) ?_; (with_reducible refine (harq_within.calls a0 true _ A4.out).mono ?_); rintro e w' ⟨rfl, ⟨nd, rfl⟩⟩; refine ⟨_, rfl, ?_⟩))
    (try simp only [Act.put, List.setIfInBounds_toArray, List.set_cons_zero, List.set_cons_succ])
    go_cut [11] (fun v11 wc => ∃ (kq : Nat) (x11_5 : Bool), v11 = .bool x11_5 ∧ Aside0 (harq_right.j0 kq a0 l2 x11_5 = some r) ∧ Aside0 (kq ≤ k) ∧ Drawn0 w wc)
    case first =>
      have H := HC6.out
      clear HC6
      by_cases c7 : a1 < 0
      · rw [if_pos c7] at H
        have c7b0 : decide (a1 < 0) = true := decide_eq_true c7
        clear c7
        (first | rw [c7b0] | (simp only [i64_w, i32_w]; rw [c7b0]) | skip)
        have H' := Aside0.mk H
        clear H
        go_wp2
        go_meet
        case rel => exact ⟨_, (true), (by first | rfl | (simp; done) | (simp [*]; done)), H', ⟨by first | omega | exact Nat.le_refl _⟩, by repeat (first | exact Drawn0.refl _ | apply Drawn0.step)⟩
      · rw [if_neg c7] at H
        have c7b0 : decide (a1 < 0) = false := decide_eq_false c7
        clear c7
        (first | rw [c7b0] | (simp only [i64_w, i32_w]; rw [c7b0]) | skip)
        have H' := Aside0.mk H
        clear H
        go_wp2
        go_meet
        case rel => exact ⟨_, (decide (a1 ≥ 4)), (by first | rfl | (simp; done) | (simp [*]; done)), H', ⟨by first | omega | exact Nat.le_refl _⟩, by repeat (first | exact Drawn0.refl _ | apply Drawn0.step)⟩
    case rest =>
      clear HC6
      try clear c2
      try clear p2
      try clear c5
      try clear c7
      try clear c7b0
      obtain ⟨kq, x11_5, rfl, HA, HJ5, ⟨mc5, rfl⟩⟩ := hcut
      cases kq with
      | zero => exact absurd HA.out (by simp [harq_right.j0])
      | succ kj5 =>
        have H := HA.out
        clear HA
        simp only [harq_right.j0] at H
        by_cases c8 : x11_5 = true
        · subst c8
          have H1 : (some 1) = some r := by rw [if_pos rfl] at H; exact H
          clear H
          have H := H1
          clear H1
          obtain rfl := Option.some.inj H
          go_wp2
          go_ret
          exact ⟨by first | rfl | (simp; done) | (simp [*]; done), by repeat (first | exact Drawn0.refl _ | apply Drawn0.step)⟩
        · replace c8 := Bool.eq_false_iff.mpr c8
          subst c8
          have H1 : ((bits_Right.f kj5 l2).bind fun t255 => (if t255 = true then ((frame_Bits.f a0).bind fun t256 => (if (l2.length : Int) = t256 then (some 0) else (some 13))) else (some 5))) = some r := by rw [if_neg (show ¬ (false = true) by decide)] at H; exact H
          clear H
          have H := H1
          clear H1
          replace H := Option.bind_eq_some_iff.mp H
          obtain ⟨t255, A90, H⟩ := H
          replace H : (if t255 = true then ((frame_Bits.f a0).bind fun t256 => (if (l2.length : Int) = t256 then (some 0) else (some 13))) else (some 5)) = some r := H
          have A9 := Aside0.mk A90
          clear A90
          by_cases c10 : t255 = true
          · subst c10
            have H1 : ((frame_Bits.f a0).bind fun t256 => (if (l2.length : Int) = t256 then (some 0) else (some 13))) = some r := by rw [if_pos rfl] at H; exact H
            clear H
            have H := H1
            clear H1
            replace H := Option.bind_eq_some_iff.mp H
            obtain ⟨t256, A110, H⟩ := H
            replace H : (if (l2.length : Int) = t256 then (some 0) else (some 13)) = some r := H
            have A11 := Aside0.mk A110
            clear A110
            by_cases c12 : (l2.length : Int) = t256
            · rw [if_pos c12] at H
              have c12b0 : ((l2.length : Int) == t256) = true := beq_iff_eq.mpr c12
              have c12b1 : ((l2.length : Int) != t256) = false := bne_eq_false_iff_eq.mpr c12
              clear c12
              obtain rfl := Option.some.inj H
              go_wp2_with (first | ((with_reducible refine gate_callee (f := 35) rfl ?_); refine goesL_ (some 20) rfl rfl Tryz.func35 (by kernel_rfl) rfl #[.slice A2 l2.length c2] rfl (by (try simp only [List.map_toArray, List.map_cons, List.map_nil]); first | done | rfl | (simp only [List.length_drop, List.length_take]; rfl)) ?_; (with_reducible refine (bits_Right.calls kj5 _ _ l2 true _ ?side1 ?side2 A9.out).mono ?_); (case side1 => repeat (first | exact HR2.out | (with_reducible refine Kd.C_alloc ?_ _) | (with_reducible refine Kd.C_drewN ?_ _) | (with_reducible refine Kd.C_drew ?_))); (case side2 => exact HC2.out); rintro e w' ⟨rfl, ⟨nd, rfl⟩⟩; refine ⟨_, rfl, ?_⟩) | ((with_reducible refine gate_callee (f := 37) rfl ?_); refine goesL_ (some 26) rfl rfl Tryz.func37 (by kernel_rfl) rfl #[.int .i64 a0] rfl (by (try simp only [List.map_toArray, List.map_cons, List.map_nil]); first | done | rfl | (simp only [List.length_drop, List.length_take]; rfl)) ?_; (with_reducible refine (frame_Bits.calls a0 t256 _ A11.out).mono ?_); rintro e w' ⟨rfl, ⟨nd, rfl⟩⟩; refine ⟨_, rfl, ?_⟩))
              go_ret
              exact ⟨by first | rfl | (simp; done) | (simp [*]; done), by repeat (first | exact Drawn0.refl _ | apply Drawn0.step)⟩
            · rw [if_neg c12] at H
              have c12b0 : ((l2.length : Int) == t256) = false := beq_eq_false_iff_ne.mpr c12
              have c12b1 : ((l2.length : Int) != t256) = true := bne_iff_ne.mpr c12
              obtain rfl := Option.some.inj H
              go_wp2_with (first | ((with_reducible refine gate_callee (f := 35) rfl ?_); refine goesL_ (some 20) rfl rfl Tryz.func35 (by kernel_rfl) rfl #[.slice A2 l2.length c2] rfl (by (try simp only [List.map_toArray, List.map_cons, List.map_nil]); first | done | rfl | (simp only [List.length_drop, List.length_take]; rfl)) ?_; (with_reducible refine (bits_Right.calls kj5 _ _ l2 true _ ?side1 ?side2 A9.out).mono ?_); (case side1 => repeat (first | exact HR2.out | (with_reducible refine Kd.C_alloc ?_ _) | (with_reducible refine Kd.C_drewN ?_ _) | (with_reducible refine Kd.C_drew ?_))); (case side2 => exact HC2.out); rintro e w' ⟨rfl, ⟨nd, rfl⟩⟩; refine ⟨_, rfl, ?_⟩) | ((with_reducible refine gate_callee (f := 37) rfl ?_); refine goesL_ (some 26) rfl rfl Tryz.func37 (by kernel_rfl) rfl #[.int .i64 a0] rfl (by (try simp only [List.map_toArray, List.map_cons, List.map_nil]); first | done | rfl | (simp only [List.length_drop, List.length_take]; rfl)) ?_; (with_reducible refine (frame_Bits.calls a0 t256 _ A11.out).mono ?_); rintro e w' ⟨rfl, ⟨nd, rfl⟩⟩; refine ⟨_, rfl, ?_⟩))
              go_ret
              exact ⟨by first | rfl | (simp; done) | (simp [*]; done), by repeat (first | exact Drawn0.refl _ | apply Drawn0.step)⟩
          · replace c10 := Bool.eq_false_iff.mpr c10
            subst c10
            have H1 : (some 5) = some r := by rw [if_neg (show ¬ (false = true) by decide)] at H; exact H
            clear H
            have H := H1
            clear H1
            obtain rfl := Option.some.inj H
            go_wp2_with (first | ((with_reducible refine gate_callee (f := 35) rfl ?_); refine goesL_ (some 20) rfl rfl Tryz.func35 (by kernel_rfl) rfl #[.slice A2 l2.length c2] rfl (by (try simp only [List.map_toArray, List.map_cons, List.map_nil]); first | done | rfl | (simp only [List.length_drop, List.length_take]; rfl)) ?_; (with_reducible refine (bits_Right.calls kj5 _ _ l2 false _ ?side1 ?side2 A9.out).mono ?_); (case side1 => repeat (first | exact HR2.out | (with_reducible refine Kd.C_alloc ?_ _) | (with_reducible refine Kd.C_drewN ?_ _) | (with_reducible refine Kd.C_drew ?_))); (case side2 => exact HC2.out); rintro e w' ⟨rfl, ⟨nd, rfl⟩⟩; refine ⟨_, rfl, ?_⟩))
            go_ret
            exact ⟨by first | rfl | (simp; done) | (simp [*]; done), by repeat (first | exact Drawn0.refl _ | apply Drawn0.step)⟩
  · replace c5 := Bool.eq_false_iff.mpr c5
    subst c5
    have H1 : (some 7) = some r := by rw [if_neg (show ¬ (false = true) by decide)] at H; exact H
    clear H
    have H := H1
    clear H1
    obtain rfl := Option.some.inj H
    go_enter Tryz.func24, Tryz.ntmps24
    go_wp2_with (first | ((with_reducible refine gate_callee (f := 52) rfl ?_); refine goesL_ (some 9) rfl rfl Tryz.func52 (by kernel_rfl) rfl #[.int .i64 a0] rfl (by (try simp only [List.map_toArray, List.map_cons, List.map_nil]); first | done | rfl | (simp only [List.length_drop, List.length_take]; rfl)) ?_; (with_reducible refine (harq_within.calls a0 false _ A4.out).mono ?_); rintro e w' ⟨rfl, ⟨nd, rfl⟩⟩; refine ⟨_, rfl, ?_⟩))
    go_ret
    exact ⟨by first | rfl | (simp; done) | (simp [*]; done), by repeat (first | exact Drawn0.refl _ | apply Drawn0.step)⟩
end
end Go.Proofs.YtknanbnjbilciaaGreatDoor.P
namespace Go.Proofs.YtknanbnjbilciaaGreatDoor.P
open Go Go.Proofs Go.RowKit Go.Proofs.YtknanbnjbilciaaGreatDoorW.PrintWords Go.Proofs.YtknanbnjbilciaaGreatDoorW.PrintLast Go.Proofs.YtknanbnjbilciaaGreatDoorW.PrintMore
set_option linter.unusedVariables false
set_option linter.unusedSimpArgs false
-- YtknanbnjbilciaaGreatDoorPKProc
/-- A process's cells. -/
def prc (n : Nat) (b : Option Addr) (came : Int) (done : Bool) : Array Value := #[.int .i64 (n : Int), .pointer b, .int .i64 came, .bool done]
theorem hwithin_f (n : Nat) (hn : n ≤ 64) : harq_within.f (n : Int) = some true := by
  unfold harq_within.f
  have h1 : (decide ((n : Int) ≥ 0)) = true := decide_eq_true (by omega)
  have h2 : (decide ((n : Int) ≤ 64)) = true := decide_eq_true (by omega)
  simp [h1, h2]
theorem Fg.of_put {q : Nat} {w w' : World} (p : Put1 q w w') : Fg q w w' := ⟨p.os, p.tape, p.output, Nat.le_of_eq p.size.symm, fun k _ hk _ => p.block k hk⟩
theorem BU.keep {w w' : World} {S g h n : Nat} {σ : List Int} (b : BU w S g h n σ) (hg : w'.heap[g]? = w.heap[g]?) (hh : w'.heap[h]? = w.heap[h]?) : BU w' S g h n σ := by
  obtain ⟨C, hC, r⟩ := b.box
  exact ⟨⟨C, hg.trans hC, r⟩, hh.trans b.row, b.len, b.lo⟩
theorem BU.putq {w w' : World} {S g h n q : Nat} {σ : List Int} (b : BU w S g h n σ) (p : Put1 q w w') (hq : q ≠ g ∧ q ≠ h) : BU w' S g h n σ := b.keep (p.block g (by omega)) (p.block h (by omega))
set_option maxRecDepth 100000 in
set_option maxHeartbeats 8000000 in
theorem begin_calls {w : World} {q n N : Nat} (hn : n ≤ 64) (hN : N = 8 * (n + 4)) (hq : w.heap[q]? = some (.cells (prc 0 none 0 false) 73 (0, 0))) :
    Calls Tryz.prog 25 #[.pointer (some ⟨q, 0, none⟩), .int .i64 (n : Int)] w fun e w' => e = .returned (.int .i64 0) ∧ ∃ g h, w'.heap[q]? = some (.cells (prc n (some ⟨g, 0, none⟩) 0 false) 73 (0, 0)) ∧ BU w' w.heap.size g h N (List.replicate (4 * (N + 6)) 0) ∧ Fg q w w' := by
  have HQ := Aside0.mk hq
  have HNW := Aside0.mk (new_calls (w := w) (n := N) (by omega))
  have h1 : (n : Int) ≤ 64 := by omega
  have h0 : (0 : Int) ≤ (n : Int) := by omega
  have h8 : 8 * ((n : Int) + 4) = (N : Int) := by omega
  clear hn hN hq
  go_enter Tryz.func25, Tryz.ntmps25
  go_wp2_with (first
    | (go_at_call 55; refine Aside0.out ?_)
    | fail)
  refine Aside0.mk ?_
  refine HNW.out.mono ?_
  rintro e w1 ⟨g, h, rfl, hbu, hb⟩
  have HBU := Aside0.mk hbu
  have HB1 := Aside0.mk hb
  have HQ1 := Aside0.mk ((hb.block q (blk_lt HQ.out)).trans HQ.out)
  have HL := Aside0.mk (show q ≠ g ∧ q ≠ h by have := hbu.lo; have := blk_lt HQ.out; omega)
  clear hbu hb HNW
  have hc0 : w1.cell? ⟨q, 0, none⟩ = some (.int .i64 0) := blk_cell HQ1.out 0
  have hc1 : w1.cell? ⟨q, 1, none⟩ = some (.pointer none) := blk_cell HQ1.out 1
  have hc2 : w1.cell? ⟨q, 2, none⟩ = some (.int .i64 0) := blk_cell HQ1.out 2
  have hf0 := blk_frozen HQ1.out 0
  have hf1 := blk_frozen HQ1.out 1
  have hf2 := blk_frozen HQ1.out 2
  go_wp2_with fail
  have hrs : (Tryz.f25).results = #[.tmp 4] := by kernel_rfl
  refine bodyPost_ret (results_tmp hrs _ _ _) rfl ?_
  have p0 := Put1.set q 0 w1 (.int .i64 (n : Int))
  have p1 := p0.trans (Put1.set q 1 (w1.setCell ⟨q, 0, none⟩ (.int .i64 (n : Int))) (.pointer (some ⟨g, 0, none⟩)))
  have p2 := p1.trans (Put1.set q 2 ((w1.setCell ⟨q, 0, none⟩ (.int .i64 (n : Int))).setCell ⟨q, 1, none⟩ (.pointer (some ⟨g, 0, none⟩))) (.int .i64 0))
  exact ⟨rfl, g, h, blk_put (blk_put (blk_put HQ1.out 0 _ rfl) 1 _ rfl) 2 _ rfl, HBU.out.putq p2 HL.out, Fg.trans (Fg.of_below HB1.out) (Fg.of_put p2)⟩
set_option maxRecDepth 100000 in
set_option maxHeartbeats 8000000 in
theorem harqNew_calls {w : World} {n N : Nat} (hn : n ≤ 64) (hN : N = 8 * (n + 4)) :
    Calls Tryz.prog 22 #[.int .i64 (n : Int)] w fun e w' => ∃ q g h, e = .returned (.tuple #[.pointer (some ⟨q, 0, none⟩), .int .i64 0]) ∧ w'.heap[q]? = some (.cells (prc n (some ⟨g, 0, none⟩) 0 false) 73 (0, 0)) ∧ BU w' w.heap.size g h N (List.replicate (4 * (N + 6)) 0) ∧ w.heap.size ≤ q ∧ q ≠ g ∧ q ≠ h ∧ Below w.heap.size w w' := by
  have HWI := Aside0.mk (fun w => harq_within.calls (n : Int) _ w (hwithin_f n hn))
  have HN := Aside0.mk (And.intro hn hN)
  clear hn hN
  go_enter Tryz.func22, Tryz.ntmps22
  go_wp2_with (first
    | (go_at_call 52; refine Aside0.out ?_)
    | fail)
  refine Aside0.mk ?_
  have hba := below_alloc (Below.refl w.heap.size w) (.cells (prc 0 none 0 false) 73)
  have hbb := blk_new w (.cells (prc 0 none 0 false) 73)
  obtain ⟨w1, hw1⟩ : ∃ w1, w1 = w.alloc (.cells (prc 0 none 0 false) 73) := ⟨_, rfl⟩
  obtain ⟨q, hq⟩ : ∃ q, q = w.heap.size := ⟨_, rfl⟩
  have HQ := Aside0.mk hq
  rw [← hw1] at hba hbb
  rw [← hq] at hbb
  show Calls _ _ _ (w.alloc (.cells (prc 0 none 0 false) 73)) _
  rw [← hw1, ← hq]
  clear hw1 hq
  refine (HWI.out w1).mono ?_
  rintro e w2 ⟨rfl, hd⟩
  have HB2 := Aside0.mk (below_step hba hd.below)
  have HQ2 := Aside0.mk ((hd.below.block q (blk_lt hbb)).trans hbb)
  clear hba hbb hd HWI
  go_wp2_with (first
    | (go_at_call 25; refine Aside0.out ?_)
    | fail)
  refine Aside0.mk ?_
  refine (begin_calls HN.out.1 HN.out.2 HQ2.out).mono ?_
  rintro e w3 ⟨rfl, g, h, hq3, hbu, hf⟩
  have HF := Aside0.mk (show w3.heap[q]? = some (.cells (prc n (some ⟨g, 0, none⟩) 0 false) 73 (0, 0)) ∧ BU w3 w.heap.size g h N (List.replicate (4 * (N + 6)) 0) ∧ w.heap.size ≤ q ∧ q ≠ g ∧ q ≠ h ∧ Below w.heap.size w w3 from by
    have h1 := hbu.lo
    have h2 := HB2.out.size
    have h3 := blk_lt HQ2.out
    have h4 := HQ.out
    exact ⟨hq3, ⟨hbu.box, hbu.row, hbu.len, by omega, by omega, h1.2.2⟩, by omega, by omega, by omega, HB2.out.trans ⟨hf.os, hf.tape, hf.output, hf.size, fun k hk => hf.at k (by omega) (by omega)⟩⟩)
  clear hq3 hbu hf HB2 HQ2 HQ
  go_wp2_with fail
  have hrs : (Tryz.f22).results = #[.tmp 2, .tmp 3] := by kernel_rfl
  refine bodyPost_ret (results_tmp2 hrs _ _ _) rfl ?_
  exact ⟨q, g, h, rfl, HF.out⟩
/-- A message, closed; its bits. -/
def closeB (M : List Int) : List Int := M ++ four (sum32 M).toNat
def bitsM (M : List Int) : List Int := ofl (closeB M)
theorem closeB_byt {M : List Int} (h : byt M) : byt (closeB M) := fun x hx => (List.mem_append.1 hx).elim (h x) (four_byt _ x)
theorem closeB_len (M : List Int) : (closeB M).length = M.length + 4 := by unfold closeB; rw [List.length_append]; rfl
theorem bitsM_len (M : List Int) : (bitsM M).length = 8 * (M.length + 4) := by unfold bitsM; rw [ofl_length, closeB_len]
theorem bitsM_isb (M : List Int) : ∀ x ∈ bitsM M, isb x := fun x hx => by
  have := ofl_bit _ x hx
  exact isb_of this.1 this.2
theorem open_ok {M : List Int} (h : byt M) (hl : M.length ≤ 64) : harq_open.f 2000 (bitsM M) 0 = some (M, true) := by
  have hc := closeB_len M
  unfold harq_open.f bitsM
  rw [if_pos rfl, bytes_ofl _ (closeB_byt h) (by omega) 2000 (by omega), Option.bind_some, if_pos rfl, open_f (closeB_byt h) (by omega) 2000 (by omega), Option.bind_some]
  have ht : (closeB M).take ((closeB M).length - 4) = M := by
    rw [hc, show M.length + 4 - 4 = M.length by omega]; unfold closeB; rw [List.take_left]
  have hd : (closeB M).drop ((closeB M).length - 4) = four (sum32 M).toNat := by
    rw [hc, show M.length + 4 - 4 = M.length by omega]; unfold closeB; rw [List.drop_left]
  rw [if_pos ⟨by omega, by rw [ht, hd]⟩, ht]
theorem hright_f (n v : Nat) (hn : n ≤ 64) (hv : v < 4) {P : List Int} (hP : ∀ x ∈ P, isb x) (hl : P.length = nb n) : harq_right.f 2000 (n : Int) (v : Int) P = some 0 := by
  have hb : nb n ≤ 600 := by unfold nb; omega
  unfold harq_right.f
  rw [hwithin_f n hn, Option.bind_some, if_pos rfl, if_neg (by omega)]
  have hd : (decide ((v : Int) ≥ 4)) = false := decide_eq_false (by omega)
  rw [hd]
  show harq_right.j0 (1999 + 1) _ _ _ = _
  rw [harq_right.j0.eq_2, if_neg (by decide), right_f P (by omega) 1999 (by omega), (big_isb (fun x hx => (isb01 (hP x hx)).1)).2 hP, Option.bind_some, if_pos (show (!false) = true from rfl), fbits_f n hn, Option.bind_some, hl, if_pos rfl]
theorem TP.low {w w' : World} {S : Nat} (h : TP w) (hS : 2 < S) (hb : Below S w w') : TP w' :=
  have e : ∀ i, w'.cell? ⟨2, i, none⟩ = w.cell? ⟨2, i, none⟩ := fun _ => hb.cell (p := ⟨2, _, none⟩) hS
  ⟨(e 0).trans h.c0, (e 1).trans h.c1, (e 2).trans h.c2, (e 3).trans h.c3⟩
set_option maxRecDepth 100000 in
set_option maxHeartbeats 8000000 in
theorem offer_calls {w : World} (hT : TP w) {S q g h : Nat} (hTS : 2 < S) (hSw : S ≤ w.heap.size) {M : List Int} (hM : byt M) (hl : M.length ≤ 64) (hq : w.heap[q]? = some (.cells (prc M.length (some ⟨g, 0, none⟩) 0 false) 73 (0, 0))) (b : BU w S g h (8 * (M.length + 4)) (List.replicate (4 * (8 * (M.length + 4) + 6)) 0)) (hS : S ≤ q ∧ q ≠ g ∧ q ≠ h)
    (v : Nat) (hv : v < 4) {A : Option Addr} {P : List Int} {c : Nat} (hP : Kd.C (Kd.int .u8) w A P.length P) (hc : P.length ≤ c) (hPv : P = vp (code (bitsM M)) v (nb M.length)) (hA : ∀ d, A = some d → d.block ≠ g ∧ d.block ≠ h) :
    Calls Tryz.prog 11 #[.pointer (some ⟨q, 0, none⟩), .int .i64 (M.length : Int), .int .i64 (v : Int), .slice A (nb M.length) c] w fun e w' => ∃ u, e = .returned (.tuple #[u, .int .i64 0]) ∧ Kd.R (Kd.int .u8) 5 w' w.heap.size (fun _ => True) u M ∧ Below S w w' := by
  have hN := bitsM_len M
  have hLb := bitsM_isb M
  obtain ⟨L, hL⟩ : ∃ L, L = bitsM M := ⟨_, rfl⟩
  rw [← hL] at hN hLb hPv
  obtain ⟨N, hNd⟩ : ∃ N, N = 8 * (M.length + 4) := ⟨_, rfl⟩
  rw [← hNd] at b hN
  have hnb : nb M.length = N + 6 := by unfold nb; omega
  have hPl : P.length = nb M.length := by rw [hPv, vp_len]
  have hci : ∀ x ∈ code L, isb x := codeN_isb hLb _
  have hPb : ∀ x ∈ P, isb x := by rw [hPv]; exact vp_isb hci v _
  have hPg : ∀ t, t < N + 6 → P.getD t 0 = (code L).getD (plc v t) 0 := fun t ht => by rw [hPv]; exact vp_get _ v _ t (by omega)
  have hal := alone_clean hLb hv (P := P) (by rw [hN]; exact hPg)
  rw [hN] at hal
  have hti := toI_inp hLb
  rw [hN] at hti
  have HRT := Aside0.mk (harq_right.calls 2000 (M.length : Int) (v : Int) A c P 0 w hP hc (hright_f _ v hl hv hPb hPl))
  have HAD := Aside0.mk (fun w' (hb : Below w.heap.size w w') => add_calls (b.below hb) (by omega) v hv (A := A) (P := P) (c := c) (Kd.C_below hP hb) hc (by rw [hPl, hnb]) hPb hA (fun j => by rw [rep_getD]; omega))
  have HOP := Aside0.mk (open_ok hM hl)
  rw [← hL] at HOP
  have HB := Aside0.mk b
  have HQ := Aside0.mk hq
  have HS := Aside0.mk hS
  have HAL := Aside0.mk hal
  have HT := Aside0.mk hT
  have HNN := Aside0.mk (And.intro hN (show N ≤ 900 by omega))
  have HTI := Aside0.mk hti
  rw [hPl, hnb] at HRT
  rw [hnb]
  obtain ⟨m, hm⟩ : ∃ m, m = N + 6 := ⟨_, rfl⟩
  obtain ⟨n, hn⟩ : ∃ n, n = M.length := ⟨_, rfl⟩
  rw [← hm] at HRT HAD ⊢
  rw [← hn] at HRT HQ ⊢
  have HM := Aside0.mk hm
  have hc0 : w.cell? ⟨q, 0, none⟩ = some (.int .i64 (n : Int)) := blk_cell HQ.out 0
  have hc1 : w.cell? ⟨q, 1, none⟩ = some (.pointer (some ⟨g, 0, none⟩)) := blk_cell HQ.out 1
  have hc2 : w.cell? ⟨q, 2, none⟩ = some (.int .i64 0) := blk_cell HQ.out 2
  have hc3 : w.cell? ⟨q, 3, none⟩ = some (.bool false) := blk_cell HQ.out 3
  have HTS := Aside0.mk (And.intro hTS hSw)
  clear hTS hSw hT hM hl hq b hS hv hP hc hPv hA hN hLb hL hNd hnb hPl hci hPb hPg hal hn hm hti
  go_enter Tryz.func11, Tryz.ntmps11
  go_wp2_with (first
    | (go_at_call 24; refine Aside0.out ?_)
    | fail)
  refine Aside0.mk ?_
  refine HRT.out.mono ?_
  rintro e w1 ⟨rfl, hd⟩
  have HB1 := Aside0.mk hd.below
  have HQ1 := Aside0.mk ((hd.below.block q (blk_lt HQ.out)).trans HQ.out)
  clear hd HRT hc0 hc1 hc2 hc3
  have hc0 : w1.cell? ⟨q, 0, none⟩ = some (.int .i64 (n : Int)) := blk_cell HQ1.out 0
  have hc1 : w1.cell? ⟨q, 1, none⟩ = some (.pointer (some ⟨g, 0, none⟩)) := blk_cell HQ1.out 1
  have hc2 : w1.cell? ⟨q, 2, none⟩ = some (.int .i64 0) := blk_cell HQ1.out 2
  go_wp2_with (first
    | (go_at_call 26; refine Aside0.out ?_)
    | fail)
  refine Aside0.mk ?_
  refine (HAD.out w1 HB1.out).mono ?_
  rintro e w2 ⟨rfl, hbu, htw⟩
  have HBU2 := Aside0.mk hbu
  have HQ2 := Aside0.mk ((htw.block q (blk_lt HQ1.out) HS.out.2.1 HS.out.2.2).trans HQ1.out)
  have HW2 := Aside0.mk ((Two.of_below (g := g) (h := h) HB1.out).trans htw)
  clear hbu htw hc0 hc1 hc2 HAD HB1 HQ1
  have hc2 : w2.cell? ⟨q, 2, none⟩ = some (.int .i64 0) := blk_cell HQ2.out 2
  have hf2 := blk_frozen HQ2.out 2
  have hc1 : w2.cell? ⟨q, 1, none⟩ = some (.pointer (some ⟨g, 0, none⟩)) := blk_cell HQ2.out 1
  go_wp2_with (first
    | (go_at_call 28; refine Aside0.out ?_)
    | fail)
  refine Aside0.mk ?_
  have hpt := Put1.set q 2 w2 (.int .i64 1)
  have HBU3 := Aside0.mk (HBU2.out.putq hpt HS.out.2)
  have HQ3 := Aside0.mk (show (w2.setCell ⟨q, 2, none⟩ (.int .i64 1)).heap[q]? = some (.cells (prc n (some ⟨g, 0, none⟩) 1 false) 73 (0, 0)) from blk_put HQ2.out 2 _ rfl)
  have HB3 := Aside0.mk (show Below S w (w2.setCell ⟨q, 2, none⟩ (.int .i64 1)) from (HW2.out.below HTS.out.2 HBU2.out.lo.1 HBU2.out.lo.2.1).trans (hpt.below HS.out.1))
  obtain ⟨w3, hw3⟩ : ∃ w3, w3 = w2.setCell ⟨q, 2, none⟩ (.int .i64 1) := ⟨_, rfl⟩
  have HW3 := Aside0.mk (show w.heap.size ≤ w3.heap.size by rw [hw3, hpt.size]; exact HW2.out.size)
  rw [← hw3] at HBU3 HQ3 HB3 ⊢
  have hcd := cdecode_calls (HT.out.low HTS.out.1 HB3.out) HBU3.out (by have := HNN.out.2; omega) (fun j => by have := HAL.out.2 j; rw [← HM.out] at this; omega) _ (by have := HAL.out.1; rw [← HM.out] at this ⊢; exact this)
  rw [HM.out, HTI.out] at hcd
  have HCD := Aside0.mk hcd
  clear hpt hw3 hcd HBU2 HQ2 HW2 hc1 hc2 hf2
  refine HCD.out.mono ?_
  rintro e w4 ⟨u4, rfl, hu, hb⟩
  obtain ⟨A4, c4, rfl⟩ := Kd.R_slice hu
  have HO := Aside0.mk (harq_open.calls 2000 A4 c4 L 0 M true w4 (Kd.R_reads' hu).2.2 (Kd.R_reads' hu).2.1 HOP.out)
  have HQ4 := Aside0.mk ((hb.block q (blk_lt HQ3.out)).trans HQ3.out)
  have HB4 := Aside0.mk (HB3.out.trans (below_less hb (Nat.le_trans HTS.out.2 HW3.out)))
  have HW4 := Aside0.mk (Nat.le_trans HW3.out hb.size)
  clear hu hb HCD HBU3 HQ3 HB3 HW3
  go_wp2_with (first
    | (go_at_call 27; refine Aside0.out ?_)
    | fail)
  refine Aside0.mk ?_
  refine HO.out.mono ?_
  rintro e w5 ⟨u5, rfl, hu, hb⟩
  have HU5 := Aside0.mk (Kd.R_mono (Kd.R_bound hu) (ok' := fun k => k ≠ q) (fun k ok => by have := ok.2.1; have := blk_lt HQ4.out; omega))
  have HQ5 := Aside0.mk ((hb.block q (blk_lt HQ4.out)).trans HQ4.out)
  have HB5 := Aside0.mk (HB4.out.trans (below_less hb (Nat.le_trans HTS.out.2 HW4.out)))
  clear hu hb HO HQ4 HB4
  have hc3 : w5.cell? ⟨q, 3, none⟩ = some (.bool false) := blk_cell HQ5.out 3
  have hf3 := blk_frozen HQ5.out 3
  go_wp2_with fail
  have hrs : (Tryz.f11).results = #[.tmp 8, .tmp 9] := by kernel_rfl
  refine bodyPost_ret (results_tmp2 hrs _ _ _) rfl ?_
  have hpt := Put1.set q 3 w5 (.bool true)
  exact ⟨u5, rfl, Kd.R_lower (Kd.R_mono (Kd.R_step HU5.out (fun k hk _ => hpt.block k hk)) (fun _ _ => trivial)) HW4.out, HB5.out.trans (hpt.below HS.out.1)⟩
-- YtknanbnjbilciaaGreatDoorPKPool
/-- How a process in the pool reads: that it is there. -/
def RP (v : Value) : Option (DataW Unit × List MemPlace) := match v with
  | .pointer _ => some (.lit (.bool true), [])
  | _ => none
theorem seqLaw : Maps.Keyed Tryz.prog 39 := Maps.int_keyed Tryz.underlying39
theorem seqKey {a : Int} (ha : 0 ≤ a ∧ a ≤ 65535) : keyOf Tryz.prog 39 (.int .u16 a) = some (.int .u16 a) := Maps.keyOf_int_mk Tryz.underlying39 (by simp [Lit.wf, IntKind.signed, IntKind.bits, IntKind.min, IntKind.max]; omega)
/-- A pool at block gp, its map at block mp. -/
structure PO (w : World) (gp mp : Nat) (size : Int) (n : Nat) (D : DataW Unit) : Prop where
  box : w.heap[gp]? = some (.cells #[.int .i64 size, .map (some mp)] 56 (0, 0))
  own : w.ownsMap Tryz.prog 39 RP mp n D
theorem own_lt {w : World} {mp n : Nat} {D : DataW Unit} (h : w.ownsMap Tryz.prog 39 RP mp n D) : ∃ es clock, w.heap[mp]? = some (.map es clock) := by
  obtain ⟨es, clock, hb, _⟩ := h
  exact ⟨es, clock, hb⟩
theorem own_block {w w' : World} {mp n : Nat} {D : DataW Unit} (h : w.ownsMap Tryz.prog 39 RP mp n D) (hb : w'.heap[mp]? = w.heap[mp]?) : w'.ownsMap Tryz.prog 39 RP mp n D := by
  obtain ⟨es, clock, h1, h2⟩ := h
  exact ⟨es, clock, hb.trans h1, h2⟩
theorem own_empty {w : World} {mp n : Nat} (h : w.ownsMap Tryz.prog 39 RP mp n (.map [])) : w.ownsMap Tryz.prog 39 RP mp 0 (.map []) := by
  obtain ⟨es, clock, h1, h2, h3, h4⟩ := h
  refine ⟨es, clock, h1, h2, ?_, h4⟩
  injection h4 with h4
  have := congrArg List.length h4
  rw [length_sorted] at this
  simp at this
  simp [this]
theorem PO.lt {w : World} {gp mp n : Nat} {size : Int} {D : DataW Unit} (h : PO w gp mp size n D) : gp < w.heap.size ∧ mp < w.heap.size ∧ gp ≠ mp := by
  obtain ⟨es, clock, hb⟩ := own_lt h.own
  have hm : mp < w.heap.size := by
    rcases Nat.lt_or_ge mp w.heap.size with c | c
    · exact c
    · rw [Array.getElem?_eq_none c] at hb; cases hb
  refine ⟨blk_lt h.box, hm, fun e => ?_⟩
  subst e
  rw [h.box] at hb; cases hb
theorem PO.keep {w w' : World} {gp mp n : Nat} {size : Int} {D : DataW Unit} (h : PO w gp mp size n D) (h1 : w'.heap[gp]? = w.heap[gp]?) (h2 : w'.heap[mp]? = w.heap[mp]?) : PO w' gp mp size n D := ⟨h1.trans h.box, own_block h.own h2⟩
theorem PO.below {w w' : World} {gp mp n : Nat} {size : Int} {D : DataW Unit} (h : PO w gp mp size n D) (hb : Below w.heap.size w w') : PO w' gp mp size n D := h.keep (hb.block gp h.lt.1) (hb.block mp h.lt.2.1)
theorem PO.low {w w' : World} {S gp mp n : Nat} {size : Int} {D : DataW Unit} (h : PO w gp mp size n D) (hg : gp < S) (hm : mp < S) (hb : Below S w w') : PO w' gp mp size n D := h.keep (hb.block gp hg) (hb.block mp hm)
theorem put_of_turned {w w' : World} {mp : Nat} (h : w.mapTurned w' mp) : Put1 mp w w' := by
  obtain ⟨es, clock, es', clock', hb, rfl⟩ := h
  exact ⟨rfl, rfl, rfl, by simp [ChangeMaps.setBlock], fun k hk => ChangeMaps.heap_setBlock_other hb _ hk⟩
theorem zeroP (w : World) : (zeroValue 47).run Tryz.prog w = .ok (.pointer none) w := by kernel_rfl
set_option maxRecDepth 100000 in
set_option maxHeartbeats 4000000 in
theorem poolNew_calls {w : World} (size : Nat) (h1 : 1 ≤ size) (h2 : size ≤ 16) :
    Calls Tryz.prog 4 #[.int .i64 (size : Int)] w fun e w' => ∃ gp mp, e = .returned (.tuple #[.pointer (some ⟨gp, 0, none⟩), .int .i64 0]) ∧ PO w' gp mp size 0 (.map []) ∧ w.heap.size ≤ gp ∧ w.heap.size ≤ mp ∧ Below w.heap.size w w' := by
  have e1 : ¬ (size : Int) < 1 := by omega
  have e2 : ¬ (size : Int) > 16 := by omega
  have hmm := @run_makeMap Tryz.prog
  go_enter Tryz.func4, Tryz.ntmps4
  go_wp2_with fail
  have hrs : (Tryz.f4).results = #[.tmp 2, .tmp 3] := by kernel_rfl
  refine bodyPost_ret (results_tmp2 hrs _ _ _) rfl ?_
  have ho := (World.ownsMap_made w Tryz.prog 39 RP)
  have hb1 := below_alloc (Below.refl w.heap.size w) (.map #[] 0)
  have hb2 := below_alloc (Below.refl (w.alloc (.map #[] 0)).heap.size (w.alloc (.map #[] 0))) (.cells #[.int .i64 (size : Int), .map (some w.heap.size)] 56)
  have hbx := blk_new (w.alloc (.map #[] 0)) (.cells #[.int .i64 (size : Int), .map (some w.heap.size)] 56)
  rw [World.size_alloc] at hbx
  refine ⟨w.heap.size + 1, rfl, w.heap.size, ⟨hbx, own_block ho (hb2.block _ (by rw [World.size_alloc]; omega))⟩, by omega, by omega, below_step hb1 hb2⟩
def kroom1.T : Bool × List (List Nat × List Nat) := (true, [([], []), ([0], [0]), ([1], [1]), ([2], [2]), ([3], [3]), ([], []), ([5], [5]), ([6], [6]), ([7], [7]), ([4, 8], [4, 8])])
def kroom1.B : List Nat := [0, 1, 3, 7, 15, 0, 32, 96, 224, 511]
theorem kroom1.tab : rtab .any (opsOf Tryz.f23 1) = kroom1.T := by kernel_rfl
theorem kroom1.bits : waitsOk kroom1.T.2 kroom1.B = true := by kernel_rfl
set_option maxRecDepth 100000 in
set_option maxHeartbeats 4000000 in
theorem room_calls {w : World} {gp mp n : Nat} {size : Int} (h : PO w gp mp size n (.map [])) (hs : 0 < size) (b a : Int) :
    Calls Tryz.prog 23 #[.pointer (some ⟨gp, 0, none⟩), .int .u16 b, .int .u16 a] w fun e w' => e = .returned (.int .i64 0) ∧ Below w.heap.size w w' := by
  have HS := Aside0.mk (show w.drew.cell? ⟨gp, 0, none⟩ = some (.int .i64 size) ∧ w.drew.cell? ⟨gp, 1, none⟩ = some (.map (some mp)) ∧ w.drew.ownsMap Tryz.prog 39 RP mp n (.map []) from ⟨blk_cell h.box 0, blk_cell h.box 1, World.ownsMap.drew h.own⟩)
  have HB := Aside0.mk (show Below w.heap.size w w.drew from below_drew1 (Below.refl _ _))
  clear h
  go_enter Tryz.func23, Tryz.ntmps23
  go_wp2_with fail
  refine start_ (n := 10) (S := (fun w' => w'.cell? ⟨gp, 0, none⟩ = some (.int .i64 size) ∧ w'.cell? ⟨gp, 1, none⟩ = some (.map (some mp)) ∧ w'.ownsMap Tryz.prog 39 RP mp n (.map []))) (ds := []) #[false, false, false, false, false, false, false, false, false, false] (by kernel_rfl) rfl rfl HS.out (fun hHeld => ?_)
  refine with_tabW kroom1.tab kroom1.bits (fun HT_ HW_ => ?_)
  refine pure_ (i := 0) (N := some 9) (v := ?_) (a' := ?_) #[true, false, false, false, false, false, false, false, false, false] rfl rfl (any_of HT_.out (by kernel_rfl)) (fun _ _ _ h => h) (Or.inl ⟨by rfl, ?_⟩) ?_ ?_
  rotate_left
  · intro w'
    go_simp
    with_reducible rfl
  rotate_left
  · simp only [Act.put, List.setIfInBounds_toArray, List.set_cons_zero, List.set_cons_succ, i64_w, i32_w]
    rfl
  refine pure_ (i := 1) (N := some 10) (v := ?_) (a' := ?_) #[true, true, false, false, false, false, false, false, false, false] rfl rfl (any_of HT_.out (by kernel_rfl)) (fun _ _ _ h => h) (Or.inl ⟨by rfl, ?_⟩) ?_ ?_
  rotate_left
  · intro w'
    go_simp
    with_reducible rfl
  rotate_left
  · simp only [Act.put, List.setIfInBounds_toArray, List.set_cons_zero, List.set_cons_succ, i64_w, i32_w]
    rfl
  refine pure_ (i := 2) (N := some 11) (v := ?_) (a' := ?_) #[true, true, true, false, false, false, false, false, false, false] rfl rfl (any_of HT_.out (by kernel_rfl)) (fun _ _ _ h => h) (Or.inl ⟨by rfl, ?_⟩) ?_ ?_
  rotate_left
  · intro w'
    go_simp
    with_reducible rfl
  rotate_left
  · simp only [Act.put, List.setIfInBounds_toArray, List.set_cons_zero, List.set_cons_succ, i64_w, i32_w]
    rfl
  refine take_ (i := 3) (N := some 12) (v := ?_) (a' := ?_) #[true, true, true, true, false, false, false, false, false, false] rfl rfl (take_ofW HT_.out HW_.out (by kernel_rfl)) (fun _ _ _ h => h) (Or.inl ⟨by rfl, ?_⟩) hHeld ?_ ?_
  rotate_left
  · rintro w' ⟨s0, s1, s2⟩
    go_simp
    with_reducible rfl
  rotate_left
  · simp only [Act.put, List.setIfInBounds_toArray, List.set_cons_zero, List.set_cons_succ, i64_w, i32_w]
    rfl
  refine take_ (i := 4) (N := some 13) (v := ?_) (a' := ?_) #[true, true, true, true, true, false, false, false, false, false] rfl rfl (take_ofW HT_.out HW_.out (by kernel_rfl)) (fun _ _ _ h => h) (Or.inl ⟨by rfl, ?_⟩) hHeld ?_ ?_
  rotate_left
  · rintro w' ⟨s0, s1, s2⟩
    have hl := s2.len Tryz.underlying54 3; rw [show ((Maps.size (DataW.map [] : DataW Unit) : Nat) : Int) = 0 from rfl] at hl; go_simp; with_reducible rfl
  rotate_left
  · simp only [Act.put, List.setIfInBounds_toArray, List.set_cons_zero, List.set_cons_succ, i64_w, i32_w]
    rfl
  refine pure_ (i := 5) (N := some 14) (v := ?_) (a' := ?_) #[true, true, true, true, true, true, false, false, false, false] rfl rfl (any_of HT_.out (by kernel_rfl)) (fun _ _ _ h => h) (Or.inl ⟨by rfl, ?_⟩) ?_ ?_
  rotate_left
  · intro w'
    go_simp
    with_reducible rfl
  rotate_left
  · simp only [Act.put, List.setIfInBounds_toArray, List.set_cons_zero, List.set_cons_succ, i64_w, i32_w]
    rfl
  refine pure_ (i := 6) (N := some 15) (v := ?_) (a' := ?_) #[true, true, true, true, true, true, true, false, false, false] rfl rfl (any_of HT_.out (by kernel_rfl)) (fun _ _ _ h => h) (Or.inl ⟨by rfl, ?_⟩) ?_ ?_
  rotate_left
  · intro w'
    go_simp
    with_reducible rfl
  rotate_left
  · simp only [Act.put, List.setIfInBounds_toArray, List.set_cons_zero, List.set_cons_succ, i64_w, i32_w]
    rfl
  refine pure_ (i := 7) (N := some 16) (v := ?_) (a' := ?_) #[true, true, true, true, true, true, true, true, false, false] rfl rfl (any_of HT_.out (by kernel_rfl)) (fun _ _ _ h => h) (Or.inl ⟨by rfl, ?_⟩) ?_ ?_
  rotate_left
  · intro w'
    go_simp
    with_reducible rfl
  rotate_left
  · simp only [Act.put, List.setIfInBounds_toArray, List.set_cons_zero, List.set_cons_succ, i64_w, i32_w]
    rfl
  refine take_ (i := 8) (N := some 17) (v := ?_) (a' := ?_) #[true, true, true, true, true, true, true, true, true, false] rfl rfl (take_ofW HT_.out HW_.out (by kernel_rfl)) (fun _ _ _ h => h) (Or.inl ⟨by rfl, ?_⟩) hHeld ?_ ?_
  rotate_left
  · rintro w' ⟨s0, s1, s2⟩
    go_simp
    with_reducible rfl
  rotate_left
  · simp only [Act.put, List.setIfInBounds_toArray, List.set_cons_zero, List.set_cons_succ, i64_w, i32_w]
    rfl
  refine pure_ (i := 9) (N := some 18) (v := ?_) (a' := ?_) #[true, true, true, true, true, true, true, true, true, true] rfl rfl (any_of HT_.out (by kernel_rfl)) (fun _ _ _ h => h) (Or.inl ⟨by rfl, ?_⟩) ?_ ?_
  rotate_left
  · intro w'
    go_simp
    with_reducible rfl
  rotate_left
  · simp only [Act.put, List.setIfInBounds_toArray, List.set_cons_zero, List.set_cons_succ, i64_w, i32_w]
    rfl
  refine done_ (done_of HT_.out (by kernel_rfl)) ?_
  clear hHeld
  go_wp2_with fail
  have hrs : (Tryz.f23).results = #[.tmp 6] := by kernel_rfl
  refine bodyPost_ret (results_tmp hrs _ _ _) rfl ?_
  exact ⟨rfl, HB.out⟩
set_option maxRecDepth 100000 in
set_option maxHeartbeats 8000000 in
theorem give_calls {w : World} {gp mp : Nat} {size : Int} (h : PO w gp mp size 0 (.map [])) (hs : 0 < size) (b a : Int) (ha : 0 ≤ a ∧ a ≤ 65535) {n N : Nat} (hn : n ≤ 64) (hN : N = 8 * (n + 4)) :
    Calls Tryz.prog 10 #[.pointer (some ⟨gp, 0, none⟩), .int .u16 b, .int .u16 a, .int .i64 (n : Int)] w fun e w' => ∃ q g h, e = .returned (.tuple #[.pointer (some ⟨q, 0, none⟩), .int .i64 0]) ∧ PO w' gp mp size 1 ((DataW.map []).put (.int .u16 a) (.lit (.bool true))) ∧
      w'.heap[q]? = some (.cells (prc n (some ⟨g, 0, none⟩) 0 false) 73 (0, 0)) ∧ BU w' w.heap.size g h N (List.replicate (4 * (N + 6)) 0) ∧ w.heap.size ≤ q ∧ q ≠ g ∧ q ≠ h ∧ Fg mp w w' := by
  have HP := Aside0.mk h
  have HN := Aside0.mk (And.intro hn (And.intro hN hs))
  have HK := Aside0.mk (seqKey ha)
  have hc1 : w.cell? ⟨gp, 1, none⟩ = some (.map (some mp)) := blk_cell h.box 1
  clear h hn hN hs ha
  go_enter Tryz.func10, Tryz.ntmps10
  go_wp2_with (first
    | (at_lookup; refine wpList_lookup_own_ok _ rfl _ _ 54 rfl 39 47 seqLaw Tryz.underlying54 RP (zeroP _) (.lit (.bool true)) [] rfl mp 0 (.map []) rfl HP.out.own _ _ rfl HK.out ?_; intro v ps hv; have hh : Maps.has (DataW.map [] : DataW Unit) (.int .u16 a) = false := rfl; rw [hh]; clear hv hh)
    | (go_at_call 22; refine Aside0.out ?_)
    | fail)
  refine Aside0.mk ?_
  refine (harqNew_calls HN.out.1 HN.out.2.1).mono ?_
  rintro e w1 ⟨q, g, h, rfl, hq, hbu, h1, h2, h3, hb⟩
  have HP1 := Aside0.mk (HP.out.below hb)
  have HQ1 := Aside0.mk hq
  have HU1 := Aside0.mk hbu
  have HB1 := Aside0.mk hb
  have HL := Aside0.mk (show w.heap.size ≤ q ∧ q ≠ g ∧ q ≠ h ∧ mp < w.heap.size ∧ gp < w.heap.size ∧ gp ≠ mp from ⟨h1, h2, h3, HP.out.lt.2.1, HP.out.lt.1, HP.out.lt.2.2⟩)
  clear hq hbu h1 h2 h3 hb hc1 HP
  go_wp2_with (first
    | (go_at_call 23; refine Aside0.out ?_)
    | fail)
  refine Aside0.mk ?_
  refine (room_calls HP1.out HN.out.2.2 _ _).mono ?_
  rintro e w2 ⟨rfl, hb⟩
  have HP2 := Aside0.mk (HP1.out.below hb)
  have HQ2 := Aside0.mk ((hb.block q (blk_lt HQ1.out)).trans HQ1.out)
  have HU2 := Aside0.mk (HU1.out.below hb)
  have HB2 := Aside0.mk (below_step HB1.out hb)
  clear hb HP1 HQ1 HU1 HB1
  have hc1 : w2.cell? ⟨gp, 1, none⟩ = some (.map (some mp)) := blk_cell HP2.out.box 1
  go_wp2_with (first
    | (at_mapUpdate; refine wpList_mapUpdate_in _ rfl _ _ _ 54 rfl 39 47 seqLaw Tryz.underlying54 RP mp 0 (.map []) rfl HP2.out.own (by decide) _ _ _ rfl rfl HK.out (.lit (.bool true)) [] rfl ?_; intro w3 hown hturn; have HO3 := Aside0.mk hown; have HT3 := Aside0.mk (put_of_turned hturn); clear hown hturn)
    | fail)
  have hrs : (Tryz.f10).results = #[.tmp 8, .tmp 9] := by kernel_rfl
  refine bodyPost_ret (results_tmp2 hrs _ _ _) rfl ?_
  have hl := HU2.out.lo
  have hm := HL.out
  exact ⟨q, g, h, rfl, ⟨(HT3.out.block gp hm.2.2.2.2.2).trans HP2.out.box, HO3.out⟩, (HT3.out.block q (by omega)).trans HQ2.out, HU2.out.putq HT3.out (by omega), hm.1, hm.2.1, hm.2.2.1, Fg.trans (Fg.of_below HB2.out) (Fg.of_put HT3.out)⟩
set_option maxRecDepth 100000 in
set_option maxHeartbeats 8000000 in
theorem drop_calls {w : World} {gp mp : Nat} {size : Int} (a : Int) (ha : 0 ≤ a ∧ a ≤ 65535) (h : PO w gp mp size 1 ((DataW.map []).put (.int .u16 a) (.lit (.bool true)))) :
    Calls Tryz.prog 12 #[.pointer (some ⟨gp, 0, none⟩), .int .u16 a] w fun e w' => e = .returned (.int .i64 0) ∧ PO w' gp mp size 0 (.map []) ∧ Put1 mp w w' := by
  have HP := Aside0.mk h
  have HK := Aside0.mk (seqKey ha)
  have hc1 : w.cell? ⟨gp, 1, none⟩ = some (.map (some mp)) := blk_cell h.box 1
  have hsame : (Lit.int .u16 a).sameKey (.int .u16 a) = true := by simp [Lit.sameKey]
  have hh : Maps.has ((DataW.map []).put (.int .u16 a) (.lit (.bool true)) : DataW Unit) (.int .u16 a) = true := by
    show Maps.has (DataW.map [(Lit.int .u16 a, DataW.lit (.bool true))] : DataW Unit) (.int .u16 a) = true
    rw [Maps.has_eq]; simp [hsame]
  have hd : (((DataW.map []).put (.int .u16 a) (.lit (.bool true)) : DataW Unit)).del (.int .u16 a) = .map [] := by
    show (DataW.map [(Lit.int .u16 a, DataW.lit (.bool true))] : DataW Unit).del (.int .u16 a) = .map []
    simp [DataW.del, hsame]
  have HH := Aside0.mk (And.intro hh hd)
  clear h ha hh hd hsame
  go_enter Tryz.func12, Tryz.ntmps12
  go_wp2_with (first
    | (at_lookup; refine wpList_lookup_own_ok _ rfl _ _ 54 rfl 39 47 seqLaw Tryz.underlying54 RP (zeroP _) (.lit (.bool true)) [] rfl mp 1 _ rfl HP.out.own _ _ rfl HK.out ?_; intro v ps hv; rw [HH.out.1]; clear hv)
    | (at_delete; refine wpList_delete_own _ rfl _ _ 54 39 rfl 47 seqLaw Tryz.underlying54 RP mp 1 _ rfl HP.out.own _ _ rfl HK.out ?_; intro w1 hown hturn; rw [HH.out.2] at hown; have HO := Aside0.mk (own_empty hown); have HT := Aside0.mk (put_of_turned hturn); clear hown hturn)
    | fail)
  have hrs : (Tryz.f12).results = #[.tmp 4] := by kernel_rfl
  refine bodyPost_ret (results_tmp hrs _ _ _) rfl ?_
  exact ⟨rfl, ⟨(HT.out.block gp HP.out.lt.2.2).trans HP.out.box, HO.out⟩, HT.out⟩
set_option maxRecDepth 100000 in
set_option maxHeartbeats 8000000 in
theorem plen_calls {w : World} {gp mp n : Nat} {size : Int} (h : PO w gp mp size n (.map [])) :
    Calls Tryz.prog 13 #[.pointer (some ⟨gp, 0, none⟩)] w fun e w' => e = .returned (.int .i64 0) ∧ Below w.heap.size w w' := by
  have HP := Aside0.mk h
  have hc1 : w.cell? ⟨gp, 1, none⟩ = some (.map (some mp)) := blk_cell h.box 1
  clear h
  go_enter Tryz.func13, Tryz.ntmps13
  go_wp2_with (first
    | (at_len; refine wpList_len_own _ rfl _ 54 rfl 39 47 Tryz.underlying54 RP mp n (.map []) rfl HP.out.own ?_; rw [show ((Maps.size (DataW.map [] : DataW Unit) : Nat) : Int) = 0 from rfl])
    | fail)
  have hrs : (Tryz.f13).results = #[.tmp 2] := by kernel_rfl
  refine bodyPost_ret (results_tmp hrs _ _ _) rfl ?_
  exact ⟨rfl, Below.refl _ _⟩
-- YtknanbnjbilciaaGreatDoorPKSplit
def q4 (vs : Nat → Value) : Array Value := #[vs 0, vs 1, vs 2, vs 3]
def up (vs : Nat → Value) (v : Nat) (x : Value) : Nat → Value := fun u => if u = v then x else vs u
theorem q4_get (vs : Nat → Value) {v : Nat} (h : v < 4) : (q4 vs)[v]? = some (vs v) := by
  obtain rfl | rfl | rfl | rfl : v = 0 ∨ v = 1 ∨ v = 2 ∨ v = 3 := by omega
  all_goals rfl
theorem q4_set (vs : Nat → Value) {v : Nat} (h : v < 4) (x : Value) : (q4 vs).setIfInBounds v x = q4 (up vs v x) := by
  obtain rfl | rfl | rfl | rfl : v = 0 ∨ v = 1 ∨ v = 2 ∨ v = 3 := by omega
  all_goals rfl
theorem q4_size : (Tryz.prog.info? 33).map (·.size) = some 4 := by kernel_rfl
theorem R_one {w : World} {base : Nat} {ok : Nat → Prop} {v : Value} {xs : List Int} (h : Kd.R (Kd.int .u8) 5 w base ok v xs) : v.oneCell' = true := by
  obtain ⟨A, c, rfl⟩ := Kd.R_slice h; rfl
theorem q4_one {vs : Nat → Value} (h : ∀ u, u < 4 → (vs u).oneCell' = true) : (q4 vs).all (·.oneCell') = true := by
  simp [q4, h 0 (by decide), h 1 (by decide), h 2 (by decide), h 3 (by decide)]
/-- Four rows in a box, apart. -/
structure QS (w : World) (base b : Nat) (vs : Nat → Value) (C : List Int) (i : Nat) : Prop where
  box : w.heap[b]? = some (.cells (q4 vs) 33 (0, 0))
  row : ∀ u, u < 4 → Kd.R (Kd.int .u8) 5 w base (fun _ => True) (vs u) (prt C u i)
  apart : ∀ u v, u < 4 → v < 4 → u ≠ v → ∀ k, (vs u).ownBlock = some k → (vs v).ownBlock ≠ some k
theorem QS.below {w w' : World} {base b i : Nat} {vs : Nat → Value} {C : List Int} (h : QS w base b vs C i) (hb : Below w.heap.size w w') : QS w' base b vs C i :=
  ⟨(hb.block b (blk_lt h.box)).trans h.box, fun u hu => Kd.R_below (h.row u hu) hb, h.apart⟩
theorem R_okk {w : World} {base : Nat} {ok ok' : Nat → Prop} {v : Value} {xs : List Int} (h : Kd.R (Kd.int .u8) 5 w base ok v xs) (hk : ∀ k, v.ownBlock = some k → ok' k) : Kd.R (Kd.int .u8) 5 w base ok' v xs := ⟨hk, h.2⟩
theorem QS.put {w w1 : World} {base b i v : Nat} {vs : Nat → Value} {C : List Int} {v1 : Value} {x : Int} (h : QS w base b vs C i) (hv : v < 4) (hi : ver (i % 4) (i / 4) = v) (hx : C.getD i 0 = x) (hr : Kd.R (Kd.int .u8) 5 w1 base (fun _ => True) v1 (prt C v i ++ [x]))
    (hg : w.grownBy w1 (vs v).ownBlock) (hat : v1.ownBlock = (vs v).ownBlock ∨ ∃ k, v1.ownBlock = some k ∧ w.heap.size ≤ k) : QS (w1.setCell ⟨b, v, none⟩ v1) base b (up vs v v1) C (i + 1) := by
  have hb1 := blk_grown h.box hg (Kd.R_ne (h.row v hv) h.box (by decide))
  have hp := Put1.set b v w1 v1
  have e : ∀ u, prt C u (i + 1) = if u = v then prt C v i ++ [x] else prt C u i := fun u => by
    rw [prt_succ, hi, hx]
    by_cases c : v = u
    · subst c; rw [if_pos rfl, if_pos rfl]
    · rw [if_neg c, if_neg (Ne.symm c), List.append_nil]
  refine ⟨blk_put hb1 v v1 (q4_set vs hv v1), fun u hu => ?_, fun u u' hu hu' hne k hk => ?_⟩
  · rw [e u]
    unfold up
    by_cases c : u = v
    · rw [if_pos c, if_pos c]
      refine Kd.R_mono (ok := fun k => k ≠ b) (Kd.R_step (R_okk hr (ok' := fun k => k ≠ b) (fun k hk e => ?_)) (fun k ok _ => hp.block k ok)) (fun _ _ => trivial)
      subst e
      exact (Kd.R_ne hr hb1 (by decide)) hk.symm
    · rw [if_neg c, if_neg c]
      have hru := h.row u hu
      have h1 := R_okk hru (ok' := fun k => some k ≠ (vs v).ownBlock ∧ k ≠ b) (fun k hk => ⟨fun e => h.apart u v hu hv c k hk e.symm, fun e => (Kd.R_ne hru h.box (by decide)) (by rw [← e]; exact hk.symm)⟩)
      have h2 := Kd.R_step h1 (fun k ok hk => (hp.block k ok.2).trans (hg.block k hk ok.1))
      exact Kd.R_mono h2 (fun _ _ => trivial)
  · unfold up at hk ⊢
    have hlt : ∀ u, u < 4 → ∀ k, (vs u).ownBlock = some k → k < w.heap.size := fun u hu k hk => Kd.R_lt (h.row u hu) k hk
    by_cases c : u = v
    · rw [if_pos c] at hk
      rw [if_neg (fun e => hne (c.trans e.symm))]
      rcases hat with e1 | ⟨j, e1, e2⟩
      · rw [e1] at hk; exact h.apart v u' hv hu' (fun e => hne (c.trans e)) k hk
      · rw [e1] at hk; cases hk
        intro e; have := hlt u' hu' _ e; omega
    · rw [if_neg c] at hk
      by_cases c' : u' = v
      · rw [if_pos c']
        rcases hat with e1 | ⟨j, e1, e2⟩
        · rw [e1]; exact h.apart u v hu hv c k hk
        · rw [e1]; intro e; cases e
          have := hlt u hu _ hk; omega
      · rw [if_neg c']
        exact h.apart u u' hu hu' hne k hk
set_option maxRecDepth 100000 in
set_option maxHeartbeats 8000000 in
theorem ksplit_calls {w : World} {A : Option Addr} {c : Nat} {C : List Int} (hC : Kd.C (Kd.int .u8) w A C.length C) (hc : C.length ≤ c) {m : Nat} (hm : C.length = 4 * m) (hl : m ≤ 1000) (hb : ∀ x ∈ C, isb x) :
    Calls Tryz.prog 34 #[.slice A C.length c] w fun e w' => ∃ vs : Nat → Value, e = .returned (.tuple #[.agg (q4 vs), .int .i64 0]) ∧ (∀ u, u < 4 → Kd.R (Kd.int .u8) 5 w' w.heap.size (fun _ => True) (vs u) (prt C u C.length)) ∧ Below w.heap.size w w' := by
  have HRT := Aside0.mk (fun w' (hb' : Below w.heap.size w w') => bits_Right.calls 5000 A c C true w' (Kd.C_below hC hb') hc (by
    rw [right_f C (by omega) 5000 (by omega), (big_isb (fun x hx => (isb01 (hb x hx)).1)).2 hb]; rfl))
  have HC := Aside0.mk hC
  have HM := Aside0.mk (And.intro hm hl)
  obtain ⟨L, hL⟩ : ∃ L, L = C.length := ⟨_, rfl⟩
  have HL := Aside0.mk hL
  have hLb : (L : Int) ≤ 4000 := by omega
  have hmod : Int.tmod (L : Int) 4 = 0 := by rw [Int.tmod_eq_emod_of_nonneg (by omega)]; omega
  rw [← hL] at HRT ⊢
  clear hC hc hm hl hb hL
  go_enter Tryz.func34, Tryz.ntmps34
  go_wp2_with (first
    | (go_at_call 35; refine Aside0.out ?_)
    | fail)
  refine Aside0.mk ?_
  have hba := below_alloc (Below.refl w.heap.size w) (.cells (q4 fun _ => .slice none 0 0) 33)
  have hbb := blk_new w (.cells (q4 fun _ => .slice none 0 0) 33)
  obtain ⟨w1, hw1⟩ : ∃ w1, w1 = w.alloc (.cells (q4 fun _ => .slice none 0 0) 33) := ⟨_, rfl⟩
  obtain ⟨a2, ha2⟩ : ∃ a2, a2 = w.heap.size := ⟨_, rfl⟩
  have HA0 := Aside0.mk (show w.heap.size ≤ a2 by rw [ha2]; exact Nat.le_refl _)
  rw [← hw1] at hba hbb
  rw [← ha2] at hbb
  show Calls _ _ _ (w.alloc (.cells (q4 fun _ => .slice none 0 0) 33)) _
  rw [← hw1, ← ha2]
  refine (HRT.out w1 hba).mono ?_
  rintro e w2 ⟨rfl, hd⟩
  have HB2 := Aside0.mk (below_step hba hd.below)
  have HA2 := Aside0.mk ((hd.below.block a2 (blk_lt hbb)).trans hbb)
  clear hba hbb hd hw1 ha2 HRT
  go_wp2_with fail
  have hba := below_alloc (Below.refl w2.heap.size w2) (.cells (q4 fun _ => .slice none 0 0) 33)
  have hbb := blk_new w2 (.cells (q4 fun _ => .slice none 0 0) 33)
  obtain ⟨w3, hw3⟩ : ∃ w3, w3 = w2.alloc (.cells #[.slice none 0 0, .slice none 0 0, .slice none 0 0, .slice none 0 0] 33) := ⟨_, rfl⟩
  obtain ⟨b4, hb4⟩ : ∃ b4, b4 = w2.heap.size := ⟨_, rfl⟩
  have hba : Below w2.heap.size w2 w3 := by rw [hw3]; exact hba
  have hbb : w3.heap[b4]? = some (.cells (q4 fun _ => .slice none 0 0) 33 (0, 0)) := by rw [hw3, hb4]; exact hbb
  have HBB := Aside0.mk (show a2 < b4 ∧ w.heap.size ≤ b4 from ⟨by rw [hb4]; exact blk_lt HA2.out, by rw [hb4]; exact HB2.out.size⟩)
  rw [← hw3, ← hb4]
  have HQ3 := Aside0.mk (show QS w3 w.heap.size b4 (fun _ => .slice none 0 0) C 0 from ⟨hbb, fun u _ => Kd.R_nil _ _ _ _ _, fun u v _ _ _ k hk => by simp [Value.ownBlock] at hk⟩)
  have HB3 := Aside0.mk (below_step HB2.out hba)
  have HA3 := Aside0.mk ((hba.block a2 (blk_lt HA2.out)).trans HA2.out)
  clear hba hbb hw3 hb4 HB2 HA2
  go_loopw [22] (fun v22 wr => ∃ (i : Nat) (vs : Nat → Value), v22 = .int .i64 (i : Int) ∧ i ≤ L ∧ Aside0 (QS wr w.heap.size b4 vs C i) ∧ Aside0 (wr.heap[a2]? = some (.cells (q4 fun _ => .slice none 0 0) 33 (0, 0))) ∧ Aside0 (Below w.heap.size w wr)) (fun v22 _ => L - (intOf v22).toNat)
  case atStart => exact ⟨0, _, by simp, by omega, HQ3, HA3, HB3⟩
  case round =>
    clear HQ3 HA3 HB3
    obtain ⟨i, vs, rfl, hi, HQ, HA, HB⟩ := hrel
    by_cases hlt : i < L
    · have g1 : (i : Int) < (L : Int) := by omega
      have hi0 : (0 : Int) ≤ (i : Int) := by omega
      have HI := Aside0.mk hlt
      obtain ⟨ad, rfl, hcx0⟩ := ReadsOf.at_ (Kd.reads_of_C (enc := Value.int .u8) (d := (0 : Int)) (h1 := fun _ => rfl) (Kd.C_below HC.out HB.out)) (i : Int) hi0 (by rw [← HL.out]; exact g1)
      rw [Int.toNat_natCast] at hcx0
      obtain ⟨x, hx⟩ : ∃ x, x = C.getD i 0 := ⟨_, rfl⟩
      have hcx : wr.cell? (ad.add i) = some (.int .u8 x) := by
        have e : rdOf 0 C (i : Int) = x := by rw [hx]; rfl
        rw [e] at hcx0; exact hcx0
      obtain ⟨p, hp⟩ : ∃ p : Nat, p = i % 4 := ⟨_, rfl⟩
      obtain ⟨t, ht⟩ : ∃ t : Nat, t = i / 4 := ⟨_, rfl⟩
      have hm1 : Int.tmod (i : Int) 4 = (p : Int) := by rw [Int.tmod_eq_emod_of_nonneg hi0]; omega
      have hm2 : Int.tdiv (i : Int) 4 = (t : Int) := by rw [Int.tdiv_eq_ediv_of_nonneg hi0]; omega
      have hm3 : (i : Int) / 4 = (t : Int) := by omega
      have htb : (t : Int) ≤ 1000 := by omega
      obtain ⟨v, hv⟩ : ∃ v, v = ver p t := ⟨_, rfl⟩
      have hv4 : v < 4 := by rw [hv]; exact ver_lt _ _
      have HVE := Aside0.mk (show ver (i % 4) (i / 4) = v by rw [hv, hp, ht])
      have HVF := Aside0.mk (fun w => pattern_Version.calls (p : Int) (t : Int) _ _ w (version_f p t (by omega) (by omega)))
      rw [← hv] at HVF
      have HV4 := Aside0.mk hv4
      have hv0 : (0 : Int) ≤ (v : Int) := by omega
      have hv5 : (v : Int) < 4 := by omega
      have HX := Aside0.mk hx
      have HT4 := Aside0.mk (And.intro hp ht)
      obtain ⟨y, hy⟩ : ∃ y : Int, y = (i : Int) := ⟨_, rfl⟩
      clear hcx0 hx hp ht hv hv4 hlt hi hy
      go_wp2_with (first
        | (go_at_call 68; refine Aside0.out ?_)
        | fail)
      refine Aside0.mk ?_
      refine (HVF.out wr).mono ?_
      rintro e w4 ⟨rfl, hd⟩
      have HQ4 := Aside0.mk (HQ.out.below hd.below)
      have HA4 := Aside0.mk ((hd.below.block a2 (blk_lt HA.out)).trans HA.out)
      have HB4 := Aside0.mk (below_step HB.out hd.below)
      have hcv : w4.cell? ⟨b4, v, none⟩ = some (vs v) := (blk_cell HQ4.out.box v).trans (q4_get vs HV4.out)
      clear hd HVF hcx hm1 hm2 hm3 HQ HA HB
      go_wp2_with (first
        | ((with_reducible refine gate_builtin (b := .append) (xs := #[.tmp 42, .tmp 44]) rfl ?_); at_builtin; refine Kd.R_append (Kd.int .u8) (w0 := w) w.heap.size rfl (.tmp 42) (.tmp 44) 31 5 (.int .u8 0) 1 rfl Tryz.underlying31 u8_info rfl (by decide) (by decide) (vs v) (prt C v i) x [.int .u8 x] (fun _ => True) (fun _ => False) rfl (by first | rfl | (go_simp; done) | (go_simp; rfl)) rfl (fun _ hk => hk.elim) (fun _ _ => trivial) (HQ4.out.row v HV4.out) HB4.out HB4.out.size (by have := prt_le C v i; have := HI.out; have := HM.out; have := HL.out; omega) ?_; intro v1 w1 ho hb hg hat; obtain ⟨A9, n9, c9, rfl⟩ : ∃ A n c, v1 = .slice A n c := (by obtain ⟨A, c, h⟩ := Kd.R_slice ho; exact ⟨A, _, c, h⟩); have hb1 := blk_grown HQ4.out.box hg (Kd.R_ne (HQ4.out.row v HV4.out) HQ4.out.box (by decide)); have HQ5 := Aside0.mk (HQ4.out.put HV4.out HVE.out HX.out.symm ho hg hat); have HA5 := Aside0.mk (blk_grown HA4.out hg (Kd.R_ne (HQ4.out.row v HV4.out) HA4.out (by decide))); have HB5 := Aside0.mk hb; have hcw : w1.cell? ⟨b4, v, none⟩ = some (vs v) := (blk_cell hb1 v).trans (q4_get vs HV4.out); have hfw := blk_frozen hb1 v; clear ho hb hg hat hb1 HQ4 HA4 HB4 hcv)
        | fail)
      have hpt := Put1.set b4 v w1 (.slice A9 n9 c9)
      exact ⟨⟨i + 1, up vs v (.slice A9 n9 c9), by simp, by have := HI.out; omega, HQ5, ⟨(hpt.block a2 (by have := HBB.out; omega)).trans HA5.out⟩, ⟨HB5.out.trans (hpt.below HBB.out.2)⟩⟩, by
        have hz : ∀ z : Int, intOf (Value.int IntKind.i64 z) = z := fun z => rfl
        have := HI.out
        rw [hz, hz]; omega⟩
    · obtain rfl : i = L := by omega
      have g1 : ¬ (i : Int) < (i : Int) := by omega
      clear hlt hi
      have hu := Tryz.underlying33
      have hone := q4_one (fun u hu => R_one (HQ.out.row u hu))
      go_wp2_with (first
        | (refine wpList_load_row rfl 33 (.tmp 4) rfl b4 rfl 33 (q4 vs) (0, 0) _ HQ.out.box hu rfl q4_size ?_)
        | (refine wpList_store_row rfl 33 (.tmp 2) (.tmp 48) rfl a2 (q4 vs) rfl rfl 33 _ HA.out q4_size rfl hone ?_)
        | fail)
      refine bodyPost_ret (results_ct rfl _ _ a2 33 (q4 vs) (0, 0) _ rfl (setRow_heap _ _ _ _ _ _ HA.out) hu rfl q4_size) rfl ?_
      have hpr := Put1.row a2 wr (q4 vs)
      refine ⟨vs, rfl, fun u hu => ?_, below_setRow HB.out HA0.out _⟩
      have hru := HQ.out.row u hu
      refine Kd.R_mono (Kd.R_step (R_okk hru (ok' := fun k => k ≠ a2) (fun k hk e => ?_)) (fun k ok _ => hpr.block k ok)) (fun _ _ => trivial)
      subst e
      exact (Kd.R_ne hru HA.out (by decide)) hk.symm
set_option maxRecDepth 100000 in
set_option maxHeartbeats 8000000 in
theorem kcode_calls {w : World} (hT : TP w) {A : Option Addr} {c : Nat} {l : List Int} (hl : Kd.C (Kd.int .u8) w A l.length l) (hc : l.length ≤ c) (hb : ∀ x ∈ l, isb x) (hn : l.length ≤ 900) (v : Nat) (hv : v < 4) :
    Calls Tryz.prog 17 #[.slice A l.length c, .int .i64 (v : Int)] w fun e w' => ∃ u, e = .returned (.tuple #[u, .int .i64 0]) ∧ Kd.R (Kd.int .u8) 5 w' w.heap.size (fun _ => True) u (vp (code l) v (l.length + 6)) ∧ Below w.heap.size w w' := by
  have hcl := code_length l
  have hci : ∀ x ∈ code l, isb x := codeN_isb hb _
  have HCC := Aside0.mk (conv_Code.calls 2000 A c l (code l) 0 w hl hc (Code_f l hb (by omega) 2000 (by omega)) hT)
  have HN := Aside0.mk (And.intro hcl (And.intro hci hn))
  have HV := Aside0.mk hv
  have hv0 : (0 : Int) ≤ (v : Int) := by omega
  have hv4 : (v : Int) < 4 := by omega
  have HP := Aside0.mk (show prt (code l) v (code l).length = vp (code l) v (l.length + 6) by rw [hcl]; exact prt_four _ v hv _)
  obtain ⟨L, hL⟩ : ∃ L, L = l.length := ⟨_, rfl⟩
  rw [← hL] at HCC HP HN ⊢
  clear hl hc hb hn hv hT hcl hci hL
  go_enter Tryz.func17, Tryz.ntmps17
  go_wp2_with (first
    | (go_at_call 33; refine Aside0.out ?_)
    | fail)
  refine Aside0.mk ?_
  refine HCC.out.mono ?_
  rintro e w1 ⟨u1, rfl, hu, hb⟩
  obtain ⟨A1, c1, rfl⟩ := Kd.R_slice hu
  have HS := Aside0.mk (ksplit_calls (Kd.R_reads' hu).2.2 (Kd.R_reads' hu).2.1 (m := L + 6) HN.out.1 (by have := HN.out.2.2; omega) HN.out.2.1)
  have HB1 := Aside0.mk hb
  obtain ⟨K, hK⟩ : ∃ K, K = (code l).length := ⟨_, rfl⟩
  rw [← hK] at HS HP ⊢
  clear hu hb HCC hK
  go_wp2_with (first
    | (go_at_call 34; refine Aside0.out ?_)
    | fail)
  refine Aside0.mk ?_
  refine HS.out.mono ?_
  rintro e w2 ⟨vs, rfl, hr, hb⟩
  have HR2 := Aside0.mk hr
  have HB2 := Aside0.mk (below_step HB1.out hb)
  have HS1 := Aside0.mk HB1.out.size
  have hone := q4_one (fun u hu => R_one (hr u hu))
  clear hr hb HS HB1
  go_wp2_with (first
    | (refine wpList_store_row rfl 33 (.tmp 8) (.tmp 26) rfl w2.heap.size (q4 vs) rfl rfl 33 _ (blk_new w2 _) q4_size rfl hone ?_; refine Aside0.out ?_)
    | fail)
  refine Aside0.mk ?_
  have hba := below_alloc (Below.refl w2.heap.size w2) (.cells #[.slice none 0 0, .slice none 0 0, .slice none 0 0, .slice none 0 0] 33)
  have hbb := setRow_heap (w2.alloc (.cells #[.slice none 0 0, .slice none 0 0, .slice none 0 0, .slice none 0 0] 33)) w2.heap.size _ (q4 vs) _ _ (blk_new w2 (.cells #[.slice none 0 0, .slice none 0 0, .slice none 0 0, .slice none 0 0] 33))
  have hbs := below_setRow hba (Nat.le_refl _) (q4 vs)
  obtain ⟨b8, hb8⟩ : ∃ b, b = w2.heap.size := ⟨_, rfl⟩
  obtain ⟨w3, hw3⟩ : ∃ w3, w3 = (w2.alloc (.cells #[.slice none 0 0, .slice none 0 0, .slice none 0 0, .slice none 0 0] 33)).setRow w2.heap.size (q4 vs) := ⟨_, rfl⟩
  rw [← hw3] at hbs hbb ⊢
  rw [← hb8] at hbb ⊢
  have hcv : w3.cell? ⟨b8, v, none⟩ = some (vs v) := (blk_cell hbb v).trans (q4_get vs HV.out)
  have HR3 := Aside0.mk (Kd.R_lower (Kd.R_below (HR2.out v HV.out) hbs) HS1.out)
  have HB3 := Aside0.mk (below_step HB2.out hbs)
  clear hba hbb hbs hb8 hw3 HR2 HB2 hone
  go_wp2_with fail
  have hrs : (Tryz.f17).results = #[.tmp 4, .tmp 5] := by kernel_rfl
  refine bodyPost_ret (results_tmp2 hrs _ _ _) rfl ?_
  exact ⟨vs v, rfl, by rw [← HP.out]; exact HR3.out, HB3.out⟩
end Go.Proofs.YtknanbnjbilciaaGreatDoor.P
