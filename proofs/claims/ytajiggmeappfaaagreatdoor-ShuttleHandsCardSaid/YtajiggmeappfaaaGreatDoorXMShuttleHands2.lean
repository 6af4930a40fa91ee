/- Texts of this seat, one behind the other (merge.py): the walks of the functions that the law ShuttleHands uses, and plain words on what they come to. No condition. -/
import Derived.RangeFuncNested
import Derived.RangeFuncBound
import Derived.RangeFuncCalls
import Derived.RangeFuncLeaves
import Derived.RangeFuncBox
import Derived.Shelf.Abstract
import Derived.WalkKit
import Derived.OwnWalkIn
import Derived.TacticsInMore
import Derived.LoopNIn
import Derived.LoopIn
import Derived.Maps.AppendAt
import Derived.Deep.DrawnRows
import Derived.Laws.BytesArg
import Derived.Test.YtajiggmeappfaaaGreatDoorXMShuttleHands1
namespace Go.Proofs.YtajiggmeappfaaaGreatDoor.P
open Go.RowKit Go.Proofs.YtajiggmeappfaaaGreatDoorW.PrintWords Go.Proofs.YtajiggmeappfaaaGreatDoorW.PrintLast Go.Proofs.YtajiggmeappfaaaGreatDoorW.PrintMore
set_option maxRecDepth 100000
set_option maxHeartbeats 8000000
set_option linter.unusedVariables false
set_option linter.unusedSimpArgs false
-- YtajiggmeappfaaaGreatDoorPVDec
theorem clip_f {x : Int} (h : -31 ≤ x ∧ x ≤ 31) : soft_Clip.f x = some x := by
 unfold soft_Clip.f
 refine congrArg some ?_
 have e1 : Go.Proofs.YtajiggmeappfaaaGreatDoorW.PrintWords.mn x 31 = x := by unfold Go.Proofs.YtajiggmeappfaaaGreatDoorW.PrintWords.mn; split <;> omega
 rw [e1]
 unfold Go.Proofs.YtajiggmeappfaaaGreatDoorW.PrintWords.mx; split <;> omega
theorem iindex_l0 (l : List Int) (hl : l.length ≤ 100000) (hb : ∀ x ∈ l, -31 ≤ x ∧ x ≤ 31) (d : Nat) : ∀ k i : Nat, i + d = l.length → d < k →
  slices_IndexFunc_int_int.l0 k l (l.length : Int) (i : Int) = some (-1) := by
 induction d with
 | zero =>
  intro k i hi hk
  obtain ⟨k, rfl⟩ := pred hk
  rw [slices_IndexFunc_int_int.l0.eq_2, if_neg (by omega)]
 | succ d ih =>
  intro k i hi hk
  obtain ⟨k, rfl⟩ := pred hk
  have hlt : i < l.length := by omega
  have hn := ih k (i + 1) (by omega) (by omega)
  have hx := clip_f (hb l[i] (List.getElem_mem hlt))
  rw [slices_IndexFunc_int_int.l0.eq_2, if_pos (by omega), if_pos (by omega), if_pos (by omega), rd_get l i hlt]
  unfold viterbi_Decode_1.f
  rw [hx, Option.bind_some, Option.bind_some, if_neg (by simp), wrap_succ i (by omega)]
  exact hn
theorem contains_f (l : List Int) (hl : l.length ≤ 100000) (hb : ∀ x ∈ l, -31 ≤ x ∧ x ≤ 31) : slices_ContainsFunc_int_int.f (l.length + 1) l = some false := by
 unfold slices_ContainsFunc_int_int.f slices_IndexFunc_int_int.f
 rw [show slices_IndexFunc_int_int.l0 (l.length + 1) l (l.length : Int) 0 = some (-1) from iindex_l0 l hl hb l.length (l.length + 1) 0 (by omega) (by omega), Option.bind_some]
 rfl
def dec10.T : Bool × List (List Nat × List Nat) := (true, [([], []), ([], []), ([], []), ([0, 1, 2], [0, 1, 2]), ([], []), ([4], [4]), ([5], [5]), ([6], [6]), ([3, 3, 0, 1, 2, 3], [3]), ([7, 8, 0, 1, 2, 3, 4, 5, 6, 7, 8], [7]), ([9, 0, 1, 2, 3, 4, 5, 6, 7, 8, 9], [])])
def dec10.B : List Nat := [0, 0, 0, 7, 0, 16, 48, 112, 15, 511, 1023]
theorem dec10.tab : rtab .any (opsOf Tryz.f143 10) = dec10.T := by kernel_rfl
theorem dec10.bits : waitsOk dec10.T.2 dec10.B = true := by kernel_rfl
theorem vdecode_calls {w : World} (hT : TP w) {A : Option Addr} {c : Nat} {L : List Int} (hL : Kd.C (Kd.int .i64) w A L.length L) (hc : L.length ≤ c) (n : Nat) (hN : L.length = 4 * (n + 6)) (hn : n ≤ 1000) (hLb : ∀ j, -31 ≤ L.getD j 0 ∧ L.getD j 0 ≤ 31) (b : List Nat) (hA : Alone (fun j => L.getD j 0) (n + 6) n b) :
  Calls Tryz.prog 143 #[.slice A (4 * (n + 6)) c] w fun e w' => ∃ v sc, e = .returned (.tuple #[v, sc, .int .i64 0]) ∧ Kd.R (Kd.int .u8) 5 w' w.heap.size (fun _ => True) v (toI (b.take n)) ∧ Below w.heap.size w w' := by
 have HT := ax hT
 have HL := ax hL
 have HCC := ax hc
 have HLB := ax hLb
 have HAL := ax hA
 have HCF := ax (contains_f L (by omega) (fun x hx => by
  obtain ⟨j, hj, rfl⟩ := List.getElem_of_mem hx
  have h := hLb j
  rw [List.getD_eq_getElem?_getD, List.getElem?_eq_getElem hj] at h
  exact h))
 obtain ⟨N, hNd⟩ : ∃ N, N = n + 6 := ⟨_, rfl⟩
 rw [← hNd] at hN ⊢
 rw [← hNd] at HAL
 have HNN := ax (And.intro hNd (And.intro hN hn))
 have hq : Int.tdiv ((4 * N : Nat) : Int) 4 = (N : Int) := by rw [Int.tdiv_eq_ediv_of_nonneg (by omega)]; omega
 have hr : Int.tmod ((4 * N : Nat) : Int) 4 = 0 := by rw [Int.tmod_eq_emod_of_nonneg (by omega)]; omega
 have hNb : (N : Int) ≤ 1006 := by omega
 have hsub : (N : Int) - 6 = (n : Int) := by omega
 have hn0 : ¬ (n : Int) < 0 := by omega
 have hn1 : ¬ (n : Int) > 4096 := by omega
 have HST := ax (fun w => conv_Steps.calls 0 6 w (by unfold conv_Steps.f; rw [if_neg (by decide)]; exact congrArg some (by unfold wrap64; decide)))
 clear hT hL hc hLb hA hN hn hNd
 go_enter Tryz.func143, Tryz.ntmps143
 go_wp2_with (first
  | (go_at_call 154; refine Aside0.out ?_)
  | fail)
 refine ax ?_
 refine (HST.out w).mono ?_
 rintro e w1 ⟨rfl, hd⟩
 have HB1 := ax hd.below
 clear hd HST
 have hcf := slices_ContainsFunc_int_int.calls (L.length + 1) A c L false w1 (Kd.C_below HL.out HB1.out) HCC.out HCF.out
 rw [HNN.out.2.1] at hcf
 have HCN := ax hcf
 clear hcf
 go_wp2_with (first
  | (go_at_call 190; refine Aside0.out ?_)
  | fail)
 refine ax ?_
 refine HCN.out.mono ?_
 rintro e w2 ⟨rfl, hd⟩
 have HB2 := ax (below_step HB1.out hd.below)
 have HBU := ax (build_calls (TP_of HT.out HB2.out))
 clear hd HCN HB1
 go_wp2_with (first
  | (go_at_call 192; refine Aside0.out ?_)
  | fail)
 refine ax ?_
 refine HBU.out.mono ?_
 rintro e w3 ⟨C, rfl, hC, hb⟩
 have HB3 := ax (below_step HB2.out hb)
 have HG := ax hC
 have HCS := ax hC.1
 clear hb hC HBU HB2
 go_wp2_with (first
  | (refine wpList_store_row rfl 312 (.tmp 6) (.tmp 32) rfl w3.heap.size C rfl rfl 312 _ (blk_new w3 _) (by rw [HCS.out]; exact g_size) (by rw [HCS.out]; exact zG) HG.out.one ?_; refine Aside0.out ?_)
  | fail)
 refine ax ?_
 have hba := below_alloc (Below.refl w3.heap.size w3) (.cells Tryz.zeroCells312 312)
 have hbb := setRow_heap (w3.alloc (.cells Tryz.zeroCells312 312)) w3.heap.size _ C _ _ (blk_new w3 (.cells Tryz.zeroCells312 312))
 have hbs := below_setRow hba (Nat.le_refl _) C
 obtain ⟨a6, ha6⟩ : ∃ a6, a6 = w3.heap.size := ⟨_, rfl⟩
 obtain ⟨w4, hw4⟩ : ∃ w4, w4 = (w3.alloc (.cells Tryz.zeroCells312 312)).setRow w3.heap.size C := ⟨_, rfl⟩
 rw [← hw4] at hbs hbb ⊢
 have HB4 := ax (below_step HB3.out hbs)
 rw [← ha6] at hbb ⊢
 have HE4 := ax (show EB w4 a6 128 from ⟨C, hbb, HG.out.1, fun q j hq hj => HG.out.2 q j hq hj⟩)
 clear hba hbb hbs ha6 hw4 HB3 HG HCS
 have hco := columns_calls (w := w4) (A := A) (c := c) (L := L) (Kd.C_below HL.out HB4.out) HCC.out N n HNN.out.2.1 (by have := HNN.out; omega) HLB.out (by have := HNN.out; omega) HE4.out
 have HCO := ax hco
 clear hco
 go_wp2_with (first
  | (go_at_call 193; refine Aside0.out ?_)
  | fail)
 refine ax ?_
 refine HCO.out.mono ?_
 rintro e w5 ⟨v, rfl, hv⟩
 obtain ⟨H, Q, cc, rfl, hH, hQ, hci, hb⟩ := hv
 have hd : Below w5.heap.size w5 w5.drew := below_drew1 (Below.refl _ _)
 have HB5 := ax (below_step (below_step HB4.out hb) hd)
 have HE5 := ax (EB.below' (EB.below' HE4.out hb) hd)
 have HQ5 := ax (show w5.drew.heap[H]? = some (.cells (ints Q) 320 (0, 0)) from (hd.block H (blk_lt hQ)).trans hQ)
 have HCI := ax hci
 have htc := trace_calls (w := w5.drew) (A := A) (c := c) (L := L) (Kd.C_below HL.out HB5.out) HCC.out N n HNN.out.2.1 (by have := HNN.out; omega) HLB.out (by have := HNN.out; omega) HE5.out HQ5.out HCI.out b HAL.out (cc := cc)
 have HTC := ax htc
 obtain ⟨S0, hS0⟩ : ∃ S0, S0 = Q.getD 0 0 := ⟨_, rfl⟩
 have HSC := ax (show w5.drew.cell? ⟨H, 0, none⟩ = some (.int .i64 S0) from (blk_cell HQ5.out 0).trans ((ints_get Q 0 (by have := HCI.out.1; omega)).trans (by rw [hS0])))
 obtain ⟨M, hM⟩ : ∃ M, M = N + 1 := ⟨_, rfl⟩
 rw [← hM] at HTC ⊢
 have hM0 : (0 : Int) < (M : Int) := by omega
 have hMn : 0 < M := by omega
 clear hd hb hH hQ hci htc hS0 HCO HB4 HE4 hM
 go_wp2_with fail
 refine start_ (n := 11) (S := (fun w' => w'.cell? ⟨H, 0, none⟩ = some (.int .i64 S0))) (ds := []) #[false, false, false, false, false, false, false, false, false, false, false] kr rfl rfl HSC.out (fun hHeld => ?_)
 refine with_tabW dec10.tab dec10.bits (fun HT_ HW_ => ?_)
 refine pu_ 0 40 HT_ ?_; refine pu_ 1 41 HT_ ?_; refine pu_ 2 42 HT_ ?_; refine pu_ 4 44 HT_ ?_; refine pu_ 5 45 HT_ ?_; refine pu_ 6 46 HT_ ?_; refine tk_ 7 47 HT_ HW_ hHeld ?_
 refine on_ 3 HT_ fun K hK => ?_
 refine goes_ Tryz.func194 kr rfl #[.slice A (4 * N) c, .int .i64 n, .pointer (some ⟨a6, 0, none⟩), .slice (some ⟨H, 0, none⟩) M cc] (by rfl) rfl rfl gs_ ?_
 refine HTC.out.mono ?_
 rintro e w7 ⟨v, rfl, hv, hb⟩
 have HV := ax (Kd.R_lower hv HB5.out.size)
 have HB7 := ax (below_step HB5.out hb)
 have HS7 := ax ((hb.cell (p := ⟨H, 0, none⟩) (blk_lt HQ5.out)).trans HSC.out)
 clear hv hb HTC
 refine ⟨_, rfl, ?_⟩
 refine hK.out _ _ HS7.out (fun hHeld => ?_)
 clear hK K
 refine norm_ (a' := ?_) ?_ ?_
 rotate_left
 ·show Act.put _ (some 43) _ = _
  simp only [Act.put, List.setIfInBounds_toArray, List.set_cons_zero, List.set_cons_succ, i64_w, i32_w]
  rfl
 refine pu_ 8 2 HT_ ?_; refine pu_ 9 3 HT_ ?_; refine pu_ 10 4 HT_ ?_
 refine done_ (done_of HT_.out kr) ?_
 clear hHeld
 go_wp2_with fail
 have hrs : (Tryz.f143).results = #[.tmp 2, .tmp 3, .tmp 4] := by kernel_rfl
 refine bodyPost_ret (results_tmp3 hrs _ _ _) rfl ?_
 exact ⟨v, _, rfl, HV.out, HB7.out⟩
-- YtajiggmeappfaaaGreatDoorP67
section
attribute [local go_sem] max2_int min2_int max_two min_two max_three min_three max_four min_four
def version_Bits.f (a0 : Int) : Option (Int) := (conv_Steps.f a0).bind fun t332 => (some t332)
theorem version_Bits.calls (a0 : Int) (r : Int) (w : World) (h : version_Bits.f a0 = some r) :
  Calls Tryz.prog 127 #[.int .i64 a0] w fun e w' => e = .returned (.int .i64 r) ∧ Drawn0 w w' := by
 have H : ((conv_Steps.f a0).bind fun t332 => (some t332)) = some r := h
 clear h
 replace H := Option.bind_eq_some_iff.mp H
 obtain ⟨t332, A20, H⟩ := H
 replace H : (some t332) = some r := H
 have A2 := ax A20
 clear A20
 obtain rfl := Option.some.inj H
 go_enter Tryz.func127, Tryz.ntmps127
 go_wp2_with (first | ((with_reducible refine gate_callee (f := 154) rfl ?_); refine goesL_ (some 4) rfl rfl Tryz.func154 kr rfl #[.int .i64 a0] rfl gl_ ?_; (with_reducible refine (conv_Steps.calls a0 t332 _ A2.out).mono ?_); rintro e w' ⟨rfl, ⟨nd, rfl⟩⟩; refine ⟨_, rfl, ?_⟩))
 go_ret
 exact ⟨rs_, dr_⟩
end
-- YtajiggmeappfaaaGreatDoorPCBuf
theorem made_one (m : Nat) : madeCells #[Value.int .i64 0] m = ints (List.replicate m 0) := by
 apply Array.ext_getElem?
 intro j
 by_cases h : j < m
 ·rw [ints_get _ _ (by simpa using h)]
  have hz : ∀ k, k < 1 → #[Value.int .i64 0][k]! = Value.int .i64 0 := fun k hk => by
   obtain rfl : k = 0 := by omega
   rfl
  unfold madeCells
  rw [show (#[Value.int .i64 0] : Array Value).size = 1 from rfl, Array.getElem?_eq_getElem (by simpa using h), Array.getElem_map, Array.getElem_range, hz _ (Nat.mod_lt _ (by decide)), List.getD_eq_getElem?_getD, List.getElem?_replicate, if_pos h]; rfl
 ·rw [Array.getElem?_eq_none (by rw [size_madeCells]; omega), Array.getElem?_eq_none (by rw [ints_size, List.length_replicate]; omega)]
theorem make_ints (m : Nat) (hm : m ≤ 100000) (w : World) : (Instr.makeSlice 24 (.int .i64 (m : Int)) (.int .i64 (m : Int))).run Tryz.prog w = .ok (.slice (some ⟨w.heap.size, 0, none⟩) m m) (w.alloc (.cells (ints (List.replicate m 0)) 3)) := by
 obtain ⟨i, hi, hz0, hz1, hz2⟩ := info_parts i64_info
 have h := run_make (P := Tryz.prog) w 24 3 i (.int .i64 0) Tryz.underlying24 hi hz0 .i64 .i64 (m : Int) (m : Int) (by omega) (by omega) (by rw [hz2]; omega) (by omega)
 rw [hz1] at h
 simp only [Int.toNat_natCast, Nat.mul_one] at h
 rw [show (Value.int IntKind.i64 0).cells = #[Value.int .i64 0] from rfl, made_one] at h
 exact h
structure BU (w : World) (S g h n : Nat) (σ : List Int) : Prop where
 box : ∃ C : Array Value, w.heap[g]? = some (.cells C 246 (0, 0)) ∧ C.size = 6 ∧ C[0]? = some (.int .i64 (n : Int)) ∧ C[1]? = some (.slice (some ⟨h, 0, none⟩) (4 * (n + 6)) (4 * (n + 6))) ∧ ∀ v, v < 4 → ∃ c, C[2 + v]? = some (.int .i64 c)
 row : w.heap[h]? = some (.cells (ints σ) 3 (0, 0))
 len : σ.length = 4 * (n + 6)
 lo : S ≤ g ∧ S ≤ h ∧ g ≠ h
theorem BU.below {w w' : World} {S g h n : Nat} {σ : List Int} (b : BU w S g h n σ) (hb : Below w.heap.size w w') : BU w' S g h n σ := by
 obtain ⟨C, hC, r⟩ := b.box
 exact ⟨⟨C, (hb.block g (blk_lt hC)).trans hC, r⟩, (hb.block h (blk_lt b.row)).trans b.row, b.len, b.lo⟩
theorem below_less {B C : Nat} {w w' : World} (h : Below B w w') (hc : C ≤ B) : Below C w w' := ⟨h.os, h.tape, h.output, h.size, fun k hk => h.block k (by omega)⟩
theorem bits_n (n : Nat) (hn : n ≤ 1000) : version_Bits.f (n : Int) = some ((n + 6 : Nat) : Int) := by
 unfold version_Bits.f conv_Steps.f
 rw [if_neg (by omega)]
 simp only [Option.bind_some]
 refine congrArg some ?_
 unfold wrap64; omega
theorem reset_calls {w : World} {g n : Nat} (hn : n ≤ 1000) (hg : w.heap[g]? = some (.cells #[.int .i64 (n : Int), .slice none 0 0, .int .i64 0, .int .i64 0, .int .i64 0, .int .i64 0] 246 (0, 0))) :
  Calls Tryz.prog 184 #[.pointer (some ⟨g, 0, none⟩)] w fun e w' => e = .returned (.tuple #[]) ∧ ∃ h, BU w' g g h n (List.replicate (4 * (n + 6)) 0) ∧ w.heap.size ≤ h ∧ Below g w w' := by
 have HG := ax hg
 have HN := ax hn
 have HBN := ax (fun w => version_Bits.calls (n : Int) _ w (bits_n n hn))
 obtain ⟨k, hk⟩ : ∃ k, k = n + 6 := ⟨_, rfl⟩
 have HK := ax hk
 rw [← hk] at HBN
 have hkb : (k : Int) ≤ 1006 := by omega
 obtain ⟨M, hM⟩ : ∃ M, M = 4 * k := ⟨_, rfl⟩
 have hM2 : 4 * (k : Int) = (M : Int) := by omega
 have hMb : (M : Int) ≤ 5000 := by omega
 have HM := ax hM
 have hc0 := blk_cell hg 0
 clear hg hn hk hM
 go_enter Tryz.func184, Tryz.ntmps184
 go_wp2_with (first
  | (go_at_call 127; refine Aside0.out ?_)
  | fail)
 refine ax ?_
 refine (HBN.out w).mono ?_
 rintro e w1 ⟨rfl, hd⟩
 have HG1 := ax ((hd.below.block g (blk_lt HG.out)).trans HG.out)
 have HB1 := ax hd.below
 have hmk := make_ints M (by omega) w1
 have hfz1 := blk_frozen (blk_alloc HG1.out (.cells (ints (List.replicate M 0)) 3)) 1
 have hcl1 := blk_cell (blk_alloc HG1.out (.cells (ints (List.replicate M 0)) 3)) 1
 clear hd HBN hc0
 go_wp2_with (first
  | ((with_reducible refine gate_ (.store 244 (.tmp 17) (.tmp 15)) rfl ?_); refine Aside0.out ?_)
  | fail)
 refine ax ?_
 have hba := below_alloc (Below.refl w1.heap.size w1) (.cells (ints (List.replicate M 0)) 3)
 have hbb := blk_new w1 (.cells (ints (List.replicate M 0)) 3)
 obtain ⟨h, hh⟩ : ∃ h, h = w1.heap.size := ⟨_, rfl⟩
 rw [← hh] at hbb ⊢
 obtain ⟨w2, hw2⟩ : ∃ w2, w2 = w1.alloc (.cells (ints (List.replicate M 0)) 3) := ⟨_, rfl⟩
 have HGH := ax (show g < h ∧ w.heap.size ≤ h by rw [hh]; exact ⟨blk_lt HG1.out, HB1.out.size⟩)
 rw [← hw2] at hba hbb ⊢
 have hG2 := (hba.block g (blk_lt HG1.out)).trans HG1.out
 have hG3 := blk_put hG2 1 (.slice (some ⟨h, 0, none⟩) M M) rfl
 have hp := Put1.set g 1 w2 (.slice (some ⟨h, 0, none⟩) M M)
 have hr3 := (hp.block h (by have := HGH.out; omega)).trans hbb
 have hb3 : Below g w (w2.setCell ⟨g, 1, none⟩ (.slice (some ⟨h, 0, none⟩) M M)) := (below_less (below_step HB1.out hba) (Nat.le_of_lt (blk_lt HG.out))).trans (hp.below (Nat.le_refl _))
 obtain ⟨w3, hw3⟩ : ∃ w3, w3 = w2.setCell ⟨g, 1, none⟩ (.slice (some ⟨h, 0, none⟩) M M) := ⟨_, rfl⟩
 rw [← hw3] at hG3 hr3 hb3 ⊢
 have hth : w3.there g 2 4 := fun j hj => ⟨by rw [blk_cell hG3]; obtain rfl | rfl | rfl | rfl : j = 0 ∨ j = 1 ∨ j = 2 ∨ j = 3 := by omega
                                              all_goals rfl, blk_frozen hG3 _⟩
 refine wpList_store_mid rfl 244 (.tmp 17) (.tmp 15) rfl g 2 #[.int .i64 0, .int .i64 0, .int .i64 0, .int .i64 0] rfl rfl hth kr (by simp [Value.oneCell']) ?_
 obtain ⟨C2, k1, k2, k3, k4⟩ := setCells_blk [.int .i64 0, .int .i64 0, .int .i64 0, .int .i64 0] 2 w3 _ hG3
 have hp2 := Put1.cells_ g [.int .i64 0, .int .i64 0, .int .i64 0, .int .i64 0] 2 w3
 have HR := ax (show BU (w3.setCells g 2 [.int .i64 0, .int .i64 0, .int .i64 0, .int .i64 0]) g g h n (List.replicate (4 * (n + 6)) 0) from
  ⟨⟨C2, k1, k2, (k3 0 (.inl (by decide))).trans rfl, (k3 1 (.inl (by decide))).trans (by rw [← HK.out, ← HM.out]; rfl), fun v hv => ⟨0, by
   refine k4 v _ ?_ (by show 2 + v < 6; omega)
   obtain rfl | rfl | rfl | rfl : v = 0 ∨ v = 1 ∨ v = 2 ∨ v = 3 := by omega
   all_goals rfl⟩⟩, by rw [← HK.out, ← HM.out]; exact (hp2.block h (by have := HGH.out; omega)).trans hr3, by rw [List.length_replicate], ⟨Nat.le_refl _, by have := HGH.out; omega, by have := HGH.out; omega⟩⟩)
 have HBF := ax (hb3.trans (hp2.below (Nat.le_refl _)))
 obtain ⟨w4, hw4⟩ : ∃ w4, w4 = w3.setCells g 2 [.int .i64 0, .int .i64 0, .int .i64 0, .int .i64 0] := ⟨_, rfl⟩
 rw [show (#[Value.int .i64 0, .int .i64 0, .int .i64 0, .int .i64 0] : Array Value).toList = [.int .i64 0, .int .i64 0, .int .i64 0, .int .i64 0] from rfl, ← hw4]
 rw [← hw4] at HR HBF
 clear hba hbb hh hw2 hw3 hw4 hG2 hG3 hr3 hb3 hp hp2 hth k1 k2 k3 k4 hmk hfz1 hcl1
 go_wp2_with fail
 refine bodyPost_end (results_none rfl _ _ _) rfl ?_
 exact ⟨rfl, h, HR.out, HGH.out.2, HBF.out⟩
theorem new_calls {w : World} {n : Nat} (hn : n ≤ 1000) :
  Calls Tryz.prog 137 #[.int .i64 (n : Int)] w fun e w' => ∃ g h, e = .returned (.tuple #[.pointer (some ⟨g, 0, none⟩), .int .i64 0]) ∧ BU w' w.heap.size g h n (List.replicate (4 * (n + 6)) 0) ∧ Below w.heap.size w w' := by
 have HN := ax hn
 have h1 : ¬ (n : Int) < 0 := by omega
 have h2 : ¬ (n : Int) > 4096 := by omega
 clear hn
 go_enter Tryz.func137, Tryz.ntmps137
 go_wp2_with (first
  | (go_at_call 184; refine Aside0.out ?_)
  | fail)
 refine ax ?_
 have hba := below_alloc (Below.refl w.heap.size w) (.cells #[.int .i64 (n : Int), .slice none 0 0, .int .i64 0, .int .i64 0, .int .i64 0, .int .i64 0] 246)
 have hbb := blk_new w (.cells #[.int .i64 (n : Int), .slice none 0 0, .int .i64 0, .int .i64 0, .int .i64 0, .int .i64 0] 246)
 refine (reset_calls HN.out hbb).mono ?_
 rintro e w2 ⟨rfl, h, hu, hh, hb⟩
 have HU := ax (show BU w2 w.heap.size w.heap.size h n _ from ⟨hu.box, hu.row, hu.len, ⟨Nat.le_refl _, hu.lo.2.1, hu.lo.2.2⟩⟩)
 have HB := ax (hba.trans hb)
 clear hba hbb hu hh hb
 go_wp2_with fail
 go_ret2
 exact ⟨_, h, by simp, HU.out, HB.out⟩
-- YtajiggmeappfaaaGreatDoorP139
section
attribute [local go_sem] max2_int min2_int max_two min_two max_three min_three max_four min_four
def pattern_Stream.f (a0 : Int) (a1 : Int) : Option (Int × Int) := (pattern_one.f a0 a1).bind fun t387 => (if t387 = true then (some (Int.tmod (wrap64 (a0 + (Int.tmod a1 4))) 4, 0)) else (some (0, 1)))
theorem pattern_Stream.calls (a0 : Int) (a1 : Int) (r1 : Int) (r2 : Int) (w : World) (h : pattern_Stream.f a0 a1 = some (r1, r2)) :
  Calls Tryz.prog 186 #[.int .i64 a0, .int .i64 a1] w fun e w' => e = .returned (.tuple #[.int .i64 r1, .int .i64 r2]) ∧ Drawn0 w w' := by
 have H : ((pattern_one.f a0 a1).bind fun t387 => (if t387 = true then (some (Int.tmod (wrap64 (a0 + (Int.tmod a1 4))) 4, 0)) else (some (0, 1)))) = some (r1, r2) := h
 clear h
 replace H := Option.bind_eq_some_iff.mp H
 obtain ⟨t387, A30, H⟩ := H
 replace H : (if t387 = true then (some (Int.tmod (wrap64 (a0 + (Int.tmod a1 4))) 4, 0)) else (some (0, 1))) = some (r1, r2) := H
 have A3 := ax A30
 clear A30
 by_cases c4 : t387 = true
 ·subst c4
  have H1 : (some (Int.tmod (wrap64 (a0 + (Int.tmod a1 4))) 4, 0)) = some (r1, r2) := by rw [if_pos rfl] at H; exact H
  clear H
  have H := H1
  clear H1
  simp only [Option.some.injEq, Prod.mk.injEq] at H
  obtain ⟨rfl, rfl⟩ := H
  go_enter Tryz.func186, Tryz.ntmps186
  go_wp2_with (first | ((with_reducible refine gate_callee (f := 185) rfl ?_); refine goesL_ (some 8) rfl rfl Tryz.func185 kr rfl #[.int .i64 a0, .int .i64 a1] rfl gl_ ?_; (with_reducible refine (pattern_one.calls a0 a1 true _ A3.out).mono ?_); rintro e w' ⟨rfl, ⟨nd, rfl⟩⟩; refine ⟨_, rfl, ?_⟩))
  go_ret2
  exact ⟨rs_, dr_⟩
 ·replace c4 := Bool.eq_false_iff.mpr c4
  subst c4
  have H1 : (some (0, 1)) = some (r1, r2) := by rw [if_neg (show ¬ (false = true) by decide)] at H; exact H
  clear H
  have H := H1
  clear H1
  simp only [Option.some.injEq, Prod.mk.injEq] at H
  obtain ⟨rfl, rfl⟩ := H
  go_enter Tryz.func186, Tryz.ntmps186
  go_wp2_with (first | ((with_reducible refine gate_callee (f := 185) rfl ?_); refine goesL_ (some 8) rfl rfl Tryz.func185 kr rfl #[.int .i64 a0, .int .i64 a1] rfl gl_ ?_; (with_reducible refine (pattern_one.calls a0 a1 false _ A3.out).mono ?_); rintro e w' ⟨rfl, ⟨nd, rfl⟩⟩; refine ⟨_, rfl, ?_⟩))
  go_ret2
  exact ⟨rs_, dr_⟩
end
-- YtajiggmeappfaaaGreatDoorP140
section
attribute [local go_sem] max2_int min2_int max_two min_two max_three min_three max_four min_four
mutual
def pattern_Places.j0 : Nat → Int → Int → Bool → Option (List Int × Int)
 | 0, _, _, _ => none
 | k + 1, x0, x1, x17 => if x17 = true then (some (([] : List Int), 1)) else (pattern_Places.l0 k x0 ([] : List Int) x1 0)
def pattern_Places.l0 : Nat → Int → List Int → Int → Int → Option (List Int × Int)
 | 0, _, _, _, _ => none
 | k + 1, x0, x6, x18, x19 => if x19 < x18 then ((pattern_Stream.f x0 x19).bind fun bt389 => (if bt389.2 = 0 then (if x6.length < 17592186044416 then (pattern_Places.l0 k x0 (x6 ++ [wrap64 ((wrap64 (4 * x19)) + bt389.1)]) x18 (wrap64 (x19 + 1))) else (none)) else (some (([] : List Int), bt389.2)))) else (some (x6, 0))
end
def pattern_Places.f (k : Nat) (a0 : Int) (a1 : Int) : Option (List Int × Int) := (pattern_one.f a0 a1).bind fun t388 => (if t388 = true then (pattern_Places.j0 k a0 a1 (decide (a1 > 16384))) else (pattern_Places.j0 k a0 a1 true))
theorem pattern_Places.mono_l : ∀ k, (∀ y0 y1 y2, LeO (pattern_Places.j0 k y0 y1 y2) (pattern_Places.j0 (k + 1) y0 y1 y2)) ∧ (∀ y0 y1 y2 y3, LeO (pattern_Places.l0 k y0 y1 y2 y3) (pattern_Places.l0 (k + 1) y0 y1 y2 y3))
 | 0 => ⟨fun _ _ _ r h => by simp [pattern_Places.j0] at h, fun _ _ _ _ r h => by simp [pattern_Places.l0] at h⟩
 | k + 1 => by
  obtain ⟨ih0, ih1⟩ := pattern_Places.mono_l k
  refine ⟨?_, ?_⟩
  ·intro y0 y1 y2
   unfold pattern_Places.j0
   repeat' first
   | (with_reducible exact ih0 _ _ _)
   | (with_reducible exact ih1 _ _ _ _)
   | (with_reducible exact LeO.refl _)
   | (with_reducible exact LeO.none _)
   | (with_reducible refine LeO.ite ?_ ?_)
   | (with_reducible refine LeO.bind ?_ (fun _ => ?_))
   | exact ih0 _ _ _
   | exact ih1 _ _ _ _
   | exact LeO.none _
   | refine LeO.ite ?_ ?_
   | refine LeO.bind ?_ (fun _ => ?_)
  ·intro y0 y1 y2 y3
   unfold pattern_Places.l0
   repeat' first
   | (with_reducible exact ih0 _ _ _)
   | (with_reducible exact ih1 _ _ _ _)
   | (with_reducible exact LeO.refl _)
   | (with_reducible exact LeO.none _)
   | (with_reducible refine LeO.ite ?_ ?_)
   | (with_reducible refine LeO.bind ?_ (fun _ => ?_))
   | exact ih0 _ _ _
   | exact ih1 _ _ _ _
   | exact LeO.none _
   | refine LeO.ite ?_ ?_
   | refine LeO.bind ?_ (fun _ => ?_)
theorem pattern_Places.mono : ∀ a0 a1 k, LeO (pattern_Places.f k a0 a1) (pattern_Places.f (k + 1) a0 a1) := by
 intro a0 a1 k
 obtain ⟨ih0, ih1⟩ := pattern_Places.mono_l k
 unfold pattern_Places.f
 repeat' first
   | (with_reducible exact ih0 _ _ _)
   | (with_reducible exact ih1 _ _ _ _)
   | (with_reducible exact LeO.refl _)
   | (with_reducible exact LeO.none _)
   | (with_reducible refine LeO.ite ?_ ?_)
   | (with_reducible refine LeO.bind ?_ (fun _ => ?_))
   | exact ih0 _ _ _
   | exact ih1 _ _ _ _
   | exact LeO.none _
   | refine LeO.ite ?_ ?_
   | refine LeO.bind ?_ (fun _ => ?_)
theorem pattern_Places.calls (k : Nat) (a0 : Int) (a1 : Int) (r1 : List Int) (r2 : Int) (w : World) (h : pattern_Places.f k a0 a1 = some (r1, r2)) :
  Calls Tryz.prog 138 #[.int .i64 a0, .int .i64 a1] w fun e w' => ∃ v0_ : Value, e = .returned (.tuple #[v0_, .int .i64 r2]) ∧ Kd.R (Kd.int .i64) 3 w' w.heap.size (fun _ => True) v0_ r1 ∧ Below w.heap.size w w' := by
 have HB := ax (Below.refl w.heap.size w)
 have H : ((pattern_one.f a0 a1).bind fun t388 => (if t388 = true then (pattern_Places.j0 k a0 a1 (decide (a1 > 16384))) else (pattern_Places.j0 k a0 a1 true))) = some (r1, r2) := h
 clear h
 have HC3 := ax H
 clear H
 go_enter Tryz.func138, Tryz.ntmps138
 go_upto_region 1 with (fail)
 go_cut [17] (fun v17 wc => ∃ (kq : Nat) (x17_2 : Bool), v17 = .bool x17_2 ∧ Aside0 (pattern_Places.j0 kq a0 a1 x17_2 = some (r1, r2)) ∧ Aside0 (kq ≤ k) ∧ Aside0 (Below w.heap.size w wc))
 case first =>
  have H := HC3.out
  clear HC3
  replace H := Option.bind_eq_some_iff.mp H
  obtain ⟨t388, A40, H⟩ := H
  replace H : (if t388 = true then (pattern_Places.j0 k a0 a1 (decide (a1 > 16384))) else (pattern_Places.j0 k a0 a1 true)) = some (r1, r2) := H
  have A4 := ax A40
  clear A40
  by_cases c5 : t388 = true
  ·subst c5
   have H1 : (pattern_Places.j0 k a0 a1 (decide (a1 > 16384))) = some (r1, r2) := by rw [if_pos rfl] at H; exact H
   clear H
   have H := H1
   clear H1
   have H' := ax H
   clear H
   go_wp2_with (first | ((with_reducible refine gate_callee (f := 185) rfl ?_); refine goesL_ (some 12) rfl rfl Tryz.func185 kr rfl #[.int .i64 a0, .int .i64 a1] rfl gl_ ?_; (with_reducible refine (pattern_one.calls a0 a1 true _ A4.out).mono ?_); rintro e w' ⟨rfl, ⟨nd, rfl⟩⟩; refine ⟨_, rfl, ?_⟩))
   go_meet
   case rel => exact ⟨_, (decide (a1 > 16384)), rs_, H', ⟨by first | omega | exact Nat.le_refl _⟩, ⟨bl_⟩⟩
  ·replace c5 := Bool.eq_false_iff.mpr c5
   subst c5
   have H1 : (pattern_Places.j0 k a0 a1 true) = some (r1, r2) := by rw [if_neg (show ¬ (false = true) by decide)] at H; exact H
   clear H
   have H := H1
   clear H1
   have H' := ax H
   clear H
   go_wp2_with (first | ((with_reducible refine gate_callee (f := 185) rfl ?_); refine goesL_ (some 12) rfl rfl Tryz.func185 kr rfl #[.int .i64 a0, .int .i64 a1] rfl gl_ ?_; (with_reducible refine (pattern_one.calls a0 a1 false _ A4.out).mono ?_); rintro e w' ⟨rfl, ⟨nd, rfl⟩⟩; refine ⟨_, rfl, ?_⟩))
   go_meet
   case rel => exact ⟨_, (true), rs_, H', ⟨by first | omega | exact Nat.le_refl _⟩, ⟨bl_⟩⟩
 case rest =>
  clear HC3
  try clear c1
  try clear p2
  try clear c5
  obtain ⟨kq, x17_2, rfl, HA, HJ2, HB⟩ := hcut
  cases kq with
  | zero => exact absurd HA.out (by simp [pattern_Places.j0])
  | succ kj2 =>
   have H := HA.out
   clear HA
   simp only [pattern_Places.j0] at H
   by_cases c6 : x17_2 = true
   ·subst c6
    have H1 : (some (([] : List Int), 1)) = some (r1, r2) := by rw [if_pos rfl] at H; exact H
    clear H
    have H := H1
    clear H1
    simp only [Option.some.injEq, Prod.mk.injEq] at H
    obtain ⟨rfl, rfl⟩ := H
    go_wp2
    go_ret2
    exact ⟨_, by first | rfl | (simp [errW_none, errW_some] <;> rfl) | (simp [*, errW_none, errW_some] <;> rfl), by first | exact Kd.R_nil _ _ _ _ _ | exact Kd.N_nil _ _ _ _ _ | exact Kd.V_nil _ _ _ _ _ | exact Kd.Q_nil _ _ _ _ _ | exact Kd.S_nil _ _ _ _ _, bl_⟩
   ·replace c6 := Bool.eq_false_iff.mpr c6
    subst c6
    have H1 : (pattern_Places.l0 kj2 a0 ([] : List Int) a1 0) = some (r1, r2) := by rw [if_neg (show ¬ (false = true) by decide)] at H; exact H
    clear H
    have H := H1
    clear H1
    have H' := ax H
    clear H
    go_wp2
    go_loopg [6, 19] kj2 (fun kq v6 v19 w' => ∃ (x6_2 : List Int) (x19_2 : Int), v19 = .int .i64 x19_2 ∧ Aside0 (pattern_Places.l0 kq a0 x6_2 a1 x19_2 = some (r1, r2)) ∧ Aside0 (kq ≤ kj2) ∧ Aside0 (Kd.R (Kd.int .i64) 3 w' w.heap.size (fun _ => True) v6 x6_2) ∧ Aside0 (Below w.heap.size w w'))
    case atStart => exact ⟨(([] : List Int)), (0), rs_, H', ⟨Nat.le_refl _⟩, ⟨by first | exact Kd.R_nil _ _ _ _ _ | exact Kd.N_nil _ _ _ _ _ | exact Kd.V_nil _ _ _ _ _ | exact Kd.Q_nil _ _ _ _ _ | exact Kd.S_nil _ _ _ _ _⟩, ⟨bl_⟩⟩
    case round =>
     clear H'
     try clear c1
     try clear p2
     try clear c5
     try clear c6
     try clear p2
     obtain ⟨x6_2, x19_2, rfl, HA, HK2, HO_6, HB⟩ := hrel
     cases gk with
     | zero => exact absurd HA.out (by simp [pattern_Places.l0])
     | succ k2 =>
      have H := HA.out
      clear HA
      simp only [pattern_Places.l0] at H
      by_cases c7 : x19_2 < a1
      ·rw [if_pos c7] at H
       have c7b0 : decide (x19_2 < a1) = true := decide_eq_true c7
       clear c7
       replace H := Option.bind_eq_some_iff.mp H
       obtain ⟨⟨t389, t390⟩, A80, H⟩ := H
       replace H : (if t390 = 0 then (if x6_2.length < 17592186044416 then (pattern_Places.l0 k2 a0 (x6_2 ++ [wrap64 ((wrap64 (4 * x19_2)) + t389)]) a1 (wrap64 (x19_2 + 1))) else (none)) else (some (([] : List Int), t390))) = some (r1, r2) := H
       have A8 := ax A80
       clear A80
       by_cases c9 : t390 = 0
       ·rw [if_pos c9] at H
        have c9b0 : (t390 == 0) = true := beq_iff_eq.mpr c9
        have c9b1 : (t390 != 0) = false := bne_eq_false_iff_eq.mpr c9
        clear c9
        by_cases c10 : x6_2.length < 17592186044416
        ·rw [if_pos c10] at H
         have LMc10 := ax c10
         clear c10
         obtain ⟨y391, hy391⟩ : ∃ y_ : List Int, y_ = (x6_2 ++ [wrap64 ((wrap64 (4 * x19_2)) + t389)]) := ⟨_, rfl⟩
         replace H : (pattern_Places.l0 k2 a0 y391 a1 (wrap64 (x19_2 + 1))) = some (r1, r2) := by first | (rw [hy391]; with_reducible exact H) | (have H2_ := (Option.bind_some _ _).symm.trans H; rw [hy391]; with_reducible exact H2_) | (have H2_ := (Option.bind_some _ _).symm.trans H; with_reducible exact H2_) | with_reducible exact H | (rw [hy391]; exact H) | exact H
         have Ny391 := ax hy391
         clear hy391
         have H' := ax H
         clear H
         go_wp2_with (first | ((with_reducible refine gate_callee (f := 186) rfl ?_); refine goesL_ (some 25) rfl rfl Tryz.func186 kr rfl #[.int .i64 a0, .int .i64 x19_2] rfl gl_ ?_; (with_reducible refine (pattern_Stream.calls a0 x19_2 t389 t390 _ A8.out).mono ?_); rintro e w' ⟨rfl, ⟨nd, rfl⟩⟩; refine ⟨_, rfl, ?_⟩) | ((with_reducible refine gate_builtin (b := .append) (xs := #[.tmp 31, .tmp 36]) rfl ?_); at_builtin; refine Kd.R_append (Kd.int .i64) (w0 := w) w.heap.size rfl (.tmp 31) (.tmp 36) 24 3 (.int .i64 0) 8 rfl Tryz.underlying24 info3 rfl (by decide) (by omega) u6 x6_2 (wrap64 ((wrap64 (4 * x19_2)) + t389)) [.int .i64 (wrap64 ((wrap64 (4 * x19_2)) + t389))] (fun _ => True) (fun _ => False) rfl rfl ?aP (fun _ hk => hk.elim) ?aF ?aO ?aB ?aS ?aL ?_; (case aP => exact rfl); (case aB => exact bl_); (case aF => exact (fun _ _ => trivial)); (case aO => exact (kR_ HO_6.out)); (case aS => exact (below_size bl_)); (case aL => have := LMc10.out; omega); intro v392 w11 ho hb hg hat; rw [← Ny391.out] at ho; have n0_ := ax (hb); have n1_ := ax (ho); clear HB; clear HO_6; have HB := n0_; have HO393 := n1_; clear n0_ n1_; clear ho hb hg hat))
         go_roundg k2
         case measure => have := HJ2.out; have := HK2.out; omega
         case rel => exact ⟨(y391), (wrap64 (x19_2 + 1)), rs_, H', ⟨by have := HJ2.out; have := HK2.out; omega⟩, ⟨by (with_reducible repeat (first | apply Kd.R_alloc | apply Kd.R_drewN | apply Kd.R_drew)); exact HO393.out⟩, ⟨bl_⟩⟩
        ·rw [if_neg c10] at H
         exact absurd H (by simp)
       ·rw [if_neg c9] at H
        have c9b0 : (t390 == 0) = false := beq_eq_false_iff_ne.mpr c9
        have c9b1 : (t390 != 0) = true := bne_iff_ne.mpr c9
        simp only [Option.some.injEq, Prod.mk.injEq] at H
        obtain ⟨rfl, rfl⟩ := H
        go_wp2_with (first | ((with_reducible refine gate_callee (f := 186) rfl ?_); refine goesL_ (some 25) rfl rfl Tryz.func186 kr rfl #[.int .i64 a0, .int .i64 x19_2] rfl gl_ ?_; (with_reducible refine (pattern_Stream.calls a0 x19_2 t389 t390 _ A8.out).mono ?_); rintro e w' ⟨rfl, ⟨nd, rfl⟩⟩; refine ⟨_, rfl, ?_⟩))
        go_ret2
        exact ⟨_, by first | rfl | (simp [errW_none, errW_some] <;> rfl) | (simp [*, errW_none, errW_some] <;> rfl), by first | exact Kd.R_nil _ _ _ _ _ | exact Kd.N_nil _ _ _ _ _ | exact Kd.V_nil _ _ _ _ _ | exact Kd.Q_nil _ _ _ _ _ | exact Kd.S_nil _ _ _ _ _, bl_⟩
      ·rw [if_neg c7] at H
       have c7b0 : decide (x19_2 < a1) = false := decide_eq_false c7
       clear c7
       simp only [Option.some.injEq, Prod.mk.injEq] at H
       obtain ⟨rfl, rfl⟩ := H
       go_wp2
       go_ret2
       exact ⟨_, by first | rfl | (simp [errW_none, errW_some] <;> rfl) | (simp [*, errW_none, errW_some] <;> rfl), by (with_reducible repeat (first | apply Kd.R_alloc | apply Kd.R_drewN | apply Kd.R_drew)); exact HO_6.out, bl_⟩
end
-- YtajiggmeappfaaaGreatDoorP142
section
attribute [local go_sem] max2_int min2_int max_two min_two max_three min_three max_four min_four
def soft_Add.f (a0 : Int) (a1 : Int) : Option (Int) := (soft_Clip.f a0).bind fun t394 => ((soft_Clip.f a1).bind fun t395 => ((soft_Clip.f (wrap64 (t394 + t395))).bind fun t396 => (some t396)))
theorem soft_Add.calls (a0 : Int) (a1 : Int) (r : Int) (w : World) (h : soft_Add.f a0 a1 = some r) :
  Calls Tryz.prog 139 #[.int .i64 a0, .int .i64 a1] w fun e w' => e = .returned (.int .i64 r) ∧ Drawn0 w w' := by
 have H : ((soft_Clip.f a0).bind fun t394 => ((soft_Clip.f a1).bind fun t395 => ((soft_Clip.f (wrap64 (t394 + t395))).bind fun t396 => (some t396)))) = some r := h
 clear h
 replace H := Option.bind_eq_some_iff.mp H
 obtain ⟨t394, A30, H⟩ := H
 replace H : ((soft_Clip.f a1).bind fun t395 => ((soft_Clip.f (wrap64 (t394 + t395))).bind fun t396 => (some t396))) = some r := H
 have A3 := ax A30
 clear A30
 replace H := Option.bind_eq_some_iff.mp H
 obtain ⟨t395, A40, H⟩ := H
 replace H : ((soft_Clip.f (wrap64 (t394 + t395))).bind fun t396 => (some t396)) = some r := H
 have A4 := ax A40
 clear A40
 replace H := Option.bind_eq_some_iff.mp H
 obtain ⟨t396, A50, H⟩ := H
 replace H : (some t396) = some r := H
 have A5 := ax A50
 clear A50
 obtain rfl := Option.some.inj H
 go_enter Tryz.func139, Tryz.ntmps139
 go_wp2_with (first | ((with_reducible refine gate_callee (f := 187) rfl ?_); refine goesL_ (some 6) rfl rfl Tryz.func187 kr rfl #[.int .i64 a0] rfl gl_ ?_; (with_reducible refine (soft_Clip.calls a0 t394 _ A3.out).mono ?_); rintro e w' ⟨rfl, ⟨nd, rfl⟩⟩; refine ⟨_, rfl, ?_⟩) | ((with_reducible refine gate_callee (f := 187) rfl ?_); refine goesL_ (some 8) rfl rfl Tryz.func187 kr rfl #[.int .i64 a1] rfl gl_ ?_; (with_reducible refine (soft_Clip.calls a1 t395 _ A4.out).mono ?_); rintro e w' ⟨rfl, ⟨nd, rfl⟩⟩; refine ⟨_, rfl, ?_⟩) | ((with_reducible refine gate_callee (f := 187) rfl ?_); refine goesL_ (some 10) rfl rfl Tryz.func187 kr rfl #[.int .i64 (wrap64 (t394 + t395))] rfl gl_ ?_; (with_reducible refine (soft_Clip.calls (wrap64 (t394 + t395)) t396 _ A5.out).mono ?_); rintro e w' ⟨rfl, ⟨nd, rfl⟩⟩; refine ⟨_, rfl, ?_⟩))
 go_ret
 exact ⟨rs_, dr_⟩
end
-- YtajiggmeappfaaaGreatDoorPCAdd
def plc (v t : Nat) : Nat := 4 * t + (v + t % 4) % 4
def plL (v m : Nat) : List Int := (List.range m).map fun t => (plc v t : Int)
theorem plL_len (v m : Nat) : (plL v m).length = m := by simp [plL]
theorem plL_succ (v m : Nat) : plL v (m + 1) = plL v m ++ [(plc v m : Int)] := by unfold plL; rw [List.range_succ, List.map_append]; rfl
theorem plL_get (v m t : Nat) (h : t < m) : (plL v m).getD t 0 = (plc v t : Int) := by
 unfold plL
 rw [List.getD_eq_getElem?_getD, List.getElem?_map, List.getElem?_range h]; rfl
theorem one_f (v t : Nat) (hv : v < 4) : pattern_one.f (v : Int) (t : Int) = some true := by
 unfold pattern_one.f
 have h1 : (decide ((v : Int) ≥ 0)) = true := decide_eq_true (by omega)
 have h2 : (decide ((v : Int) < 4)) = true := decide_eq_true (by omega)
 have h3 : (decide ((t : Int) ≥ 0)) = true := decide_eq_true (by omega)
 simp [h1, h2, h3]
 omega
theorem stream_f (v t : Nat) (hv : v < 4) (ht : t ≤ 1000) : pattern_Stream.f (v : Int) (t : Int) = some ((((v + t % 4) % 4 : Nat) : Int), 0) := by
 unfold pattern_Stream.f
 rw [one_f v t hv, Option.bind_some, if_pos rfl]
 refine congrArg some (Prod.ext ?_ rfl)
 show Int.tmod (wrap64 ((v : Int) + Int.tmod (t : Int) 4)) 4 = _
 have h4 : Int.tmod (t : Int) 4 = ((t % 4 : Nat) : Int) := by rw [Int.tmod_eq_emod_of_nonneg (by omega)]; omega
 rw [h4, wrap_in (by omega) (by omega), Int.tmod_eq_emod_of_nonneg (by omega)]
 omega
theorem places_l0 (v m : Nat) (hv : v < 4) (hm : m ≤ 1000) (d : Nat) : ∀ k i : Nat, i + d = m → d < k → pattern_Places.l0 k (v : Int) (plL v i) (m : Int) (i : Int) = some (plL v m, 0) := by
 induction d with
 | zero =>
  intro k i hi hk
  obtain ⟨k, rfl⟩ := pred hk
  obtain rfl : i = m := by omega
  rw [pattern_Places.l0.eq_2, if_neg (by omega)]
 | succ d ih =>
  intro k i hi hk
  obtain ⟨k, rfl⟩ := pred hk
  have hn := ih k (i + 1) (by omega) (by omega)
  have e : wrap64 (wrap64 (4 * (i : Int)) + (((v + i % 4) % 4 : Nat) : Int)) = (plc v i : Int) := by
   rw [wrap_in (n := 4 * (i : Int)) (by omega) (by omega), wrap_in (by omega) (by omega)]
   unfold plc; omega
  rw [pattern_Places.l0.eq_2, if_pos (by omega), stream_f v i hv (by omega), Option.bind_some, if_pos rfl, if_pos (by rw [plL_len]; omega), e, wrap_succ i (by omega), ← plL_succ]
  exact hn
theorem places_f (v m : Nat) (hv : v < 4) (hm : m ≤ 1000) : pattern_Places.f 2000 (v : Int) (m : Int) = some (plL v m, 0) := by
 unfold pattern_Places.f
 rw [one_f v m hv, Option.bind_some, if_pos rfl, pattern_Places.j0.eq_2, if_neg (by rw [decide_eq_false (by omega)]; decide)]
 exact places_l0 v m hv hm m 1999 0 (by omega) (by omega)
theorem add_f {a s : Int} (ha : -30 ≤ a ∧ a ≤ 30) (hs : s = 1 ∨ s = -1) : soft_Add.f a s = some (a + s) := by
 unfold soft_Add.f
 rw [clip_f (by omega), Option.bind_some, clip_f (by omega), Option.bind_some, wrap_in (by omega) (by omega), clip_f (by omega)]; rfl
theorem so_pm (b : Int) : so b = 1 ∨ so b = -1 := by unfold so; split <;> simp
def adK (σ : List Int) (v : Nat) (P : List Int) : Nat → List Int
 | 0 => σ
 | k + 1 => (adK σ v P k).set (plc v k) ((adK σ v P k).getD (plc v k) 0 + so (P.getD k 0))
theorem adK_len (σ : List Int) (v : Nat) (P : List Int) : ∀ k, (adK σ v P k).length = σ.length
 | 0 => rfl
 | k + 1 => by unfold adK; rw [List.length_set, adK_len σ v P k]
theorem adK_get (σ : List Int) (v : Nat) (P : List Int) (j : Nat) : ∀ k, 4 * k ≤ σ.length → (adK σ v P k).getD j 0 = σ.getD j 0 + (if j / 4 < k ∧ j = plc v (j / 4) then so (P.getD (j / 4) 0) else 0)
 | 0, _ => by rw [if_neg (by omega)]; show σ.getD j 0 = _; omega
 | k + 1, h => by
  have ih := adK_get σ v P j k (by omega)
  have hp : plc v k < 4 * k + 4 ∧ 4 * k ≤ plc v k := by unfold plc; omega
  have hpd : plc v k / 4 = k := by omega
  unfold adK
  rw [set_getD _ _ _ _ (by rw [adK_len]; omega)]
  by_cases e : j = plc v k
  ·have ej : j / 4 = k := by rw [e]; exact hpd
   rw [if_pos e, if_pos ⟨by omega, by rw [ej]; exact e⟩]
   rw [if_neg (by omega)] at ih
   rw [← e, ih, ej]; omega
  ·rw [if_neg e, ih]
   by_cases c : j / 4 < k ∧ j = plc v (j / 4)
   ·rw [if_pos c, if_pos ⟨by omega, c.2⟩]
   ·rw [if_neg c, if_neg (fun h => c ⟨by
     have := h.1
     by_cases q : j / 4 = k
     ·exact absurd (by rw [q] at h; exact h.2) e
     ·omega, h.2⟩)]
theorem BU.put {w : World} {S g h n : Nat} {σ : List Int} (b : BU w S g h n σ) (j : Nat) (x : Int) : BU (w.setCell ⟨h, j, none⟩ (.int .i64 x)) S g h n (σ.set j x) := by
 have hp := Put1.set h j w (.int .i64 x)
 obtain ⟨C, hC, r⟩ := b.box
 exact ⟨⟨C, (hp.block g b.lo.2.2).trans hC, r⟩, blk_put b.row j _ (ints_set σ j x), by rw [List.length_set]; exact b.len, b.lo⟩
theorem BU.count {w : World} {S g h n : Nat} {σ : List Int} (b : BU w S g h n σ) (v : Nat) (hv : v < 4) (x : Int) : BU (w.setCell ⟨g, 2 + v, none⟩ (.int .i64 x)) S g h n σ := by
 have hp := Put1.set g (2 + v) w (.int .i64 x)
 obtain ⟨C, hC, h1, h2, h3, h4⟩ := b.box
 refine ⟨⟨C.setIfInBounds (2 + v) (.int .i64 x), blk_put hC (2 + v) _ rfl, by simp [h1], ?_, ?_, fun u hu => ?_⟩, (hp.block h (Ne.symm b.lo.2.2)).trans b.row, b.len, b.lo⟩
 ·rw [Array.getElem?_setIfInBounds, if_neg (by omega)]; exact h2
 ·rw [Array.getElem?_setIfInBounds, if_neg (by omega)]; exact h3
 ·rw [Array.getElem?_setIfInBounds]
  by_cases e : 2 + v = 2 + u
  ·rw [if_pos e, if_pos (by omega)]; exact ⟨x, rfl⟩
  ·rw [if_neg e]; exact h4 u hu
theorem cdecode_calls {w : World} (hT : TP w) {S g h n : Nat} {σ : List Int} (b : BU w S g h n σ) (hn : n ≤ 1000) (hσ : ∀ j, -31 ≤ σ.getD j 0 ∧ σ.getD j 0 ≤ 31) (u : List Nat) (hA : Alone (fun j => σ.getD j 0) (n + 6) n u) :
  Calls Tryz.prog 89 #[.pointer (some ⟨g, 0, none⟩)] w fun e w' => ∃ v, e = .returned (.tuple #[v, .int .i64 0]) ∧ Kd.R (Kd.int .u8) 5 w' w.heap.size (fun _ => True) v (toI (u.take n)) ∧ Below w.heap.size w w' := by
 obtain ⟨C, hC, h1, h2, h3, h4⟩ := b.box
 have hc1 := (blk_cell hC 1).trans h3
 have hK : Kd.C (Kd.int .i64) w (some ⟨h, 0, none⟩) σ.length σ := by
  refine Kd.C_of_reads (enc := Value.int .i64) (d := (0 : Int)) (h1 := fun _ => rfl) ⟨rfl, by rw [b.len]; omega, fun hp => ⟨_, rfl, fun j hj => ?_⟩⟩
  have ha : (⟨h, 0, none⟩ : Addr).add j = ⟨h, j, none⟩ := by
   unfold Addr.add; simp; intro e; exact e.symm
  rw [ha]; exact (blk_cell b.row j).trans (ints_get σ j hj)
 have HV := ax (vdecode_calls hT hK (c := 4 * (n + 6)) (by rw [b.len]; exact Nat.le_refl _) n b.len hn hσ u hA)
 obtain ⟨M, hM⟩ : ∃ M, M = 4 * (n + 6) := ⟨_, rfl⟩
 rw [← hM] at HV hc1
 clear hC h1 h2 h3 h4 hK hA hσ hn b hM hT
 go_enter Tryz.func89, Tryz.ntmps89
 go_wp2_with (first
  | (go_at_call 143; refine HV.out.mono ?_; rintro e w1 ⟨v, sc, rfl, hv, hb⟩; have HR := ax hv; have HB := ax hb; clear hv hb HV)
  | fail)
 go_ret2
 exact ⟨v, by simp, HR.out, HB.out⟩
-- YtajiggmeappfaaaGreatDoorPMAdd
theorem add_block (d : Addr) (j : Nat) : (d.add j).block = d.block := by unfold Addr.add; split <;> rfl
theorem C_put {w w' : World} {A : Option Addr} {P : List Int} {a : Nat} (h : Kd.C (Kd.int .u8) w A P.length P) (hp : Put1 a w w') (hA : ∀ d, A = some d → d.block ≠ a) : Kd.C (Kd.int .u8) w' A P.length P := by
 have r := Kd.reads_of_C (enc := Value.int .u8) (d := (0 : Int)) (h1 := fun _ => rfl) h
 refine Kd.C_of_reads (enc := Value.int .u8) (d := (0 : Int)) (h1 := fun _ => rfl) ⟨r.1, r.2.1, fun hq => ?_⟩
 obtain ⟨d, hd, hr⟩ := r.2.2 hq
 exact ⟨d, hd, fun j hj => (World.cell?_of_block (a := d.add j) (hp.block _ (by rw [add_block]; exact hA d hd))).trans (hr j hj)⟩
theorem adK_in {σ : List Int} {v : Nat} {P : List Int} (hσ : ∀ j, -29 ≤ σ.getD j 0 ∧ σ.getD j 0 ≤ 29) (t : Nat) (h : 4 * t ≤ σ.length) (j : Nat) : -30 ≤ (adK σ v P t).getD j 0 ∧ (adK σ v P t).getD j 0 ≤ 30 := by
 rw [adK_get σ v P j t h]
 have h1 := hσ j
 have h2 := so_pm (P.getD (j / 4) 0)
 split
 ·omega
 ·omega
structure Two (g h : Nat) (w w' : World) : Prop where
 os : w'.os = w.os
 tape : w'.tape = w.tape
 output : w'.output = w.output
 size : w.heap.size ≤ w'.heap.size
 block : ∀ k, k < w.heap.size → k ≠ g → k ≠ h → w'.heap[k]? = w.heap[k]?
theorem Two.of_below {g h : Nat} {w w' : World} (b : Below w.heap.size w w') : Two g h w w' := ⟨b.os, b.tape, b.output, b.size, fun k hk _ _ => b.block k hk⟩
theorem Two.put1 {g h a : Nat} {w w' : World} (p : Put1 a w w') (ha : a = g ∨ a = h) : Two g h w w' := ⟨p.os, p.tape, p.output, Nat.le_of_eq p.size.symm, fun k hk k1 k2 => p.block k (by omega)⟩
theorem Two.trans {g h : Nat} {w w1 w2 : World} (a : Two g h w w1) (b : Two g h w1 w2) : Two g h w w2 :=
 ⟨b.os.trans a.os, b.tape.trans a.tape, b.output.trans a.output, Nat.le_trans a.size b.size, fun k hk k1 k2 => (b.block k (Nat.lt_of_lt_of_le hk a.size) k1 k2).trans (a.block k hk k1 k2)⟩
theorem Two.below {g h S : Nat} {w w' : World} (a : Two g h w w') (hS : S ≤ w.heap.size) (hg : S ≤ g) (hh : S ≤ h) : Below S w w' := ⟨a.os, a.tape, a.output, a.size, fun k hk => a.block k (by omega) (by omega) (by omega)⟩
def madd13.T : Bool × List (List Nat × List Nat) := (true, [([], []), ([0], [0]), ([1], [1]), ([2], [2]), ([], []), ([], []), ([5], [5]), ([6], [6]), ([7], [7]), ([], []), ([8, 9], [8, 9]), ([10], [10]), ([], []), ([], []), ([12, 13], [12, 13]), ([14], [14]), ([15], [15]), ([11, 16, 16], [11, 16]), ([3, 4, 0, 1, 2, 3, 4, 5, 6, 7, 8, 9, 10, 11, 12, 13, 14, 15, 16, 17], [3, 4]), ([18, 17, 17, 0, 1, 2, 3, 4, 5, 6, 7, 8, 9, 10, 11, 12, 13, 14, 15, 16, 17], [17, 18])])
def madd13.B : List Nat := [0, 1, 3, 7, 0, 0, 32, 96, 224, 0, 992, 2016, 0, 0, 12288, 28672, 61440, 131040, 262143, 524287]
theorem madd13.tab : rtab .any (opsOf Tryz.f87 13) = madd13.T := by kernel_rfl
theorem madd13.bits : waitsOk madd13.T.2 madd13.B = true := by kernel_rfl
def madd15.T : Bool × List (List Nat × List Nat) := (true, [([], []), ([], []), ([0], [0]), ([2], [2]), ([3, 1], [1, 3]), ([4], [4]), ([5], [5]), ([0], [0]), ([7], [7]), ([8, 1, 0, 1, 2, 3, 4, 5, 6], [1, 8]), ([9, 6, 0, 1, 2, 3, 4, 5, 6], [6, 9])])
def madd15.B : List Nat := [0, 0, 1, 5, 15, 31, 63, 1, 129, 511, 1023]
theorem madd15.tab : rtab .any (opsOf Tryz.f87 15) = madd15.T := by kernel_rfl
theorem madd15.bits : waitsOk madd15.T.2 madd15.B = true := by kernel_rfl
theorem add_calls {w : World} {S g h n : Nat} {σ : List Int} (b : BU w S g h n σ) (hn : n ≤ 900) (v : Nat) (hv : v < 4) {A : Option Addr} {P : List Int} {c : Nat} (hP : Kd.C (Kd.int .u8) w A P.length P) (hc : P.length ≤ c) (hPl : P.length = n + 6) (hPb : ∀ x ∈ P, isb x)
  (hA : ∀ d, A = some d → d.block ≠ g ∧ d.block ≠ h) (hσ : ∀ j, -29 ≤ σ.getD j 0 ∧ σ.getD j 0 ≤ 29) :
  Calls Tryz.prog 87 #[.pointer (some ⟨g, 0, none⟩), .int .i64 (v : Int), .slice A (n + 6) c] w fun e w' => e = .returned (.int .i64 0) ∧ BU w' S g h n (adK σ v P (n + 6)) ∧ Two g h w w' := by
 obtain ⟨m, hm⟩ : ∃ m, m = n + 6 := ⟨_, rfl⟩
 have hcN : m ≤ c := by omega
 have hmb : (m : Int) ≤ 906 := by omega
 have hm0 : (0 : Int) < (m : Int) := by omega
 have hv0 : (0 : Int) ≤ (v : Int) := by omega
 have hv4 : (v : Int) < 4 := by omega
 obtain ⟨C0, hC0, k1, k2, k3, k4⟩ := b.box
 have hg0 := (blk_cell hC0 0).trans k2
 have HRT := ax (bits_Right.calls 2000 A c P true w hP hc (by
  rw [right_f P (by omega) 2000 (by omega), (big_isb (fun x hx => (isb01 (hPb x hx)).1)).2 hPb]; rfl))
 have HBN := ax (fun w => version_Bits.calls (n : Int) _ w (bits_n n (by omega)))
 have HPL := ax (fun w => pattern_Places.calls 2000 (v : Int) (m : Int) _ _ w (places_f v m hv (by omega)))
 have HB := ax b
 have HP := ax hP
 have HL := ax (And.intro hm (And.intro hPl (And.intro hPb (And.intro hA (And.intro hσ (And.intro hv hn))))))
 rw [hPl, ← hm] at HRT
 rw [← hm] at HBN ⊢
 clear hC0 k1 k2 k3 k4 hm hPl hPb hA hσ hv hn b hP hc
 go_enter Tryz.func87, Tryz.ntmps87
 go_wp2_with (first
  | (go_at_call 136; refine Aside0.out ?_)
  | fail)
 refine ax ?_
 refine HRT.out.mono ?_
 rintro e w1 ⟨rfl, hd⟩
 have HB1 := ax (hd.below)
 have hg1 := ((hd.below.cell (p := ⟨g, 0, none⟩) (blk_lt HB.out.box.choose_spec.1)).trans hg0)
 clear hd HRT hg0
 go_wp2_with (first
  | (go_at_call 127; refine Aside0.out ?_)
  | fail)
 refine ax ?_
 refine (HBN.out w1).mono ?_
 rintro e w2 ⟨rfl, hd⟩
 have HB2 := ax (below_step HB1.out hd.below)
 clear hd HBN hg1 HB1
 go_wp2_with (first
  | (go_at_call 138; refine Aside0.out ?_)
  | fail)
 refine ax ?_
 refine (HPL.out w2).mono ?_
 rintro e w3 ⟨v7, rfl, hv7, hb⟩
 have hb7 := Kd.R_mono (Kd.R_bound hv7) (ok' := fun k => w2.heap.size ≤ k) (fun k ok => ok.2.1)
 obtain ⟨A7, c7, rfl⟩ := Kd.R_slice hv7
 have hpl := plL_len v m
 obtain ⟨Q, hQ⟩ : ∃ Q, Q = plL v m := ⟨_, rfl⟩
 rw [← hQ] at hb7 hpl
 rw [← hQ, hpl]
 rw [hpl] at hb7
 have HQ := ax (And.intro hQ hpl)
 have HR7 := ax hb7
 have HB3 := ax (below_step HB2.out hb)
 have HW2 := ax HB2.out.size
 clear hv7 hb7 hb hpl hQ HPL HB2
 have HBU := ax (HB.out.below HB3.out)
 have HP3 := ax (Kd.C_below HP.out HB3.out)
 have HS := ax (show S ≤ w.heap.size from Nat.le_of_lt (Nat.lt_of_le_of_lt HB.out.lo.1 (blk_lt HB.out.box.choose_spec.1)))
 have HGH := ax (show g < w2.heap.size ∧ h < w2.heap.size from ⟨Nat.lt_of_lt_of_le (blk_lt HB.out.box.choose_spec.1) HW2.out, Nat.lt_of_lt_of_le (blk_lt HB.out.row) HW2.out⟩)
 have HBS := ax (Two.of_below (g := g) (h := h) HB3.out)
 clear HB3
 go_wp2_with fail
 go_loopw [47] (fun v47 wr => ∃ t : Nat, v47 = .int .i64 (t : Int) ∧ t ≤ m ∧ Aside0 (BU wr S g h n (adK σ v P t)) ∧ Aside0 (Kd.C (Kd.int .u8) wr A P.length P) ∧ Aside0 (Kd.R (Kd.int .i64) 3 wr w2.heap.size (fun k => w2.heap.size ≤ k) (.slice A7 m c7) Q) ∧ Aside0 (Two g h w wr)) (fun v47 _ => m - (intOf v47).toNat)
 case atStart => exact ⟨0, by simp, by omega, HBU, HP3, HR7, HBS⟩
 case round =>
  clear HBU HP3 HR7 HBS
  obtain ⟨t, rfl, ht, HBU, HPC, HR, HBS⟩ := hrel
  by_cases hlt : t < m
  ·have HLT := ax hlt
   have htm : (t : Int) < (m : Int) := by omega
   have ht0 : (0 : Int) ≤ (t : Int) := by omega
   have htb : (t : Int) ≤ 905 := by omega
   obtain ⟨a7, rfl, hcx0⟩ := ReadsOf.at_ (Kd.reads_of_C (enc := Value.int .i64) (d := (0 : Int)) (h1 := fun _ => rfl) (Kd.R_reads' HR.out).2.2) (t : Int) ht0 (by rw [HQ.out.2]; exact htm)
   obtain ⟨aP, rfl, hcp0⟩ := ReadsOf.at_ (Kd.reads_of_C (enc := Value.int .u8) (d := (0 : Int)) (h1 := fun _ => rfl) HPC.out) (t : Int) ht0 (by rw [HL.out.2.1, ← HL.out.1]; exact htm)
   rw [Int.toNat_natCast] at hcx0 hcp0
   obtain ⟨q, hq⟩ : ∃ q, q = plc v t := ⟨_, rfl⟩
   obtain ⟨M, hM⟩ : ∃ M, M = 4 * (n + 6) := ⟨_, rfl⟩
   have hqM : (q : Int) < (M : Int) := by have := HL.out.1; have := HLT.out; unfold plc at hq; omega
   have hq0 : (0 : Int) ≤ (q : Int) := by omega
   have hMb : (M : Int) ≤ 4000 := by have := HL.out.1; omega
   have hcx : wr.cell? (a7.add t) = some (.int .i64 (q : Int)) := by
    have e : rdOf 0 Q (t : Int) = (q : Int) := by rw [hq, HQ.out.1]; exact plL_get v m t hlt
    rw [e] at hcx0; exact hcx0
   obtain ⟨u, hu⟩ : ∃ u, u = P.getD t 0 := ⟨_, rfl⟩
   have hcp : wr.cell? (aP.add t) = some (.int .u8 u) := by
    have e : rdOf 0 P (t : Int) = u := by rw [hu]; rfl
    rw [e] at hcp0; exact hcp0
   obtain ⟨x, hx⟩ : ∃ x, x = (adK σ v P t).getD q 0 := ⟨_, rfl⟩
   obtain ⟨C1, hC1, k1, k2, k3, k4⟩ := HBU.out.box
   have hcg := (blk_cell hC1 1).trans k3
   rw [← hM] at hcg
   have hch := (blk_cell HBU.out.row q).trans (ints_get (adK σ v P t) q (by rw [HBU.out.len, ← hM]; omega))
   rw [← hx] at hch
   have hfh := blk_frozen HBU.out.row q
   have HXA := ax (adK_in (v := v) (P := P) HL.out.2.2.2.2.1 t (by have := HL.out.1; have e := HBU.out.len; rw [adK_len] at e; omega) q)
   rw [← hx] at HXA
   have HOF := ax (fun w => soft_Of.calls u (so u) w (by unfold soft_Of.f so; rw [apply_ite some]))
   have HAD := ax (fun w => soft_Add.calls x (so u) (x + so u) w (add_f HXA.out (so_pm u)))
   have HK := ax (And.intro hq (And.intro hM (And.intro hu hx)))
   have HCS := ax (show wr.drew.cell? ⟨g, 1, none⟩ = some (.slice (some ⟨h, 0, none⟩) M M) ∧ wr.drew.cell? ⟨h, q, none⟩ = some (.int .i64 x) ∧ wr.drew.cell? (aP.add t) = some (.int .u8 u) from ⟨hcg, hch, hcp⟩)
   have HFH := ax (show wr.drew.frozen? ⟨h, q, none⟩ = false from hfh)
   clear hlt ht hcx0 hcp0 hq hM hu hx hC1 k1 k2 k3 k4 hcg hch hcp hfh
   go_wp2_with fail
   refine start_ (n := 20) (S := (fun w' => w'.cell? ⟨g, 1, none⟩ = some (.slice (some ⟨h, 0, none⟩) M M) ∧ w'.cell? ⟨h, q, none⟩ = some (.int .i64 x) ∧ w'.cell? (aP.add t) = some (.int .u8 u))) (ds := [19]) #[false, false, false, false, false, false, false, false, false, false, false, false, false, false, false, false, false, false, false, false] kr rfl rfl HCS.out (fun hHeld => ?_)
   refine with_tabW madd13.tab madd13.bits (fun HT_ HW_ => ?_)
   refine pu_ 0 52 HT_ ?_; refine pu_ 1 53 HT_ ?_; refine pu_ 2 54 HT_ ?_; refine tk_ 3 55 HT_ HW_ hHeld ?_; refine pu_ 4 56 HT_ ?_; refine pu_ 5 57 HT_ ?_; refine pu_ 6 58 HT_ ?_; refine pu_ 7 59 HT_ ?_; refine tk_ 8 60 HT_ HW_ hHeld ?_; refine pu_ 9 61 HT_ ?_; refine pu_ 10 62 HT_ ?_; refine tk_ 11 63 HT_ HW_ hHeld ?_; refine pu_ 12 64 HT_ ?_; refine pu_ 13 65 HT_ ?_; refine pu_ 14 66 HT_ ?_; refine tk_ 15 67 HT_ HW_ hHeld ?_
   refine on_ 16 HT_ fun K hK => ?_
   refine goes_ Tryz.func140 kr rfl _ (by rfl) rfl rfl gs_ ?_
   refine (HOF.out _).mono ?_
   rintro e w5 ⟨rfl, hd5⟩
   have HD5 := ax hd5
   clear hd5 HOF
   refine ⟨_, rfl, ?_⟩
   refine hK.out _ _ (by obtain ⟨nd, rfl⟩ := HD5.out; exact HCS.out) (fun hHeld => ?_)
   clear hK K
   refine norm_ (a' := ?_) ?_ ?_
   rotate_left
   ·show Act.put _ (some 68) _ = _
    simp only [Act.put, List.setIfInBounds_toArray, List.set_cons_zero, List.set_cons_succ, i64_w, i32_w]
    rfl
   refine on_ 17 HT_ fun K hK => ?_
   refine goes_ Tryz.func139 kr rfl _ (by rfl) rfl rfl gs_ ?_
   refine (HAD.out _).mono ?_
   rintro e w6 ⟨rfl, hd6⟩
   have HD6 := ax hd6
   clear hd6 HAD
   refine ⟨_, rfl, ?_⟩
   refine hK.out _ _ (by obtain ⟨n5, rfl⟩ := HD5.out; obtain ⟨n6, rfl⟩ := HD6.out; exact HCS.out) (fun hHeld => ?_)
   clear hK K
   refine norm_ (a' := ?_) ?_ ?_
   rotate_left
   ·show Act.put _ (some 69) _ = _
    simp only [Act.put, List.setIfInBounds_toArray, List.set_cons_zero, List.set_cons_succ, i64_w, i32_w]
    rfl
   refine pu_ 18 70 HT_ ?_
   refine last_ (i := 19) (N := none) #[true, true, true, true, true, true, true, true, true, true, true, true, true, true, true, true, true, true, true, true] rfl rfl (one_of HT_.out kr) (by decide) (fun K hK => ?_)
   have hcl : w6.cell? ⟨h, q, none⟩ = some (.int .i64 x) := by obtain ⟨n5, rfl⟩ := HD5.out; obtain ⟨n6, rfl⟩ := HD6.out; exact HCS.out.2.1
   have hfz : w6.frozen? ⟨h, q, none⟩ = false := by obtain ⟨n5, rfl⟩ := HD5.out; obtain ⟨n6, rfl⟩ := HD6.out; exact HFH.out
   refine skip_ (w1 := ?_) (by rfl) rfl ?_ ?_
   rotate_left 1
   ·go_simp
    rfl
   refine hK.out _ _ ?_
   clear hK K
   refine done_ (done_of HT_.out kr) ?_
   clear hHeld hcl hfz
   have hb6 : Below wr.heap.size wr w6 := below_step (below_step (below_drew1 (Below.refl _ _)) HD5.out.below) HD6.out.below
   have hp := Put1.set h q w6 (.int .i64 (x + so u))
   have hlo := HB.out.lo
   have HU7 := ax (show BU (w6.setCell ⟨h, q, none⟩ (.int .i64 (x + so u))) S g h n (adK σ v P (t + 1)) by
    have e : adK σ v P (t + 1) = (adK σ v P t).set q (x + so u) := by rw [HK.out.2.2.1, HK.out.2.2.2, HK.out.1]; rfl
    rw [e]; exact (HBU.out.below hb6).put q (x + so u))
   have HPC7 := ax (C_put (Kd.C_below HPC.out hb6) hp (fun d hd => (HL.out.2.2.2.1 d hd).2))
   have HR7 := ax (Kd.R_step (Kd.R_below HR.out hb6) (fun k hk _ => hp.block k (by have := HGH.out; omega)))
   have HBS7 := ax ((HBS.out.trans (Two.of_below hb6)).trans (Two.put1 hp (.inr rfl)))
   have HT1 := ax (show wrap64 ((t : Int) + 1) = ((t + 1 : Nat) : Int) ∧ t + 1 ≤ m from ⟨wrap_succ t (by omega), HLT.out⟩)
   have hmz := @hmeasK t m (t + 1) HLT.out rfl
   have HMZ := ax hmz
   clear hb6 hp hlo hmz HBU HPC HR HBS HD5 HD6 HCS HFH HXA
   generalize w6.setCell ⟨h, q, none⟩ (.int .i64 (x + so u)) = w7 at HU7 HPC7 HR7 HBS7 ⊢
   go_wp2_with fail
   exact ⟨⟨t + 1, by simp, HT1.out.2, HU7, HPC7, HR7, HBS7⟩, HMZ.out⟩
  ·obtain rfl : t = m := by omega
   have hd : decide ((t : Int) < (t : Int)) = false := decide_eq_false (by omega)
   obtain ⟨C1, hC1, k1, k2, k3, k4⟩ := HBU.out.box
   obtain ⟨x, hx⟩ := k4 v (by omega)
   have hcg := (blk_cell hC1 (2 + v)).trans hx
   have hfh := blk_frozen hC1 (2 + v)
   have HCS := ax (show wr.drew.cell? ⟨g, 2 + v, none⟩ = some (.int .i64 x) from hcg)
   have HFH := ax (show wr.drew.frozen? ⟨g, 2 + v, none⟩ = false from hfh)
   clear hlt ht hC1 k1 k2 k3 k4 hx hcg hfh
   go_wp2_with fail
   refine start_ (n := 11) (S := (fun w' => w'.cell? ⟨g, 2 + v, none⟩ = some (.int .i64 x))) (ds := [10]) #[false, false, false, false, false, false, false, false, false, false, false] kr rfl rfl HCS.out (fun hHeld => ?_)
   refine with_tabW madd15.tab madd15.bits (fun HT_ HW_ => ?_)
   refine pu_ 0 72 HT_ ?_; refine pu_ 1 73 HT_ ?_; refine pu_ 2 74 HT_ ?_; refine pu_ 3 75 HT_ ?_; refine pu_ 4 76 HT_ ?_; refine tk_ 5 77 HT_ HW_ hHeld ?_; refine pu_ 6 78 HT_ ?_; refine pu_ 7 79 HT_ ?_; refine pu_ 8 80 HT_ ?_; refine pu_ 9 81 HT_ ?_
   refine last_ (i := 10) (N := none) #[true, true, true, true, true, true, true, true, true, true, true] rfl rfl (one_of HT_.out kr) (by decide) (fun K hK => ?_)
   have hcl := HCS.out
   have hfz := HFH.out
   refine skip_ (w1 := ?_) (by rfl) rfl ?_ ?_
   rotate_left 1
   ·go_simp
    rfl
   refine hK.out _ _ ?_
   clear hK K
   refine done_ (done_of HT_.out kr) ?_
   clear hHeld hcl hfz
   have hb6 : Below wr.heap.size wr wr.drew := below_drew1 (Below.refl _ _)
   have HU7 := ax ((HBU.out.below hb6).count v (by have := HL.out; omega) (wrap64 (x + 1)))
   have HBS7 := ax ((HBS.out.trans (Two.of_below hb6)).trans (Two.put1 (Put1.set g (2 + v) wr.drew (.int .i64 (wrap64 (x + 1)))) (.inl rfl)))
   clear hb6 HBU HPC HR HBS HCS HFH
   go_wp2_with fail
   go_ret
   exact ⟨by simp, HU7.out, HBS7.out⟩
end Go.Proofs.YtajiggmeappfaaaGreatDoor.P
namespace Go.Proofs.YtajiggmeappfaaaGreatDoor.P
open Go.RowKit Go.Proofs.YtajiggmeappfaaaGreatDoorW.PrintWords Go.Proofs.YtajiggmeappfaaaGreatDoorW.PrintLast Go.Proofs.YtajiggmeappfaaaGreatDoorW.PrintMore
open Go.RowKit Go.Shelf Go.Proofs.YtajiggmeappfaaaGreatDoorW.PrintWords Go.Proofs.YtajiggmeappfaaaGreatDoorW.PrintLast Go.Proofs.YtajiggmeappfaaaGreatDoorW.PrintMore
set_option maxRecDepth 100000
set_option maxHeartbeats 8000000
set_option linter.unusedVariables false
set_option linter.unusedSimpArgs false
-- YtajiggmeappfaaaGreatDoorPChunk
section
attribute [local go_sem] Oper.semAt_some
abbrev Part (len : Nat) := { x : Nat // 8 * x < len }
def partV (ad : Addr) (len : Nat) (x : Part len) : Value := .slice (some (ad.add (8 * x.1))) (min 8 (len - 8 * x.1)) (min 8 (len - 8 * x.1))
theorem chunk1_in (F : Fence) (n : Nat) (h7 : F.fn 210) (hro : F.round = none) (hn : 1 ≤ n) (l Bs Bn : Nat) (ad : Addr) (len cap : Nat) (hlen : len < 140737488355328) (hcap : len ≤ cap)
  (Kp : World → World → Prop) (hKs : ∀ A B, Kp A B → A.cell? ⟨Bs, 0, none⟩ = some (.slice (some ad) len cap) → B.cell? ⟨Bs, 0, none⟩ = some (.slice (some ad) len cap)) (hKn : ∀ A B, Kp A B → A.cell? ⟨Bn, 0, none⟩ = some (.int .i64 8) → B.cell? ⟨Bn, 0, none⟩ = some (.int .i64 8)) (J Jx : List (Part len) → World → Prop)
  (hY : ∀ pre (x : Part len) W, J pre W → pre.length < len → YieldAt F (n - 1) Tryz.prog l #[partV ad len x] W fun e W' =>
   (e = .returned (.bool true) ∧ J (pre ++ [x]) W' ∧ Kp W W') ∨ (e = .returned (.bool false) ∧ Jx (pre ++ [x]) W'))
  (hJd : ∀ pre W, J pre W → J pre W.drew)
  (W : World) (hcs : W.cell? ⟨Bs, 0, none⟩ = some (.slice (some ad) len cap)) (hcn : W.cell? ⟨Bn, 0, none⟩ = some (.int .i64 8)) (h0 : J [] W) :
  CallsIn F n Tryz.prog 210 #[.func (.yield l) #[] #[], .pointer (some ⟨Bs, 0, none⟩), .pointer (some ⟨Bn, 0, none⟩)] W fun e W' => (∃ v, e = .returned v) ∧
   ((∃ ys, ys.map (·.1) = List.range ((len + 7) / 8) ∧ J ys W') ∨ (∃ pre, Jx pre W')) := by
 refine callsIn_of_wp Tryz.func210 rfl h7 ?_ hro
 simp only [Tryz.ntmps210, List.size_toArray, List.length_cons, List.length_nil, Nat.reduceAdd, Nat.reduceSub, Array.replicate_succ, Array.replicate_zero, List.push_toArray, List.append_toArray, List.nil_append, List.cons_append]
 gi_wp2
 gi_loopw [4] (fun i wr => ∃ (k : Nat) (pre : List (Part len)), 8 * k < len + 8 ∧ i = .int .i64 ((8 * k : Nat) : Int) ∧ pre.map (·.1) = List.range k ∧ J pre wr ∧ wr.cell? ⟨Bs, 0, none⟩ = some (.slice (some ad) len cap) ∧ wr.cell? ⟨Bn, 0, none⟩ = some (.int .i64 8))
  (fun i _ => len + 8 - (intOf i).toNat)
 case atStart => exact ⟨0, [], by omega, rfl, rfl, h0, hcs, hcn⟩
 case round =>
  obtain ⟨k, pre, hk, rfl, hpre, hJs, hcs', hcn'⟩ := hrel
  have hpl : pre.length = k := by have := congrArg List.length hpre; simpa using this
  by_cases hlt : 8 * k < len
  ·have hcs2 : wr.drew.cell? ⟨Bs, 0, none⟩ = some (.slice (some ad) len cap) := hcs'
   have hcn2 : wr.drew.cell? ⟨Bn, 0, none⟩ = some (.int .i64 8) := hcn'
   obtain ⟨j, hj⟩ : ∃ j : Nat, min 8 (len - 8 * k) = j := ⟨_, rfl⟩
   have hif : (if ((len - 8 * k : Nat) : Int) < 8 then ((len - 8 * k : Nat) : Int) else 8) = (j : Int) := by split <;> omega
   have hj1 : j ≤ 8 := by omega
   have hj2 : 8 * k + j ≤ len := by omega
   obtain ⟨fn, tmps, assign, body, hy, hR⟩ := hY pre ⟨k, hlt⟩ wr.drew (hJd _ _ hJs) (by omega)
   simp only [partV, hj] at hy
   clear hY
   gi_wp2
   gi_region
   all_goals (clear hcs' hcn')
   all_goals
    gi_wp2
    refine hR.mono ?_
    rintro e W3 (⟨rfl, hJ3, hk3⟩ | ⟨rfl, hJx3⟩)
    ·have hcs3 := hKs _ _ hk3 hcs2
     have hcn3 := hKn _ _ hk3 hcn2
     clear hR hy hk3
     gi_wp2
     go_roundw
     case rel => exact ⟨k + 1, pre ++ [⟨k, hlt⟩], by omega, by first | rfl | (congr 1; omega) | simp, by rw [List.map_append, hpre, List.range_succ]; rfl, hJ3, hcs3, hcn3⟩
     case measure => simp [intOf]; omega
    ·clear hR hy
     gi_wp2
     refine bodyPost_ret (results_none rfl _ _ _) rfl ?_
     exact ⟨⟨_, rfl⟩, .inr ⟨_, hJx3⟩⟩
  ·gi_wp2
   go_end0
   exact ⟨⟨_, rfl⟩, .inl ⟨pre, by rw [hpre]; congr 1; omega, hJs⟩⟩
theorem chunk1_nil_in (F : Fence) (n : Nat) (h7 : F.fn 210) (hro : F.round = none) (l Bs Bn : Nat) (A : Option Addr) (cap : Nat) (J : World → Prop) (W : World)
  (hcs : W.cell? ⟨Bs, 0, none⟩ = some (.slice A 0 cap)) (h0 : J W) :
  CallsIn F n Tryz.prog 210 #[.func (.yield l) #[] #[], .pointer (some ⟨Bs, 0, none⟩), .pointer (some ⟨Bn, 0, none⟩)] W fun e W' => (∃ v, e = .returned v) ∧ J W' := by
 refine callsIn_of_wp Tryz.func210 rfl h7 ?_ hro
 simp only [Tryz.ntmps210, List.size_toArray, List.length_cons, List.length_nil, Nat.reduceAdd, Nat.reduceSub, Array.replicate_succ, Array.replicate_zero, List.push_toArray, List.append_toArray, List.nil_append, List.cons_append]
 gi_wp2
 gi_loopw [4] (fun i wr => i = .int .i64 0 ∧ J wr ∧ wr.cell? ⟨Bs, 0, none⟩ = some (.slice A 0 cap)) (fun _ _ => 0)
 case atStart => exact ⟨rfl, h0, hcs⟩
 case round =>
  obtain ⟨rfl, hJs, hcs'⟩ := hrel
  gi_wp2
  go_end0
  exact ⟨⟨_, rfl⟩, hJs⟩
theorem chunk_in (F : Fence) (n : Nat) (h5 : F.fn 188) (hro : F.round = none) (A : Option Addr) (len cap : Nat) (w : World) :
  CallsIn F n Tryz.prog 188 #[.slice A len cap, .int .i64 8] w fun e w' => e = .returned (.func (.func 210) #[] #[.pointer (some ⟨w.heap.size, 0, none⟩), .pointer (some ⟨w.heap.size + 1, 0, none⟩)]) ∧
   w' = (w.alloc (.cells #[.slice A len cap] 37)).alloc (.cells #[.int .i64 8] 3) := by
 refine callsIn_of_wp Tryz.func188 rfl h5 ?_ hro
 simp only [Tryz.ntmps188, List.size_toArray, List.length_cons, List.length_nil, Nat.reduceAdd, Nat.reduceSub, Array.replicate_succ, Array.replicate_zero, List.push_toArray, List.append_toArray, List.nil_append, List.cons_append]
 gi_wp2
 go_ret
 exact ⟨by simp, rfl⟩
end
end Go.Proofs.YtajiggmeappfaaaGreatDoor.P
namespace Go.Proofs.YtajiggmeappfaaaGreatDoor.P
open Go.RowKit Go.Proofs.YtajiggmeappfaaaGreatDoorW.PrintWords Go.Proofs.YtajiggmeappfaaaGreatDoorW.PrintLast Go.Proofs.YtajiggmeappfaaaGreatDoorW.PrintMore
open Go Go.Proofs Go.Shelf
set_option maxRecDepth 100000
set_option maxHeartbeats 8000000
set_option linter.unusedVariables false
set_option linter.unusedSimpArgs false
-- YtajiggmeappfaaaGreatDoorP75
section
attribute [local go_sem] max2_int min2_int max_two min_two max_three min_three max_four min_four
attribute [local go_sem] Oper.semAt_some
def byOf (l : List Int) (x : Nat) : Nat → Int
 | 0 => 0
 | k + 1 => Go.bits .or .u8 (byOf l x k) (shl .u8 (l.getD (8 * x + k) 0) (7 - (k : Int)))
def byte (l : List Int) (x : Nat) : Int := byOf l x (min 8 (l.length - 8 * x))
def bits_Bytes.f (k : Nat) (l0 : List Int) : Option (List Int × Int) := (bits_Right.f k l0).bind fun t => if t = true then (if l0.length < 140737488355328 then some ((List.range ((l0.length + 7) / 8)).map (byte l0), 0) else none) else some ([], 5)
theorem bits_Bytes.mono : ∀ a0 k, LeO (bits_Bytes.f k a0) (bits_Bytes.f (k + 1) a0) := by
 intro a0 k
 unfold bits_Bytes.f
 exact LeO.bind (bits_Right.mono a0 k) (fun _ => LeO.refl _)
theorem bytes_info : (Tryz.prog.info? 5).map (fun i => (i.zero, i.size, i.bytes)) = some (some (.int .u8 0), 1, 1) := by kernel_rfl
def keepsK (Bs Bn n₀ : Nat) (A B : World) : Prop := Below n₀ A B ∧ B.heap[Bs]? = A.heap[Bs]? ∧ B.heap[Bn]? = A.heap[Bn]?
theorem keepsK_t {Bs Bn n₀ : Nat} {A B C : World} (h : keepsK Bs Bn n₀ A B) (k : keepsK Bs Bn n₀ B C) : keepsK Bs Bn n₀ A C := ⟨h.1.trans k.1, k.2.1.trans h.2.1, k.2.2.trans h.2.2⟩
theorem keepsK_b {Bs Bn n₀ : Nat} {w : World} (hn : n₀ ≤ w.heap.size) (hs : Bs < w.heap.size) (hn' : Bn < w.heap.size) (W : World) (l : Nat) (o o' : Obj) (hl : w.heap.size ≤ l) (h : W.heap[l]? = some o) (h1 : o.isCells = false) (h2 : o.isWalk = false) : keepsK Bs Bn n₀ W (W.putObj l o') := by
 have hlt := (Array.getElem?_eq_some_iff.1 h).1
 exact ⟨belowK_b hn W l o o' hl h h1 h2, (grownBy_putObj' W l o').block Bs (by omega) (fun e => by cases e; omega), (grownBy_putObj' W l o').block Bn (by omega) (fun e => by cases e; omega)⟩
theorem keepsK_cell {Bs Bn n₀ : Nat} {A B : World} (h : keepsK Bs Bn n₀ A B) : B.cell? ⟨Bs, 0, none⟩ = A.cell? ⟨Bs, 0, none⟩ ∧ B.cell? ⟨Bn, 0, none⟩ = A.cell? ⟨Bn, 0, none⟩ := by
 unfold World.cell?
 exact ⟨by simp only [h.2.1], by simp only [h.2.2]⟩
theorem abides_drew {α : Type} {B : Nat} {J : List α → World → Prop} (h : AbidesFrom B J) (pre : List α) (W : World) (hj : J pre W) : J pre W.drew :=
 h pre W W.drew none hj ⟨rfl, rfl, rfl, Nat.le_refl _, fun _ _ _ => rfl⟩ (fun _ e => by cases e)
theorem reps_u8 (w : World) (base : Nat) (ok : Nat → Prop) : ∀ ps : List Int, Reps ((Kd.int .u8).M w base ok) 1 ps (ps.map (Value.int .u8))
 | [] => Reps.none _ _
 | p :: ps => Reps.one rfl (reps_u8 w base ok ps)
theorem chunk_stops (F : Fence) (n : Nat) (h7 : F.fn 210) (hro : F.round = none) (hn : 1 ≤ n) (Bs Bn n₀ : Nat) (A : Option Addr) (ad : Addr) (len cap : Nat) (hA : 0 < len → A = some ad) (hlen : len < 140737488355328) (hcap : len ≤ cap) (w : World)
  (hs : Bs < w.heap.size) (hb : Bn < w.heap.size)
  (hcs : w.cell? ⟨Bs, 0, none⟩ = some (.slice A len cap)) (hcn : w.cell? ⟨Bn, 0, none⟩ = some (.int .i64 8)) :
  SeqStopsK F n Tryz.prog 210 #[.pointer (some ⟨Bs, 0, none⟩), .pointer (some ⟨Bn, 0, none⟩)] (fun x : Part len => #[partV ad len x]) (keepsK Bs Bn n₀) (fun ys => ys.map (·.1) = List.range ((len + 7) / 8)) (fun _ => True) len w := fun l J Jx W hW hJ _ hY h0 => by
 have hcs' := (hW.cell (p := ⟨Bs, 0, none⟩) hs).trans hcs
 have hcn' := (hW.cell (p := ⟨Bn, 0, none⟩) hb).trans hcn
 by_cases h : 0 < len
 ·obtain rfl := hA h
  refine (chunk1_in F n h7 hro hn l Bs Bn ad len cap hlen hcap (keepsK Bs Bn n₀) (fun X Y k e => (keepsK_cell k).1.trans e) (fun X Y k e => (keepsK_cell k).2.trans e) J Jx hY (abides_drew hJ) W hcs' hcn' h0).mono ?_
  rintro e W' ⟨he, ⟨ys, hys, hj⟩ | ⟨pre, hj⟩⟩
  ·exact ⟨he, .inl ⟨ys, hys, hj⟩⟩
  ·exact ⟨he, .inr ⟨pre, trivial, hj⟩⟩
 ·obtain rfl : len = 0 := by omega
  exact (chunk1_nil_in F n h7 hro l Bs Bn A cap (J []) W hcs' h0).mono fun e W' ⟨he, hj⟩ => ⟨he, .inl ⟨[], rfl, hj⟩⟩
theorem bits_Bytes.calls (k : Nat) (A0 : Option Addr) (c0 : Nat) (l0 : List Int) (r1 : List Int) (r2 : Int) (w : World) (hr0 : Kd.C (Kd.int .u8) w A0 l0.length l0) (hc0 : l0.length ≤ c0) (h : bits_Bytes.f k l0 = some (r1, r2)) :
  Calls Tryz.prog 141 #[.slice A0 l0.length c0] w fun e w' => ∃ v0_ : Value, e = .returned (.tuple #[v0_, .int .i64 r2]) ∧ Kd.R (Kd.int .u8) 5 w' w.heap.size (fun _ => True) v0_ r1 ∧ Below w.heap.size w w' := by
 unfold bits_Bytes.f at h
 obtain ⟨t, ht, h⟩ := Option.bind_eq_some_iff.mp h
 refine (callsIn_wide (n := 5)).1 ?_
 have hro : Fence.wide.round = none := rfl
 refine callsIn_of_wp_marks Tryz.func141 rfl trivial ?_ hro
 simp only [Tryz.ntmps141, List.size_toArray, List.length_cons, List.length_nil, Nat.reduceAdd, Nat.reduceSub, Array.replicate_succ, Array.replicate_zero, List.push_toArray, List.append_toArray, List.nil_append, List.cons_append]
 have hR := (callsIn_wide (n := 4)).2 (bits_Right.calls k A0 c0 l0 t w hr0 hc0 ht)
 cases t with
 | false =>
  rw [if_neg (by decide)] at h
  cases h
  gi_wp2_with (first | (gi_at_call 136; refine hR.mono ?_; rintro e w' ⟨rfl, ⟨m, rfl⟩⟩) | (refine ⟨trivial, ?_⟩; gi_at_call 136; refine hR.mono ?_; rintro e w' ⟨rfl, ⟨m, rfl⟩⟩))
  exact ⟨_, results_tmp2 rfl _ _ _, _, rfl, Kd.R_nil _ _ _ _ _, pw_below_drewN (Below.refl _ _) m⟩
 | true =>
  rw [if_pos rfl] at h
  by_cases hl : l0.length < 140737488355328
  ·rw [if_pos hl] at h
   cases h
   gi_wp2_with (first | (gi_at_call 136; refine hR.mono ?_; rintro e w' ⟨rfl, ⟨m, rfl⟩⟩) | (refine ⟨trivial, ?_⟩; gi_at_call 136; refine hR.mono ?_; rintro e w' ⟨rfl, ⟨m, rfl⟩⟩))
   obtain ⟨w1, hw1⟩ : ∃ w1, w.drewN m = w1 := ⟨_, rfl⟩
   have hB1 : Below w.heap.size w w1 := by rw [← hw1]; exact pw_below_drewN (Below.refl _ _) m
   have hs1 : w1.heap.size = w.heap.size := by rw [← hw1]; rfl
   have hC1 := Kd.C_below hr0 hB1
   simp only [hw1, ← hs1]
   refine ⟨trivial, (chunk_in Fence.wide 4 trivial hro _ _ _ _).mono ?_⟩
   rintro e w2' ⟨rfl, rfl⟩
   gi_wp2
   obtain ⟨ad, hA⟩ : ∃ ad, 0 < l0.length → A0 = some ad := by
    by_cases hp : 0 < l0.length
    ·obtain ⟨ad, ha, _⟩ := hC1.2.2 hp; exact ⟨ad, fun _ => ha⟩
    ·exact ⟨⟨0, 0, none⟩, fun h => absurd h hp⟩
   have bO := Boxed.new w1 37 (.slice none 0 0)
   have bS := Boxed.new (w1.alloc (.cells #[.slice none 0 0] 37)) 37 (.slice A0 l0.length c0)
   have bN := Boxed.new ((w1.alloc (.cells #[.slice none 0 0] 37)).alloc (.cells #[.slice A0 l0.length c0] 37)) 3 (.int .i64 8)
   simp only [World.size_alloc] at bS bN
   have hB2 : Below w1.heap.size w1 (((w1.alloc (.cells #[.slice none 0 0] 37)).alloc (.cells #[.slice A0 l0.length c0] 37)).alloc (.cells #[.int .i64 8] 3)) :=
    (((Below.refl _ w1).alloc (Nat.le_refl _) _).alloc (by simp) _).alloc (by first | (simp; done) | (simp; omega)) _
   obtain ⟨i0, hi, hz0, hz1, hz2⟩ := info_parts bytes_info
   rw [← hs1]
   have HS := ax hs1
   clear hs1
   refine wpIn_rangeFunc_ownG hro (by omega) (gf := 210) (lb := #[.pointer (some ⟨w1.heap.size + 1, 0, none⟩), .pointer (some ⟨w1.heap.size + 1 + 1, 0, none⟩)]) rfl trivial (enters_of Tryz.func210 kr rfl)
    (chunk_stops Fence.wide 4 trivial hro (by omega) (w1.heap.size + 1) (w1.heap.size + 1 + 1) w1.heap.size A0 ad l0.length c0 hA hl hc0 _ (by first | (simp; done) | (simp; omega)) (by simp) (bS.alloc _).cell bN.cell) keepsK_t (keepsK_b (by first | (simp; done) | (simp; omega)) (by first | (simp; done) | (simp; omega)) (by simp)) (Below.refl _ _) (fun _ => rfl)
    (fun pre W => (∃ v, Boxed W w1.heap.size 37 v ∧ W.ownsRow w1.heap.size 5 1 v pre.length (pre.map fun x => Value.int .u8 (byte l0 x.1)) ∧ True) ∧ Boxed W (w1.heap.size + 1) 37 (.slice A0 l0.length c0) ∧ Boxed W (w1.heap.size + 1 + 1) 3 (.int .i64 8) ∧ Below w1.heap.size w1 W)
    (fun _ _ _ => False)
    (OwnFrom.and (Own.from (holdsRow_own w1.heap.size w1.heap.size 37 5 1 (fun pre : List (Part l0.length) => pre.length) (fun pre : List (Part l0.length) => pre.map fun x => Value.int .u8 (byte l0 x.1)) (fun (pre : List (Part l0.length)) v => True)) _)
     (OwnFrom.and (Own.from (boxed_own _ _ (fun _ => _)) _) (OwnFrom.and (Own.from (boxed_own _ _ (fun _ => _)) _) (ownFrom_below (Nat.le_refl _) (by simp; omega)))))
    (fun _ _ _ _ _ hs _ _ => hs)
    ⟨⟨_, (bO.alloc _).alloc _, World.ownsRow_nil _ _ _ _, trivial⟩, bS.alloc _, bN, hB2⟩
    (fun x => { tmps := #[.slice A0 l0.length c0, undef, .slice none 0 0, .int .i64 0, .pointer (some ⟨w1.heap.size, 0, none⟩), partV ad l0.length x, undef, undef, undef, .slice A0 l0.length c0, .bool true, .bool false, .slice A0 l0.length c0,
     .func (.func 210) #[] #[.pointer (some ⟨w1.heap.size + 1, 0, none⟩), .pointer (some ⟨w1.heap.size + 1 + 1, 0, none⟩)], partV ad l0.length x, undef, undef, undef, undef, undef, undef, undef, undef, undef, undef, undef, undef, undef, undef, undef, undef, undef, undef, undef], defers := [] }) ?assign ?body ?done ?stop
   case assign =>
    intro l x W K hK
    gi_wp2
    exact hK
   case body =>
    rintro l pre x W ⟨⟨v, hv, hrow, _⟩, hbs, hbn, hB⟩ hlt
    have hcC := Kd.C_below hC1 hB
    obtain ⟨j, hj⟩ : ∃ j : Nat, min 8 (l0.length - 8 * x.1) = j := ⟨_, rfl⟩
    have hxl := x.2
    have hcell : ∀ i, i < j → W.cell? ((ad.add (8 * x.1)).add i) = some (.int .u8 (l0.getD (8 * x.1 + i) 0)) := by
     intro i hi
     have hlt8 : 8 * x.1 + i < l0.length := by omega
     obtain ⟨ad', ea, hcs⟩ := hcC.2.2 (by omega)
     obtain rfl : ad' = ad := by
      have := hA (by omega)
      rw [ea] at this
      exact Option.some.inj this
     obtain ⟨c, h1, h2, h3⟩ := hcs (8 * x.1 + i) _ (List.getElem?_eq_getElem hlt8)
     have h2' : c = [Value.int .u8 l0[8 * x.1 + i]] := h2
     subst h2'
     have h4 := h3 0 _ rfl
     rw [Addr.add_add, List.getD_eq_getElem?_getD, List.getElem?_eq_getElem hlt8]
     simpa [Kd.int, Kd.scalar] using h4
    simp only [partV, hj]
    gi_wp2
    gi_loop [6, 17] (fun c i => ∃ q : Nat, q ≤ j ∧ c = .int .u8 (byOf l0 x.1 q) ∧ i = .int .i64 q) (fun _ i => j - (intOf i).toNat)
    case atStart => exact ⟨0, by omega, rfl, rfl⟩
    case round =>
     obtain ⟨q, hq, rfl, rfl⟩ := hrel
     by_cases hqj : q < j
     ·have hcq := hcell q hqj
      gi_wp2
      have hsh : shl .u8 (l0.getD (8 * x.1 + q) 0) (7 - (q : Int)) = l0[8 * x.1 + q]?.getD 0 * 2 ^ (7 - q) % 256 := by
       unfold shl
       rw [show min (7 - (q : Int)).toNat IntKind.u8.bits = 7 - q from by show min _ 8 = _; omega, List.getD_eq_getElem?_getD]
       rfl
      refine ⟨⟨q + 1, by omega, ?_, by simp⟩, by simp [intOf]; omega⟩
      show _ = Value.int .u8 (Go.bits .or .u8 _ (shl _ _ _))
      rw [hsh]
     ·obtain rfl : q = j := by omega
      have hc := hv.cell
      have hbyte : byte l0 x.1 = byOf l0 x.1 q := by unfold byte; rw [hj]
      gi_wp2_with (gi_at_builtin; refine wpListIn_append_own _ rfl _ _ 37 rfl w1.heap.size 5 i0 (.int .u8 0) 1 1 Tryz.underlying37 hi hz0 hz1 hz2 rfl (by decide) _ _ _ rfl (hrow.alloc _) ⟨W.heap.size, 0, none⟩ 1 1 [.int .u8 (byOf l0 x.1 q)] rfl rfl (cell_one_new _ _ _) (by simp [Value.oneCell']) (by unfold maxLen; omega) (by omega) (by have := hB.size; simp; omega) ?_; intro v' w2 hown' hgrow _; obtain ⟨g', cap', rfl⟩ := ownsRow_succ hown'; obtain ⟨hv1, hv2, hr2, hk2, hb2⟩ := hv.appended (by decide) hrow hB.size (Nat.le_refl _) hown' hgrow; have hc1 := hv1.cell; have hf1 := hv1.frozen)
      have hbs' := ((hbs.alloc _).kept hgrow (hbs.not_row (by decide) hrow)).other (B' := w1.heap.size) (by omega)
      have hbn' := ((hbn.alloc _).kept hgrow (hbn.not_row (by decide) hrow)).other (B' := w1.heap.size) (by omega)
      exact ⟨hk2.from _, ⟨hb2, (hbs' _).trans hbs.symm, (hbn' _).trans hbn.symm⟩, ⟨_, hv2, by simpa [hbyte] using hr2⟩, hbs' _, hbn' _, hB.trans hb2⟩
   case done =>
    rintro D ys W hD hS ⟨⟨v, hv, hrow, _⟩, hbs, hbn, hB⟩ hK
    have hc := hv.cell
    gi_wp2
    refine ⟨by simp, .inl ⟨_, _, rfl, run_takeDeferred hK, ?_⟩⟩
    have hb' := hB.trans (belowK_b (w := w1) (Nat.le_refl _) W D _ (.deferred none) (by simp at hD; omega) hK rfl rfl)
    refine ⟨_, results_tmp2 rfl _ _ _, v, rfl, ⟨fun _ _ => trivial, _, ?_, reps_u8 _ _ _ ((List.range ((l0.length + 7) / 8)).map (byte l0))⟩, ?_⟩
    ·have ho := ownsRow_putObj hrow (.deferred none) hK rfl
     rw [show (ys.map fun x => Value.int .u8 (byte l0 x.1)) = ((List.range ((l0.length + 7) / 8)).map (byte l0)).map (Value.int .u8) from by rw [← hS]; simp,
      show ys.length = ((List.range ((l0.length + 7) / 8)).map (byte l0)).length from by rw [← hS]; simp] at ho
     rw [HS.out] at ho
     exact ho
    ·rw [HS.out] at hb'
     exact hB1.trans hb'
   case stop =>
    rintro D c pre W _ _ h _
    exact h.elim
  ·rw [if_neg hl] at h; cases h
end
end Go.Proofs.YtajiggmeappfaaaGreatDoor.P
namespace Go.Proofs.YtajiggmeappfaaaGreatDoor.P
open Go.RowKit Go.Proofs.YtajiggmeappfaaaGreatDoorW.PrintWords Go.Proofs.YtajiggmeappfaaaGreatDoorW.PrintLast Go.Proofs.YtajiggmeappfaaaGreatDoorW.PrintMore
set_option maxRecDepth 100000
set_option maxHeartbeats 8000000
set_option linter.unusedVariables false
set_option linter.unusedSimpArgs false
-- YtajiggmeappfaaaGreatDoorP9
section
attribute [local go_sem] max2_int min2_int max_two min_two max_three min_three max_four min_four
mutual
def bits_Of.l0 : Nat → List Int → List Int → Int → Int → Option (List Int)
 | 0, _, _, _, _ => none
 | k + 1, x3, x7, x8, x9 => if x9 < x8 then (if 0 ≤ x9 then (if x9 < (x7.length : Int) then (bits_Of.l1 k x3 (rd x7 x9) x7 x8 x9 0) else (none)) else (none)) else (some x3)
def bits_Of.l1 : Nat → List Int → Int → List Int → Int → Int → Int → Option (List Int)
 | 0, _, _, _, _, _, _ => none
 | k + 1, x3, x5, x7, x8, x9, x13 => if x13 < 8 then (if 0 ≤ (wrap64 (7 - x13)) then (if x3.length < 140737488355328 then (bits_Of.l1 k (x3 ++ [Go.bits .and .u8 (shr .u8 x5 (wrap64 (7 - x13))) 1]) x5 x7 x8 x9 (wrap64 (x13 + 1))) else (none)) else (none)) else (bits_Of.l0 k x3 x7 x8 (wrap64 (x9 + 1)))
end
def bits_Of.f (k : Nat) (l0 : List Int) : Option (List Int) := bits_Of.l0 k ([] : List Int) l0 (l0.length : Int) 0
theorem bits_Of.mono_l : ∀ k, (∀ y0 y1 y2 y3, LeO (bits_Of.l0 k y0 y1 y2 y3) (bits_Of.l0 (k + 1) y0 y1 y2 y3)) ∧ (∀ y0 y1 y2 y3 y4 y5, LeO (bits_Of.l1 k y0 y1 y2 y3 y4 y5) (bits_Of.l1 (k + 1) y0 y1 y2 y3 y4 y5))
 | 0 => ⟨fun _ _ _ _ r h => by simp [bits_Of.l0] at h, fun _ _ _ _ _ _ r h => by simp [bits_Of.l1] at h⟩
 | k + 1 => by
  obtain ⟨ih0, ih1⟩ := bits_Of.mono_l k
  refine ⟨?_, ?_⟩
  ·intro y0 y1 y2 y3
   unfold bits_Of.l0
   repeat' first
   | (with_reducible exact ih0 _ _ _ _)
   | (with_reducible exact ih1 _ _ _ _ _ _)
   | (with_reducible exact LeO.refl _)
   | (with_reducible exact LeO.none _)
   | (with_reducible refine LeO.ite ?_ ?_)
   | (with_reducible refine LeO.bind ?_ (fun _ => ?_))
   | exact ih0 _ _ _ _
   | exact ih1 _ _ _ _ _ _
   | exact LeO.none _
   | refine LeO.ite ?_ ?_
   | refine LeO.bind ?_ (fun _ => ?_)
  ·intro y0 y1 y2 y3 y4 y5
   unfold bits_Of.l1
   repeat' first
   | (with_reducible exact ih0 _ _ _ _)
   | (with_reducible exact ih1 _ _ _ _ _ _)
   | (with_reducible exact LeO.refl _)
   | (with_reducible exact LeO.none _)
   | (with_reducible refine LeO.ite ?_ ?_)
   | (with_reducible refine LeO.bind ?_ (fun _ => ?_))
   | exact ih0 _ _ _ _
   | exact ih1 _ _ _ _ _ _
   | exact LeO.none _
   | refine LeO.ite ?_ ?_
   | refine LeO.bind ?_ (fun _ => ?_)
theorem bits_Of.mono : ∀ a0 k, LeO (bits_Of.f k a0) (bits_Of.f (k + 1) a0) := by
 intro a0 k
 obtain ⟨ih0, ih1⟩ := bits_Of.mono_l k
 unfold bits_Of.f
 repeat' first
   | (with_reducible exact ih0 _ _ _ _)
   | (with_reducible exact ih1 _ _ _ _ _ _)
   | (with_reducible exact LeO.refl _)
   | (with_reducible exact LeO.none _)
   | (with_reducible refine LeO.ite ?_ ?_)
   | (with_reducible refine LeO.bind ?_ (fun _ => ?_))
   | exact ih0 _ _ _ _
   | exact ih1 _ _ _ _ _ _
   | exact LeO.none _
   | refine LeO.ite ?_ ?_
   | refine LeO.bind ?_ (fun _ => ?_)
theorem bits_Of.calls (k : Nat) (A0 : Option Addr) (c0 : Nat) (l0 : List Int) (r : List Int) (w : World) (hr0 : Kd.C (Kd.int .u8) w A0 l0.length l0) (hc0 : l0.length ≤ c0) (h : bits_Of.f k l0 = some r) :
  Calls Tryz.prog 57 #[.slice A0 l0.length c0] w fun e w' => ∃ v0_ : Value, e = .returned (v0_) ∧ Kd.R (Kd.int .u8) 5 w' w.heap.size (fun _ => True) v0_ r ∧ Below w.heap.size w w' := by
 have HR0 := ax hr0
 have HC0 := ax hc0
 clear hr0 hc0
 have HB := ax (Below.refl w.heap.size w)
 have H : (bits_Of.l0 k ([] : List Int) l0 (l0.length : Int) 0) = some r := h
 clear h
 have H' := ax H
 clear H
 go_enter Tryz.func57, Tryz.ntmps57
 go_wp2
 go_loopg [3, 9] k (fun kq v3 v9 w' => ∃ (x3_1 : List Int) (x9_1 : Int), v9 = .int .i64 x9_1 ∧ Aside0 (bits_Of.l0 kq x3_1 l0 (l0.length : Int) x9_1 = some r) ∧ Aside0 (kq ≤ k) ∧ Aside0 (Kd.R (Kd.int .u8) 5 w' w.heap.size (fun _ => True) v3 x3_1) ∧ Aside0 (Below w.heap.size w w'))
 case atStart => exact ⟨(([] : List Int)), (0), rs_, H', ⟨Nat.le_refl _⟩, ⟨by first | exact Kd.R_nil _ _ _ _ _ | exact Kd.N_nil _ _ _ _ _ | exact Kd.V_nil _ _ _ _ _ | exact Kd.Q_nil _ _ _ _ _ | exact Kd.S_nil _ _ _ _ _⟩, ⟨bl_⟩⟩
 case round =>
  clear H'
  obtain ⟨x3_1, x9_1, rfl, HA, HK1, HO_3, HB⟩ := hrel
  cases gk with
  | zero => exact absurd HA.out (by simp [bits_Of.l0])
  | succ k1 =>
   have H := HA.out
   clear HA
   simp only [bits_Of.l0] at H
   by_cases c2 : x9_1 < (l0.length : Int)
   ·rw [if_pos c2] at H
    have c2b0 : decide (x9_1 < (l0.length : Int)) = true := decide_eq_true c2
    clear c2
    by_cases c3 : 0 ≤ x9_1
    ·rw [if_pos c3] at H
     have c3b0 : decide (0 ≤ x9_1) = true := decide_eq_true c3
     clear c3
     by_cases c4 : x9_1 < (l0.length : Int)
     ·rw [if_pos c4] at H
      have c4b0 : decide (x9_1 < (l0.length : Int)) = true := decide_eq_true c4
      clear c4
      have H' := ax H
      clear H
      have p101 : 0 ≤ (x9_1 : Int) := of_decide_eq_true as_
      have q101 : x9_1 < (l0.length : Int) := of_decide_eq_true as_
      obtain ⟨ad101, e101, hx101_0⟩ := Kd.at_int HR0.out x9_1 p101 q101
      cases e101
      replace hx101_0 := (HB.out.cell (World.block_lt_of_cell? w _ hx101_0)).trans hx101_0
      replace p101 := eq_true p101
      replace q101 := eq_true q101
      go_wp2
      go_loopg [3, 13] k1 (fun kq v3 v13 w' => ∃ (x3_2 : List Int) (x13_2 : Int), v13 = .int .i64 x13_2 ∧ Aside0 (bits_Of.l1 kq x3_2 (rd l0 x9_1) l0 (l0.length : Int) x9_1 x13_2 = some r) ∧ Aside0 (kq ≤ k1) ∧ Aside0 (Kd.R (Kd.int .u8) 5 w' w.heap.size (fun _ => True) v3 x3_2) ∧ Aside0 (Below w.heap.size w w'))
      case atStart => exact ⟨(x3_1), (0), rs_, H', ⟨Nat.le_refl _⟩, ⟨by (with_reducible repeat (first | apply Kd.R_alloc | apply Kd.R_drewN | apply Kd.R_drew)); exact HO_3.out⟩, ⟨bl_⟩⟩
      case round =>
       clear H'
       try clear p1
       try clear q1
       try clear hx1
       try clear c2
       try clear c2b0
       try clear p2
       try clear c3
       try clear c3b0
       try clear c4
       try clear c4b0
       try clear hx101_0
       try clear p101
       try clear q101
       obtain ⟨x3_2, x13_2, rfl, HA, HK2, HO_3, HB⟩ := hrel
       cases gk with
       | zero => exact absurd HA.out (by simp [bits_Of.l1])
       | succ k2 =>
        have H := HA.out
        clear HA
        simp only [bits_Of.l1] at H
        by_cases c5 : x13_2 < 8
        ·rw [if_pos c5] at H
         have c5b0 : decide (x13_2 < 8) = true := decide_eq_true c5
         clear c5
         obtain ⟨ji6, hji6⟩ : ∃ j_ : Int, (wrap64 (7 - x13_2)) = j_ := ⟨_, rfl⟩
         replace H : (if 0 ≤ (ji6) then (if x3_2.length < 140737488355328 then (bits_Of.l1 k2 (x3_2 ++ [Go.bits .and .u8 (shr .u8 (rd l0 x9_1) (ji6)) 1]) (rd l0 x9_1) l0 (l0.length : Int) x9_1 (wrap64 (x13_2 + 1))) else (none)) else (none)) = some r := by first | (rw [hji6] at H; exact H) | (simp only [hji6] at H ⊢; exact H)
         have hji6w : (IntKind.i64.wrap (7 - x13_2)) = ji6 := (i64_w _).trans hji6
         by_cases c7 : 0 ≤ (ji6)
         ·rw [if_pos c7] at H
          have c7b0 := eq_true c7
          have c7b1 : decide (0 ≤ (ji6)) = true := decide_eq_true c7
          clear c7
          obtain ⟨ji8, hji8⟩ : ∃ j_ : Int, (shr .u8 (rd l0 x9_1) (ji6)) = j_ := ⟨_, rfl⟩
          replace H : (if x3_2.length < 140737488355328 then (bits_Of.l1 k2 (x3_2 ++ [Go.bits .and .u8 (ji8) 1]) (rd l0 x9_1) l0 (l0.length : Int) x9_1 (wrap64 (x13_2 + 1))) else (none)) = some r := by first | (rw [hji8] at H; exact H) | (simp only [hji8] at H ⊢; exact H)
          have hji8_ : ((rd l0 x9_1) / 2 ^ min (ji6).toNat 8) = ji8 := hji8
          have hji8z : (ji6) ≤ 8 → ((rd l0 x9_1) / 2 ^ (ji6).toNat) = ji8 := shr_small hji8
          by_cases c9 : x3_2.length < 140737488355328
          ·rw [if_pos c9] at H
           have LMc9 := ax c9
           clear c9
           obtain ⟨y102, hy102⟩ : ∃ y_ : List Int, y_ = (x3_2 ++ [Go.bits .and .u8 (ji8) 1]) := ⟨_, rfl⟩
           replace H : (bits_Of.l1 k2 y102 (rd l0 x9_1) l0 (l0.length : Int) x9_1 (wrap64 (x13_2 + 1))) = some r := by first | (rw [hy102]; with_reducible exact H) | (have H2_ := (Option.bind_some _ _).symm.trans H; rw [hy102]; with_reducible exact H2_) | (have H2_ := (Option.bind_some _ _).symm.trans H; with_reducible exact H2_) | with_reducible exact H | (rw [hy102]; exact H) | exact H
           have Ny102 := ax hy102
           clear hy102
           have H' := ax H
           clear H
           go_wp2_with (first | ((with_reducible refine gate_builtin (b := .append) (xs := #[.tmp 16, .tmp 22]) rfl ?_); at_builtin; refine Kd.R_append (Kd.int .u8) (w0 := w) w.heap.size rfl (.tmp 16) (.tmp 22) 37 5 (.int .u8 0) 1 rfl Tryz.underlying37 info5 rfl (by decide) (by omega) u3 x3_2 (Go.bits .and .u8 (ji8) 1) [.int .u8 (Go.bits .and .u8 (ji8) 1)] (fun _ => True) (fun _ => False) rfl rfl ?aP (fun _ hk => hk.elim) ?aF ?aO ?aB ?aS ?aL ?_; (case aP => exact rfl); (case aB => exact bl_); (case aF => exact (fun _ _ => trivial)); (case aO => exact (kR_ HO_3.out)); (case aS => exact (below_size bl_)); (case aL => have := LMc9.out; omega); intro v103 w10 ho hb hg hat; rw [← Ny102.out] at ho; have n0_ := ax (hb); have n1_ := ax (ho); clear HB; clear HO_3; have HB := n0_; have HO104 := n1_; clear n0_ n1_; clear ho hb hg hat))
           go_roundg k2
           case measure => have := HK1.out; have := HK2.out; omega
           case rel => exact ⟨(y102), (wrap64 (x13_2 + 1)), rs_, H', ⟨by have := HK1.out; have := HK2.out; omega⟩, ⟨by (with_reducible repeat (first | apply Kd.R_alloc | apply Kd.R_drewN | apply Kd.R_drew)); exact HO104.out⟩, ⟨bl_⟩⟩
          ·rw [if_neg c9] at H
           exact absurd H (by simp)
         ·rw [if_neg c7] at H
          exact absurd H (by simp)
        ·rw [if_neg c5] at H
         have c5b0 : decide (x13_2 < 8) = false := decide_eq_false c5
         clear c5
         have H' := ax H
         clear H
         go_wp2
         go_roundg k2
         case measure => have := HK1.out; have := HK2.out; omega
         case rel => exact ⟨(x3_2), (wrap64 (x9_1 + 1)), rs_, H', ⟨by have := HK1.out; have := HK2.out; omega⟩, ⟨by (with_reducible repeat (first | apply Kd.R_alloc | apply Kd.R_drewN | apply Kd.R_drew)); exact HO_3.out⟩, ⟨bl_⟩⟩
     ·rw [if_neg c4] at H
      exact absurd H (by simp)
    ·rw [if_neg c3] at H
     exact absurd H (by simp)
   ·rw [if_neg c2] at H
    have c2b0 : decide (x9_1 < (l0.length : Int)) = false := decide_eq_false c2
    clear c2
    obtain rfl := Option.some.inj H
    go_wp2
    go_ret
    exact ⟨_, by first | rfl | (simp [errW_none, errW_some] <;> rfl) | (simp [*, errW_none, errW_some] <;> rfl), by (with_reducible repeat (first | apply Kd.R_alloc | apply Kd.R_drewN | apply Kd.R_drew)); exact HO_3.out, bl_⟩
end
-- YtajiggmeappfaaaGreatDoorPAkBit
section
attribute [local go_sem ↓] Go.wp_at_zero Go.wp_at_succ
structure Fr (g : Nat) (v : Value) (w w' : World) : Prop where
 os : w'.os = w.os
 tape : w'.tape = w.tape
 output : w'.output = w.output
 size : w.heap.size ≤ w'.heap.size
 block : ∀ k, k < w.heap.size → k ≠ g → some k ≠ v.ownBlock → w'.heap[k]? = w.heap[k]?
theorem Fr.refl (g : Nat) (v : Value) (w : World) : Fr g v w w := ⟨rfl, rfl, rfl, Nat.le_refl _, fun _ _ _ _ => rfl⟩
def Newer (w : World) (v v' : Value) : Prop := v'.ownBlock = v.ownBlock ∨ ∀ b, v'.ownBlock = some b → w.heap.size ≤ b
theorem Newer.refl (w : World) (v : Value) : Newer w v v := .inl rfl
theorem Newer.trans {w w1 : World} {v v1 v2 : Value} (h : Newer w v v1) (hs : w.heap.size ≤ w1.heap.size) (k : Newer w1 v1 v2) : Newer w v v2 := by
 rcases k with k | k
 ·rcases h with h | h
  ·exact .inl (k.trans h)
  ·exact .inr fun b hb => h b (k ▸ hb)
 ·exact .inr fun b hb => Nat.le_trans hs (k b hb)
theorem Fr.trans {g : Nat} {v v1 : Value} {w w1 w2 : World} (h : Fr g v w w1) (hn : Newer w v v1) (k : Fr g v1 w1 w2) : Fr g v w w2 :=
 ⟨k.os.trans h.os, k.tape.trans h.tape, k.output.trans h.output, Nat.le_trans h.size k.size, fun i hi hg hv => by
  rw [k.block i (Nat.lt_of_lt_of_le hi h.size) hg ?_, h.block i hi hg hv]
  rcases hn with hn | hn
  ·rw [hn]; exact hv
  ·intro e; have := hn i e.symm; omega⟩
theorem Fr.below {g : Nat} {v : Value} {w w' : World} (h : Fr g v w w') {B : Nat} (hB : B ≤ w.heap.size) (hg : B ≤ g) (hv : ∀ b, v.ownBlock = some b → B ≤ b) : Below B w w' :=
 ⟨h.os, h.tape, h.output, h.size, fun k hk => h.block k (by omega) (by omega) (fun e => by have := hv k e.symm; omega)⟩
structure WS (w : World) (n₀ g : Nat) (v : Value) (xs : List Int) : Prop where
 box : Boxed w g 280 v
 low : n₀ ≤ g
 row : w.ownsRow n₀ 5 1 v xs.length (nums .u8 xs)
theorem WS.kept {w w' : World} {n₀ g : Nat} {v : Value} {xs : List Int} (h : WS w n₀ g v xs) (hg : w'.heap[g]? = w.heap[g]?) (hr : ∀ b, v.ownBlock = some b → w'.heap[b]? = w.heap[b]?) : WS w' n₀ g v xs := by
 refine ⟨hg.trans h.box, h.low, h.row.1, ?_⟩
 rcases h.row.2 with hn | ⟨b, cap, cur, rfl, hb, hc, rest⟩
 ·exact .inl hn
 ·exact .inr ⟨b, cap, cur, rfl, hb, (hr b rfl).trans hc, rest⟩
theorem WS.ne {w : World} {n₀ g : Nat} {v : Value} {xs : List Int} (h : WS w n₀ g v xs) : some g ≠ v.ownBlock := h.box.not_row (by decide) h.row
theorem WS.lt {w : World} {n₀ g : Nat} {v : Value} {xs : List Int} (h : WS w n₀ g v xs) : g < w.heap.size := h.box.lt
theorem WS.far {w w' : World} {n₀ g g' : Nat} {v v' : Value} {xs : List Int} (h : WS w n₀ g v xs) (hf : Fr g' v' w w') (hgg : g ≠ g') (h1 : some g ≠ v'.ownBlock) (h2 : ∀ b, v.ownBlock = some b → b ≠ g' ∧ some b ≠ v'.ownBlock) : WS w' n₀ g v xs :=
 h.kept (hf.block g h.lt hgg h1) fun b hb => hf.block b (h.row.lt b hb).2 (h2 b hb).1 (h2 b hb).2
theorem WS.below {w w' : World} {n₀ g : Nat} {v : Value} {xs : List Int} (h : WS w n₀ g v xs) (hb : Below w.heap.size w w') : WS w' n₀ g v xs :=
 h.kept (hb.block g h.lt) fun b e => hb.block b (h.row.lt b e).2
def bitioWidthF (n : Int) : Bool := decide (1 ≤ n) && decide (n ≤ 32)
theorem bitioWidth_calls (n : Int) (w : World) : Calls Tryz.prog 174 #[.int .i64 n] w fun e w' => e = .returned (.bool (bitioWidthF n)) ∧ Below w.heap.size w w' := by
 unfold bitioWidthF
 go_enter Tryz.func174, Tryz.ntmps174
 by_cases h1 : 1 ≤ n
 ·by_cases h2 : n ≤ 32
  ·have h1' : decide (1 ≤ n) = true := decide_eq_true h1
   have h2' : decide (n ≤ 32) = true := decide_eq_true h2
   go_wp2
   go_ret
   exact ⟨by simp [*], by repeat (first | (with_reducible first | exact Below.refl _ _ | apply below_drew1) | exact Below.refl _ _)⟩
  ·have h1' : decide (1 ≤ n) = true := decide_eq_true h1
   have h2' : decide (n ≤ 32) = false := decide_eq_false h2
   go_wp2
   go_ret
   exact ⟨by simp [*], by repeat (first | (with_reducible first | exact Below.refl _ _ | apply below_drew1) | exact Below.refl _ _)⟩
 ·have h1' : decide (1 ≤ n) = false := decide_eq_false h1
  go_wp2
  go_ret
  exact ⟨by simp [*], by repeat (first | (with_reducible first | exact Below.refl _ _ | apply below_drew1) | exact Below.refl _ _)⟩
theorem u8_info : (Tryz.prog.info? 5).map (fun i => (i.zero, i.size, i.bytes)) = some (some (.int .u8 0), 1, 1) := by kernel_rfl
def bitv (n : Int) (i : Nat) : Int := IntKind.u8.wrap (Go.bits .and .i64 (n / 2 ^ i) 1)
def putE (n wide : Int) : Int := if bitioWidthF wide = true then (if n < 0 then 5 else if n / 2 ^ wide.toNat = 0 then 0 else 5) else 1
def bitL (n : Int) (W r : Nat) : List Int := (List.range (W - r)).map fun j => bitv n (W - 1 - j)
def putL (n wide : Int) : List Int := if putE n wide = 0 then bitL n wide.toNat 0 else []
theorem Fr.of_below {g : Nat} {v : Value} {w w' : World} (h : Below w.heap.size w w') : Fr g v w w' := ⟨h.os, h.tape, h.output, h.size, fun k hk _ _ => h.block k hk⟩
theorem WS.appended {w w2 : World} {n₀ g gg cap : Nat} {v : Value} {xs : List Int} {x : Int} {o : Obj} (h : WS w n₀ g v xs)
  (hown : w2.ownsRow n₀ 5 1 (.slice (some ⟨gg, 0, none⟩) (xs.length + 1) cap) (xs.length + 1) (nums .u8 xs ++ [.int .u8 x]))
  (hgrow : (w.alloc o).drew.grownBy w2 v.ownBlock) (hat : v.ownBlock = some gg ∨ gg = w.heap.size + 1) :
  WS (w2.setCell ⟨g, 0, none⟩ (.slice (some ⟨gg, 0, none⟩) (xs.length + 1) cap)) n₀ g (.slice (some ⟨gg, 0, none⟩) (xs.length + 1) cap) (xs ++ [x]) ∧
   Fr g v w (w2.setCell ⟨g, 0, none⟩ (.slice (some ⟨gg, 0, none⟩) (xs.length + 1) cap)) ∧ Newer w v (.slice (some ⟨gg, 0, none⟩) (xs.length + 1) cap) := by
 have hgrow' : (w.alloc o).grownBy w2 v.ownBlock := ⟨hgrow.os, hgrow.tape, hgrow.output, hgrow.size, hgrow.block⟩
 have hb : Boxed w2 g 280 v := (h.box.alloc o).kept hgrow' h.ne
 have hs := grownBy_setCell' w2 g (.slice (some ⟨gg, 0, none⟩) (xs.length + 1) cap)
 refine ⟨⟨hb.set _, h.low, ?_⟩, ⟨hs.os.trans hgrow'.os, hs.tape.trans hgrow'.tape, hs.output.trans hgrow'.output, ?_, ?_⟩, ?_⟩
 ·have := hown.kept hs (.inr (hb.not_row (by decide) hown).symm)
  rw [List.length_append, show [x].length = 1 from rfl, show nums .u8 (xs ++ [x]) = nums .u8 xs ++ [.int .u8 x] from by simp [nums]]
  exact this
 ·have h1 := hgrow'.size
  have h2 := hs.size
  rw [World.size_alloc] at h1
  omega
 ·intro k hk hkg hkv
  have h1 : (w.alloc o).heap[k]? = w.heap[k]? := Below.heap_alloc w o k hk
  rw [hs.block k (by have := hgrow'.size; rw [World.size_alloc] at this; omega) (fun e => hkg (by injection e)), hgrow'.block k (by rw [World.size_alloc]; omega) hkv, h1]
 ·rcases hat with e | e
  ·exact .inl e.symm
  ·exact .inr fun b hb' => by
    have : b = gg := by simpa [Value.ownBlock] using hb'.symm
    omega
theorem bitL_succ (n : Int) (W r : Nat) (hr : r + 1 ≤ W) : bitL n W r = bitL n W (r + 1) ++ [bitv n r] := by
 unfold bitL
 rw [show W - r = (W - (r + 1)) + 1 by omega, List.range_succ, List.map_append]
 congr 1
 show [bitv n (W - 1 - (W - (r + 1)))] = _
 congr 2; omega
theorem bitioPut_calls (n₀ g : Nat) (v : Value) (xs : List Int) (n wide : Int) (w : World) (h : WS w n₀ g v xs) (hlen : xs.length ≤ 1000000) :
  Calls Tryz.prog 171 #[.pointer (some ⟨g, 0, none⟩), .int .i64 n, .int .i64 wide] w fun e w' => e = .returned (.int .i64 (putE n wide)) ∧ ∃ v', WS w' n₀ g v' (xs ++ putL n wide) ∧ Fr g v w w' ∧ Newer w v v' := by
 obtain ⟨i0, hi, hz0, hz1, hz2⟩ := info_parts u8_info
 cases hwd : bitioWidthF wide with
 | false =>
  have e1 : putE n wide = 1 := by unfold putE; rw [hwd]; rfl
  have e2 : putL n wide = [] := by unfold putL; rw [e1]; rfl
  rw [e1, e2, List.append_nil]
  go_enter Tryz.func171, Tryz.ntmps171
  go_wp2_with (go_at_call 174; refine (bitioWidth_calls wide _).mono ?_; rintro e w1 ⟨rfl, hb⟩; simp only [hwd])
  go_ret
  exact ⟨by simp, v, h.below hb, Fr.of_below hb, Newer.refl _ _⟩
 | true =>
  have hwide : 1 ≤ wide ∧ wide ≤ 32 := by simpa [bitioWidthF] using hwd
  by_cases hn : n < 0
  ·have e1 : putE n wide = 5 := by unfold putE; rw [hwd, if_pos rfl, if_pos hn]
   have e2 : putL n wide = [] := by unfold putL; rw [e1]; rfl
   have hn' : decide (n < 0) = true := decide_eq_true hn
   rw [e1, e2, List.append_nil]
   go_enter Tryz.func171, Tryz.ntmps171
   go_wp2_with (go_at_call 174; refine (bitioWidth_calls wide _).mono ?_; rintro e w1 ⟨rfl, hb⟩; simp only [hwd])
   go_ret
   exact ⟨by simp, v, h.below hb, Fr.of_below hb, Newer.refl _ _⟩
  ·have hn' : decide (n < 0) = false := decide_eq_false hn
   obtain ⟨W, rfl⟩ := Int.eq_ofNat_of_zero_le (show 0 ≤ wide by omega)
   by_cases hs : n / 2 ^ W = 0
   ·have e1 : putE n (W : Int) = 0 := by unfold putE; rw [hwd, if_pos rfl, if_neg hn, Int.toNat_natCast, if_pos hs]
    have hs' : (n / 2 ^ W != 0) = false := by simp [hs]
    have e2 : putL n (W : Int) = bitL n W 0 := by unfold putL; rw [e1]; rfl
    rw [e1, e2]
    go_enter Tryz.func171, Tryz.ntmps171
    go_wp2_with (go_at_call 174; refine (bitioWidth_calls (W : Int) _).mono ?_; rintro e w1 ⟨rfl, hb⟩; simp only [hwd])
    have hW := hwide
    go_loopw [7] (fun v7 wr => ∃ r : Nat, r ≤ W ∧ v7 = .int .i64 ((r : Int) - 1) ∧ ∃ v', Aside0 (WS wr n₀ g v' (xs ++ bitL n W r)) ∧ Aside0 (Fr g v w wr) ∧ Aside0 (Newer w v v')) (fun v7 _ => (intOf v7 + 1).toNat)
    case atStart =>
     refine ⟨W, Nat.le_refl _, by simp, v, ⟨?_⟩, ⟨Fr.of_below hb⟩, ⟨Newer.refl _ _⟩⟩
     unfold bitL; rw [Nat.sub_self, List.range_zero, List.map_nil, List.append_nil]; exact h.below hb
    case round =>
     obtain ⟨r, hr, rfl, v1, HS, HF, HN⟩ := hrel
     cases r with
     | zero =>
      go_wp2
      go_ret
      exact ⟨by simp, v1, HS.out, HF.out, HN.out⟩
     | succ r =>
      have e8 : (((r + 1 : Nat) : Int) - 1) = (r : Int) := by omega
      rw [e8]
      have hc := HS.out.box.cell
      have hf := HS.out.box.frozen
      go_wp2
      have hne := HS.out.ne
      have hlt := HS.out.lt
      have hl1 : (xs ++ bitL n W (r + 1)).length ≤ 1000100 := by
       rw [List.length_append]; unfold bitL; rw [List.length_map, List.length_range]; omega
      go_region_law
       (refine step_append_lies _ (by rfl) _ _ _ (by rfl) n₀ 5 i0 _ 1 1 Tryz.underlying37 hi hz0 hz1 hz2 rfl (by omega) v1 _ (nums .u8 (xs ++ bitL n W (r + 1))) (by rfl) (((HS.out.row).alloc _).drew)
          ⟨wr.heap.size, 0, none⟩ 1 1 [.int .u8 (bitv n r)] (by rfl) (by rfl) (World.news_of_block (cs := #[.int .u8 (bitv n r)]) (t := 5) (fr := (0, 0)) (heap_alloc_new wr _)) (by simp [Value.oneCell'])
          (by omega) (by unfold maxLen; omega) (by omega) (by have := HS.out.low; simp; omega) (wr.heap.size + 1) (by simp) ?_; intro gg cap w2 hown1 hgrow hat hlt2; have hc2 : w2.cell? ⟨g, 0, none⟩ = some v1 := (hgrow.cell_far _ (by simp; omega) hne).trans (HS.out.box.alloc _).cell; have hf2 : w2.frozen? ⟨g, 0, none⟩ = false := (hgrow.frozen_far _ (by simp; omega) hne).trans (HS.out.box.alloc _).frozen)
      all_goals
       go_wp2
       obtain ⟨hS2, hF2, hN2⟩ := HS.out.appended hown1 hgrow hat
       rw [List.length_append] at hS2 hF2 hN2
       go_roundw
       case rel =>
        refine ⟨r, by omega, by simp, _, ⟨?_⟩, ⟨HF.out.trans HN.out hF2⟩, ⟨HN.out.trans HF.out.size hN2⟩⟩
        rw [bitL_succ n W r hr, ← List.append_assoc]
        exact hS2
       case measure => simp [intOf]
   ·have e1 : putE n (W : Int) = 5 := by unfold putE; rw [hwd, if_pos rfl, if_neg hn, Int.toNat_natCast, if_neg hs]
    have hs' : (n / 2 ^ W != 0) = true := by simp [hs]
    have e2 : putL n (W : Int) = [] := by unfold putL; rw [e1]; rfl
    rw [e1, e2, List.append_nil]
    go_enter Tryz.func171, Tryz.ntmps171
    go_wp2_with (go_at_call 174; refine (bitioWidth_calls (W : Int) _).mono ?_; rintro e w1 ⟨rfl, hb⟩; simp only [hwd])
    go_ret
    exact ⟨by simp, v, h.below hb, Fr.of_below hb, Newer.refl _ _⟩
theorem WS.R {w : World} {n₀ g : Nat} {v : Value} {xs : List Int} (h : WS w n₀ g v xs) : Kd.R (Kd.int .u8) 5 w n₀ (fun _ => True) v xs := ⟨fun _ _ => trivial, _, h.row, reps_u8 _ _ _ xs⟩
theorem bitioBytes_calls (n₀ g : Nat) (v : Value) (xs : List Int) (w : World) (h : WS w n₀ g v xs) (k : Nat) (bs : List Int) (r : Int) (hb : bits_Bytes.f k xs = some (bs, r)) :
  Calls Tryz.prog 173 #[.pointer (some ⟨g, 0, none⟩)] w fun e w' => ∃ u, e = .returned u ∧ Kd.R (Kd.int .u8) 5 w' w.heap.size (fun _ => True) u bs ∧ Below w.heap.size w w' := by
 obtain ⟨A, c, rfl⟩ := Kd.R_slice h.R
 have hR := Kd.R_reads' h.R
 have hc := h.box.cell
 go_enter Tryz.func173, Tryz.ntmps173
 go_wp2_with (go_at_call 141; refine (bits_Bytes.calls k _ _ xs bs r _ hR.2.2 hR.2.1 hb).mono ?_; rintro e w1 ⟨u, rfl, hu, hB⟩)
 go_ret
 exact ⟨u, by simp, hu, hB⟩
abbrev Fg (g : Nat) (w w' : World) : Prop := Fr g (.slice none 0 0) w w'
theorem Fg.trans {g : Nat} {w w1 w2 : World} (h : Fg g w w1) (k : Fg g w1 w2) : Fg g w w2 := Fr.trans h (Newer.refl _ _) k
theorem Fg.at {g : Nat} {w w' : World} (h : Fg g w w') (k : Nat) (hk : k < w.heap.size) (hg : k ≠ g) : w'.heap[k]? = w.heap[k]? := h.block k hk hg (by simp [Value.ownBlock])
structure RS (w : World) (lo g : Nat) (v : Value) (xs : List Int) : Prop where
 box : Boxed w g 223 v
 row : Kd.V (Kd.int .u8) 5 w 0 (fun k => lo ≤ k ∧ k < g) v xs
theorem RS.kept {w w' : World} {lo g : Nat} {v : Value} {xs : List Int} (h : RS w lo g v xs) (hk : ∀ k, lo ≤ k → k ≤ g → w'.heap[k]? = w.heap[k]?) (hl : lo ≤ g) : RS w' lo g v xs :=
 ⟨(hk g hl (Nat.le_refl _)).trans h.box, Kd.V_step h.row (fun k ok _ => hk k ok.1 (Nat.le_of_lt ok.2))⟩
theorem RS.lt {w : World} {lo g : Nat} {v : Value} {xs : List Int} (h : RS w lo g v xs) : g < w.heap.size := h.box.lt
theorem RS.below {w w' : World} {lo g : Nat} {v : Value} {xs : List Int} (h : RS w lo g v xs) (hb : Below w.heap.size w w') (hl : lo ≤ g) : RS w' lo g v xs :=
 h.kept (fun k _ hk => hb.block k (by have := h.lt; omega)) hl
theorem RS.set {w : World} {lo g : Nat} {v v' : Value} {xs xs' : List Int} (h : RS w lo g v xs) (hv : Kd.V (Kd.int .u8) 5 w 0 (fun k => lo ≤ k ∧ k < g) v' xs') : RS (w.setCell ⟨g, 0, none⟩ v') lo g v' xs' :=
 ⟨h.box.set v', Kd.V_far hv (fun k hk => by show k ≠ g; omega) v'⟩
theorem Fg.set {w : World} {g : Nat} (v' : Value) : Fg g w (w.setCell ⟨g, 0, none⟩ v') := by
 have hs := grownBy_setCell' w g v'
 exact ⟨hs.os, hs.tape, hs.output, hs.size, fun k hk hg _ => hs.block k hk (fun e => hg (by injection e))⟩
theorem Fg.of_below {g : Nat} {w w' : World} (h : Below w.heap.size w w') : Fg g w w' := Fr.of_below h
theorem bitioOf_calls (A : Option Addr) (c : Nat) (l : List Int) (w : World) (hr : Kd.C (Kd.int .u8) w A l.length l) (hc : l.length ≤ c) (k : Nat) (bs : List Int) (hb : bits_Of.f k l = some bs) :
  Calls Tryz.prog 70 #[.slice A l.length c] w fun e w' => ∃ g v, e = .returned (.pointer (some ⟨g, 0, none⟩)) ∧ w.heap.size ≤ g ∧ RS w' w.heap.size g v bs ∧ Below w.heap.size w w' := by
 go_enter Tryz.func70, Tryz.ntmps70
 go_wp2_with (go_at_call 57; refine (bits_Of.calls k _ _ l bs _ hr hc hb).mono ?_; rintro e w1 ⟨u, rfl, hu, hB⟩; obtain ⟨A1, c1, rfl⟩ := Kd.R_slice hu)
 go_ret
 have hs : w.heap.size ≤ w1.heap.size := hB.size
 refine ⟨w1.heap.size, _, by simp, hs, ⟨Boxed.new w1 223 _, ?_⟩, below_alloc hB _⟩
 refine Kd.V_alloc ?_ _
 have hv : Kd.V (Kd.int .u8) 5 w1 0 (fun k => True ∧ w.heap.size ≤ k ∧ k < w1.heap.size ∧ ∃ q, q ∈ 5 :: (Kd.int .u8).E ∧ ∃ cells, w1.heap[k]? = some (.cells cells q (0, 0))) _ bs := Kd.R_V (Kd.R_bound hu)
 exact Kd.V_mono hv (fun k hk => ⟨hk.2.1, hk.2.2.1⟩)
def tkE (xs : List Int) (wide : Int) : Int := if bitioWidthF wide = true then (if (xs.length : Int) < wide then 2 else 0) else 1
def tkS (n b : Int) : Int := Go.bits .or .i64 (wrap64 (n * 2)) (wrap64 b)
def tkN (xs : List Int) (wide : Int) : Int := if tkE xs wide = 0 then (xs.take wide.toNat).foldl tkS 0 else 0
def tkL (xs : List Int) (wide : Int) : List Int := if tkE xs wide = 0 then xs.drop wide.toNat else xs
theorem bitioTake_calls (lo g : Nat) (v : Value) (xs : List Int) (wide : Int) (w : World) (h : RS w lo g v xs) (hlo : lo ≤ g) :
  Calls Tryz.prog 123 #[.pointer (some ⟨g, 0, none⟩), .int .i64 wide] w fun e w' => e = .returned (.tuple #[.int .i64 (tkN xs wide), .int .i64 (tkE xs wide)]) ∧ (∃ v', RS w' lo g v' (tkL xs wide)) ∧ Fg g w w' := by
 obtain ⟨i0, hi, hz0, hz1, hz2⟩ := info_parts u8_info
 obtain ⟨A, c, rfl⟩ := Kd.V_slice h.row
 have hC := Kd.V_reads' h.row
 cases hwd : bitioWidthF wide with
 | false =>
  have e1 : tkE xs wide = 1 := by unfold tkE; rw [hwd]; rfl
  have e2 : tkN xs wide = 0 := by unfold tkN; rw [e1]; rfl
  have e3 : tkL xs wide = xs := by unfold tkL; rw [e1]; rfl
  rw [e1, e2, e3]
  go_enter Tryz.func123, Tryz.ntmps123
  go_wp2_with (go_at_call 174; refine (bitioWidth_calls wide _).mono ?_; rintro e w1 ⟨rfl, hb⟩; simp only [hwd])
  go_ret2
  exact ⟨by simp, ⟨_, h.below hb hlo⟩, Fg.of_below hb⟩
 | true =>
  have hwide : 1 ≤ wide ∧ wide ≤ 32 := by simpa [bitioWidthF] using hwd
  have hc := h.box.cell
  have hf := h.box.frozen
  by_cases hs : (xs.length : Int) < wide
  ·have e1 : tkE xs wide = 2 := by unfold tkE; rw [hwd, if_pos rfl, if_pos hs]
   have e2 : tkN xs wide = 0 := by unfold tkN; rw [e1]; rfl
   have e3 : tkL xs wide = xs := by unfold tkL; rw [e1]; rfl
   have hs' : decide ((xs.length : Int) < wide) = true := decide_eq_true hs
   rw [e1, e2, e3]
   go_enter Tryz.func123, Tryz.ntmps123
   go_wp2_with (go_at_call 174; refine (bitioWidth_calls wide _).mono ?_; rintro e w1 ⟨rfl, hb⟩; simp only [hwd]; have hc1 := (h.below hb hlo).box.cell)
   go_ret2
   exact ⟨by simp, ⟨_, h.below hb hlo⟩, Fg.of_below hb⟩
  ·have e1 : tkE xs wide = 0 := by unfold tkE; rw [hwd, if_pos rfl, if_neg hs]
   have hs' : decide ((xs.length : Int) < wide) = false := decide_eq_false hs
   obtain ⟨W, rfl⟩ := Int.eq_ofNat_of_zero_le (show 0 ≤ wide by omega)
   have e2 : tkN xs (W : Int) = (xs.take W).foldl tkS 0 := by unfold tkN; rw [e1]; rfl
   have e3 : tkL xs (W : Int) = xs.drop W := by unfold tkL; rw [e1]; rfl
   rw [e1, e2, e3]
   obtain ⟨hcut, hA, hCC⟩ := print_take_of (P := Tryz.prog) (Value.int .u8) 0 37 5 .i64 Tryz.underlying37 hi hz1 A c xs (W : Int) (by omega) (by omega) hC.2.1
   obtain ⟨A', hcut2, hA2, hC2⟩ := print_drop_of (P := Tryz.prog) (Value.int .u8) 0 37 5 .i64 Tryz.underlying37 hi hz1 A c xs (W : Int) (by omega) (by omega) hC.2.1
   go_enter Tryz.func123, Tryz.ntmps123
   go_wp2_with (go_at_call 174; refine (bitioWidth_calls (W : Int) _).mono ?_; rintro e w1 ⟨rfl, hb⟩; simp only [hwd]; have h1 := h.below hb hlo; have hc1 := h1.box.cell; have hf1 := h1.box.frozen)
   have hmin : min W xs.length = W := by omega
   rw [hmin]
   have hD := Kd.C_below hC.2.2 hb
   go_loopw [6, 32] (fun v6 v32 wr => ∃ r : Nat, r ≤ W ∧ v32 = .int .i64 (r : Int) ∧ v6 = .int .i64 ((xs.take r).foldl tkS 0) ∧ wr = w1) (fun v6 v32 _ => W - (intOf v32).toNat)
   case atStart => exact ⟨0, by omega, by simp, by simp, rfl⟩
   case round =>
    obtain ⟨r, hr, rfl, rfl, rfl⟩ := hrel
    by_cases hlt : r < W
    ·obtain ⟨ad, rfl, hcell⟩ := ReadsOf.at_ (Kd.reads_of_C (d := (0 : Int)) hD) (r : Int) (by omega) (by omega)
     rw [Int.toNat_natCast] at hcell
     have hlt' : decide ((r : Int) < (W : Int)) = true := decide_eq_true (by omega)
     go_wp2
     have hx : xs.take (r + 1) = xs.take r ++ [rdOf 0 xs (r : Int)] := by
      have hl : r < xs.length := by omega
      rw [List.take_succ_eq_append_getElem hl]
      congr 2
      simp [rdOf, hl]
     go_roundw
     case rel => exact ⟨r + 1, by omega, by simp, by rw [hx, List.foldl_append]; rfl, trivial⟩
     case measure => simp [intOf]; omega
    ·obtain rfl : r = W := by omega
     have hlt' : decide ((r : Int) < (r : Int)) = false := decide_eq_false (by omega)
     go_wp2
     go_ret2
     have hv : Kd.V (Kd.int .u8) 5 wr 0 (fun k => lo ≤ k ∧ k < g) (.slice A' (xs.drop r).length (c - r)) (xs.drop r) :=
      Kd.V_mk hC2 (Kd.F_imp (Kd.V_at h1.row).2.2 (fun w' hw => Kd.C_of_reads (hA2 w' (Kd.reads_of_C hw))))
     rw [List.length_drop] at hv
     exact ⟨by simp, ⟨_, h1.set hv⟩, Fg.trans (Fg.of_below hb) (Fg.set _)⟩
theorem WS.new (w : World) : WS (w.alloc (.cells #[.slice none 0 0] 280)) w.heap.size w.heap.size (.slice none 0 0) [] :=
 ⟨Boxed.new w 280 _, Nat.le_refl _, rfl, .inl ⟨rfl, rfl⟩⟩
theorem WS.own {w : World} {n₀ g : Nat} {v : Value} {xs : List Int} (h : WS w n₀ g v xs) : ∀ b, v.ownBlock = some b → n₀ ≤ b := fun b hb => (h.row.lt b hb).1
end
end Go.Proofs.YtajiggmeappfaaaGreatDoor.P
namespace Go.Proofs.YtajiggmeappfaaaGreatDoor.P
open Go.RowKit Go.Proofs.YtajiggmeappfaaaGreatDoorW.PrintWords Go.Proofs.YtajiggmeappfaaaGreatDoorW.PrintLast Go.Proofs.YtajiggmeappfaaaGreatDoorW.PrintMore
open Go.RowKit Go.Shelf Go.Proofs.YtajiggmeappfaaaGreatDoorW.PrintWords Go.Proofs.YtajiggmeappfaaaGreatDoorW.PrintLast Go.Proofs.YtajiggmeappfaaaGreatDoorW.PrintMore
set_option maxRecDepth 100000
set_option maxHeartbeats 8000000
set_option linter.unusedVariables false
set_option linter.unusedSimpArgs false
-- YtajiggmeappfaaaGreatDoorPWDel
abbrev CapN (w : World) (B : Nat) (a : Int) : Prop := w.heap[B]? = some (.cells #[.int .u16 a] 31 (0, 0))
theorem CapN.below {w w' : World} {B : Nat} {a : Int} (h : CapN w B a) (hb : Below w.heap.size w w') : CapN w' B a := (hb.block B (blk_lt h)).trans h
theorem same_calls {w : World} {B : Nat} {a : Int} (h : CapN w B a) (x : Int) :
  Calls Tryz.prog 117 #[.int .u16 x, .pointer (some ⟨B, 0, none⟩)] w fun e w' => e = .returned (.bool (x == a)) ∧ Below w.heap.size w w' := by
 have hc0 : w.cell? ⟨B, 0, none⟩ = some (.int .u16 a) := blk_cell h 0
 go_enter Tryz.func117, Tryz.ntmps117
 go_wp2_with fail
 go_ret
 exact ⟨by simp, Below.refl _ _⟩
def idxN (a : Int) : List Int → Int → Int
 | [], _ => -1
 | x :: L, i => if x == a then i else idxN a L (i + 1)
def keepN (a : Int) (L : List Int) : List Int := L.filter fun x => !(x == a)
theorem idxN_cases (a : Int) : ∀ (L : List Int) (i : Int), (idxN a L i = -1 ∧ keepN a L = L) ∨ ∃ j, j < L.length ∧ idxN a L i = i + (j : Int) ∧ keepN a (L.take j) = L.take j ∧ ∀ x, L[j]? = some x → (x == a) = true := by
 intro L
 induction L with
 | nil => intro i; exact .inl ⟨rfl, rfl⟩
 | cons f L ih =>
  intro i
  unfold idxN
  cases hf : (f == a) with
  | true => exact .inr ⟨0, by simp, by simp, by simp [keepN], fun f' h => by simp at h; rw [← h]; exact hf⟩
  | false =>
   rcases ih (i + 1) with ⟨h1, h2⟩ | ⟨j, h1, h2, h3, h4⟩
   ·refine .inl ⟨by simp [h1], ?_⟩
    unfold keepN at h2 ⊢
    rw [List.filter_cons, hf, h2]; simp
   ·refine .inr ⟨j + 1, by simp; omega, by simp [h2]; omega, ?_, fun f' h => h4 f' (by simpa using h)⟩
    unfold keepN at h3 ⊢
    rw [List.take_succ_cons, List.filter_cons, hf, h3]; simp
theorem nidx_calls {w : World} {B : Nat} {a : Int} (h : CapN w B a) {A : Option Addr} {c : Nat} {L : List Int} (hr : Kd.C (Kd.int .u16) w A L.length L) (hn5 : L.length ≤ 5000) :
  Calls Tryz.prog 158 #[.slice A L.length c, .func (.func 117) #[] #[.pointer (some ⟨B, 0, none⟩)]] w fun e w' => e = .returned (.int .i64 (idxN a L 0)) ∧ Below w.heap.size w w' := by
 have HH := ax h
 have HR := ax hr
 obtain ⟨n, hn⟩ : ∃ n, n = L.length := ⟨_, rfl⟩
 have HNL := ax hn
 have HB := ax (Below.refl w.heap.size w)
 rw [← hn] at hn5 ⊢
 clear h hr hn
 go_enter Tryz.func158, Tryz.ntmps158
 go_wp2_with fail
 go_loopw [8] (fun v8 wr => ∃ i : Nat, v8 = .int .i64 (i : Int) ∧ i ≤ n ∧ Aside0 (Below w.heap.size w wr) ∧ Aside0 (idxN a L 0 = idxN a (L.drop i) (i : Int))) (fun v8 _ => n - (intOf v8).toNat)
 case atStart => exact ⟨0, by simp, by omega, HB, ⟨rfl⟩⟩
 case round =>
  clear HB
  obtain ⟨i, rfl, hi, HB, HI⟩ := hrel
  by_cases hlt : i < n
  ·have hlb : decide ((i : Int) < (n : Int)) = true := decide_eq_true (by omega)
   have hi0 : (0 : Int) ≤ (i : Int) := by omega
   have hin : (i : Int) < (n : Int) := by omega
   obtain ⟨ad, rfl, hcx0⟩ := ReadsOf.at_ (Kd.reads_of_C (enc := Value.int .u16) (d := (0 : Int)) (h1 := fun _ => rfl) (Kd.C_below HR.out HB.out)) (i : Int) hi0 (by rw [← HNL.out]; exact hin)
   rw [Int.toNat_natCast] at hcx0
   have hil : i < L.length := by rw [← HNL.out]; exact hlt
   obtain ⟨x, hx⟩ : ∃ x, x = L[i] := ⟨_, rfl⟩
   have hcx : wr.cell? (ad.add i) = some (.int .u16 x) := by
    have e : rdOf 0 L (i : Int) = x := by rw [hx]; simp [rdOf, hil]
    rw [e] at hcx0; exact hcx0
   have HSTEP := ax (show idxN a (L.drop i) (i : Int) = if x == a then (i : Int) else idxN a (L.drop (i + 1)) ((i : Int) + 1) by rw [List.drop_eq_getElem_cons hil, ← hx]; rfl)
   have HO := ax (same_calls (CapN.below HH.out HB.out) x)
   obtain ⟨z, hz⟩ : ∃ z, z = (x == a) := ⟨_, rfl⟩
   rw [← hz] at HSTEP HO
   clear hcx0 hx hz hil
   cases z with
   | true =>
    go_wp2_with (go_at_call 117; refine HO.out.mono ?_; rintro e w1 ⟨rfl, hb⟩; have HB1 := ax (below_step HB.out hb); clear hb)
    go_ret
    exact ⟨by rw [HI.out, HSTEP.out]; simp, HB1.out⟩
   | false =>
    go_wp2_with (go_at_call 117; refine HO.out.mono ?_; rintro e w1 ⟨rfl, hb⟩; have HB1 := ax (below_step HB.out hb); clear hb)
    go_roundw
    case rel => exact ⟨i + 1, by simp, by omega, HB1, ⟨by rw [HI.out, HSTEP.out]; simp⟩⟩
    case measure => simp [intOf]; omega
  ·have hlb : decide ((i : Int) < (n : Int)) = false := decide_eq_false (by omega)
   go_wp2
   go_ret
   exact ⟨by rw [HI.out, List.drop_of_length_le (by rw [← HNL.out]; omega)]; rfl, HB.out⟩
theorem R_tail {α : Type} {d : Kd α} {e base n cap gr : Nat} {ok : Nat → Prop} {w : World} {xs : List α} (h : Kd.R d e w base ok (.slice (some ⟨gr, 0, none⟩) n cap) xs) {o : Nat} {vs : List Value} (ho : n * d.sz ≤ o) (hl : o + vs.length ≤ cap * d.sz) :
  Kd.R d e (w.setCells gr o vs) base ok (.slice (some ⟨gr, 0, none⟩) n cap) xs ∧ w.grownBy (w.setCells gr o vs) (some gr) := by
 have hn := (Kd.R_reads' h).1
 obtain ⟨h0, inner, ⟨hlen, ho2⟩, hr⟩ := h
 rcases ho2 with ⟨hv, _⟩ | ⟨g', cap', cur, hv, hb, hh, hnc, hcm, hcs, ht⟩
 ·cases hv
 injection hv with ha _ hc
 injection ha with ha
 injection ha with hg
 subst hg; subst hc
 obtain ⟨cur', h3, h4, h5⟩ := setCells_row vs o w cur hh (by omega)
 obtain ⟨s1, s2, s3, s4⟩ := setCells_same gr vs o w
 have hfar : ∀ k, k ≠ gr → (w.setCells gr o vs).heap[k]? = w.heap[k]? := fun k hk => setCells_far vs _ k hk
 have hgr : w.grownBy (w.setCells gr o vs) (some gr) := ⟨s1, s2, s3, by omega, fun k _ hk => hfar k (fun e => hk (by rw [e]))⟩
 refine ⟨⟨h0, inner, ⟨hlen, .inr ⟨gr, cap, cur', by rw [hn], hb, h3, by omega, hcm, by omega, ?_⟩⟩, hr.imp_ (fun x c hm => d.M_move (fun k hk => hfar k (fun e => hk.2 (by rw [e]; simp [Value.ownBlock]))) hm)⟩, hgr⟩
 rw [h5]
 have hcl : cur.toList.length = cap * d.sz := by rw [Array.length_toList]; exact hcs
 rw [List.append_assoc, List.take_append_of_le_length (by rw [List.length_take, hcl]; rw [← hn]; omega), List.take_take, Nat.min_eq_left (by rw [← hn]; omega)]
 exact ht
theorem R_block {α : Type} {d : Kd α} {e base n cap gr : Nat} {ok : Nat → Prop} {w : World} {xs : List α} (h : Kd.R d e w base ok (.slice (some ⟨gr, 0, none⟩) n cap) xs) :
  ∃ cur, w.heap[gr]? = some (.cells cur e (0, 0)) ∧ cur.size = cap * d.sz := by
 obtain ⟨h0, inner, ⟨hlen, ho2⟩, hr⟩ := h
 rcases ho2 with ⟨hv, _⟩ | ⟨g', cap', cur, hv, hb, hh, hnc, hcm, hcs, ht⟩
 ·cases hv
 injection hv with ha _ hc
 injection ha with ha
 injection ha with hg
 subst hg; subst hc
 exact ⟨cur, hh, hcs⟩
theorem clear_n (w : World) (gr o m c : Nat) (cur : Array Value) (hb : w.heap[gr]? = some (.cells cur 31 (0, 0))) (hl : o + m ≤ cur.size) (hm : 0 < m) :
  ∃ vs : List Value, vs.length = m ∧ (Builtin.clear_ #[97] 0 #[.slice (some ⟨gr, o, none⟩) m c]).run Tryz.prog w = .ok (.tuple #[]) (w.setCells gr o vs) := by
 have hz : (zeroValue 31).run Tryz.prog w = .ok (.int .u16 0) w := by kernel_rfl
 have hlen : (Builtin.zeroCells (Value.int .u16 0).cells m).toList.length = m := by simp [Builtin.zeroCells, Value.cells]
 have hone : ∀ u ∈ (Builtin.zeroCells (Value.int .u16 0).cells m).toList, u.oneCell' = true := by
  intro u hu
  simp only [Builtin.zeroCells, Array.toList_map, List.mem_map] at hu
  obtain ⟨j, _, rfl⟩ := hu
  have : j % (Value.int .u16 0).cells.size < 1 := Nat.mod_lt _ (by decide)
  generalize j % (Value.int .u16 0).cells.size = q at this
  match q, this with
  | 0, _ => rfl
 refine ⟨_, hlen, ?_⟩
 have hst := run_storeCells_cells (P := Tryz.prog) gr o (Builtin.zeroCells (Value.int .u16 0).cells m).toList 0 w
  (fun j hj => by rw [cell_of_row w gr _ cur 31 (0, 0) hb]; simp; omega) (fun j _ => blk_frozen hb _) hone
 simp only [Nat.add_zero] at hst
 obtain ⟨m', rfl⟩ : ∃ m', m = m' + 1 := ⟨m - 1, by omega⟩
 simp [Builtin.clear_, run_underlying Tryz.underlying97, hz, hst]
theorem grownBy_trans {a b c : World} {r : Option Nat} (h : a.grownBy b r) (k : b.grownBy c r) : a.grownBy c r :=
 ⟨k.os.trans h.os, k.tape.trans h.tape, k.output.trans h.output, Nat.le_trans h.size k.size, fun i hi hr => (k.block i (Nat.lt_of_lt_of_le hi h.size) hr).trans (h.block i hi hr)⟩
theorem grownBy_below {a b : World} {r : Option Nat} (h : Below a.heap.size a b) : a.grownBy b r := ⟨h.os, h.tape, h.output, h.size, fun i hi _ => h.block i hi⟩
theorem CapN.grown {w w' : World} {B gr : Nat} {a : Int} (h : CapN w B a) (hg : w.grownBy w' (some gr)) (h1 : B ≠ gr) : CapN w' B a := (hg.block B (blk_lt h) (fun e => h1 (by injection e))).trans h
structure SiftN (a : Int) (L M : List Int) (n i j : Nat) : Prop where
 lt : i < j
 le : j ≤ n
 len : M.length = n
 pre : M.take i = keepN a (L.take j)
 suf : M.drop j = L.drop j
theorem SiftN.get {a : Int} {L M : List Int} {n i j : Nat} (h : SiftN a L M n i j) (hn : n = L.length) (hj : j < n) : M[j]? = L[j]? := by
 have := congrArg (fun l => l[0]?) h.suf
 simpa [List.getElem?_drop] using this
theorem SiftN.skip {a : Int} {L M : List Int} {n i j : Nat} (h : SiftN a L M n i j) (hn : n = L.length) (hj : j < n) {f : Int} (hf : L[j]? = some f) (ho : (f == a) = true) : SiftN a L M n i (j + 1) := by
 have hl := h.lt
 refine ⟨by omega, by omega, h.len, ?_, ?_⟩
 ·rw [h.pre]
  unfold keepN
  have hjl : j < L.length := by omega
  rw [List.take_succ_eq_append_getElem hjl, List.filter_append]
  rw [List.getElem?_eq_getElem hjl] at hf
  injection hf with hf
  simp [hf, ho]
 ·have := congrArg (List.drop 1) h.suf
  simpa [List.drop_drop] using this
theorem SiftN.put {a : Int} {L M : List Int} {n i j : Nat} (h : SiftN a L M n i j) (hn : n = L.length) (hj : j < n) {f : Int} (hf : L[j]? = some f) (ho : (f == a) = false) : SiftN a L (M.set i f) n (i + 1) (j + 1) := by
 have hl := h.lt
 have hlen := h.len
 refine ⟨by omega, by omega, by rw [List.length_set]; exact h.len, ?_, ?_⟩
 ·have hjl : j < L.length := by omega
  unfold keepN
  rw [List.take_succ_eq_append_getElem hjl, List.filter_append]
  rw [List.getElem?_eq_getElem hjl] at hf
  injection hf with hf
  have hp := h.pre
  unfold keepN at hp
  rw [← hp, List.take_succ_eq_append_getElem (by rw [List.length_set]; omega), List.getElem_set_self]
  simp [hf, ho, List.take_set_of_le]
 ·rw [List.drop_set_of_lt (by omega)]
  have := congrArg (List.drop 1) h.suf
  simpa [List.drop_drop] using this
theorem u16_info : (Tryz.prog.info? 31).map (fun i => (i.zero, i.size, i.bytes)) = some (some (.int .u16 0), 1, 2) := by kernel_rfl
theorem R_put1 {w : World} {base gr n cap : Nat} {ok : Nat → Prop} {L : List Int} (h : Kd.R (Kd.int .u16) 31 w base ok (.slice (some ⟨gr, 0, none⟩) n cap) L) (i : Nat) (hi : i < n) (x : Int) :
  (Kd.R (Kd.int .u16) 31 (w.setCell ⟨gr, i, none⟩ (.int .u16 x)) base ok (.slice (some ⟨gr, 0, none⟩) n cap) (L.set i x) ∧ w.grownBy (w.setCell ⟨gr, i, none⟩ (.int .u16 x)) (some gr)) ∧ w.cell? ⟨gr, i, none⟩ = some (.int .u16 (L.getD i 0)) ∧ w.frozen? ⟨gr, i, none⟩ = false := by
 obtain ⟨c, hc, hm, hcc, hf⟩ := Kd.R_elem h 0 (i : Int) (by omega) (by omega)
 have hs : (Kd.int .u16).sz = 1 := rfl
 have hc1 : c.length = 1 := hc
 have r := Kd.reads_of_C (enc := Value.int .u16) (d := (0 : Int)) (h1 := fun _ => rfl) (Kd.R_reads' h).2.2
 have hnl := (Kd.R_reads' h).1
 obtain ⟨d, hd, hr⟩ := r.2.2 (by omega)
 cases hd
 have hcell := hr i (by omega)
 rw [add_plain] at hcell
 have h2 := Kd.R_seg h (i : Int) (by omega) (by omega) (c := c) (seg := [.int .u16 x]) (j := 0) (x' := x) (okp := fun k => ok k ∧ k ≠ gr) hc hcc (Nat.le_refl 1) (by
  rw [List.take_zero, List.nil_append, List.drop_of_length_le (by rw [hc1]; exact Nat.le_refl _), List.append_nil]; rfl) (fun _ hk => hk)
 rw [Int.toNat_natCast, hs, Nat.mul_one, Nat.add_zero] at h2
 have hf0 := hf 0
 rw [Int.toNat_natCast, hs, Nat.mul_one, Nat.add_zero] at hf0
 exact ⟨h2, hcell, hf0⟩
theorem ndel_calls {w : World} {base B gr n cap : Nat} {a : Int} {ok : Nat → Prop} {L : List Int} (h : CapN w B a) (hr : Kd.R (Kd.int .u16) 31 w base ok (.slice (some ⟨gr, 0, none⟩) n cap) L) (hn5 : n ≤ 5000) (hB : B ≠ gr) :
  Calls Tryz.prog 116 #[.slice (some ⟨gr, 0, none⟩) n cap, .func (.func 117) #[] #[.pointer (some ⟨B, 0, none⟩)]] w fun e w' =>
   ∃ m, e = .returned (.slice (some ⟨gr, 0, none⟩) m cap) ∧ Kd.R (Kd.int .u16) 31 w' base ok (.slice (some ⟨gr, 0, none⟩) m cap) (keepN a L) ∧ w.grownBy w' (some gr) := by
 have hnl : n = L.length := (Kd.R_reads' hr).1
 have hidx := nidx_calls h (c := cap) (Kd.R_reads' hr).2.2 (by rw [← hnl]; exact hn5)
 rw [← hnl] at hidx
 have HI := ax hidx
 have HH := ax h
 have HR := ax hr
 have HNL := ax hnl
 have HNE := ax hB
 have hcap : n ≤ cap := (Kd.R_reads' hr).2.1
 rcases idxN_cases a L 0 with ⟨h1, h2⟩ | ⟨j0, h1, h2, h3, h4⟩
 ·rw [h1] at HI
  have H2 := ax h2
  clear h hr hnl h1 h2 hidx hB
  go_enter Tryz.func116, Tryz.ntmps116
  go_wp2_with (go_at_call 158; refine HI.out.mono ?_; rintro e w1 ⟨rfl, hb⟩; have HB1 := ax hb; clear hb)
  go_ret
  exact ⟨n, by simp, by rw [H2.out]; exact Kd.R_below HR.out HB1.out, grownBy_below HB1.out⟩
 ·rw [h2, Int.zero_add] at HI
  have hj0 : j0 < n := by omega
  obtain ⟨f0, hf0⟩ : ∃ f0, L[j0]? = some f0 := ⟨_, List.getElem?_eq_getElem h1⟩
  have HS0 := ax (show SiftN a L L n j0 (j0 + 1) from by
   refine ⟨by omega, by omega, hnl.symm, ?_, rfl⟩
   unfold keepN at h3 ⊢
   rw [List.take_succ_eq_append_getElem h1, List.filter_append, h3]
   have := h4 f0 hf0
   rw [List.getElem?_eq_getElem h1] at hf0
   injection hf0 with hf0
   simp [hf0, this])
  have hj1 : ((j0 : Int) == -1) = false := by rw [beq_eq_false_iff_ne]; omega
  clear h hr hnl h1 h2 h3 h4 hf0 hidx hB
  go_enter Tryz.func116, Tryz.ntmps116
  go_wp2_with (go_at_call 158; refine HI.out.mono ?_; rintro e w1 ⟨rfl, hb⟩; have HG1 := ax (grownBy_below (r := some gr) hb); have HR1 := ax (Kd.R_below HR.out hb); clear hb)
  go_loopw [5, 6] (fun v5 v6 wr => ∃ (i j : Nat) (M : List Int), v5 = .int .i64 (i : Int) ∧ v6 = .int .i64 (j : Int) ∧ i < j ∧ j ≤ n ∧ Aside0 (SiftN a L M n i j) ∧ Aside0 (Kd.R (Kd.int .u16) 31 wr base ok (.slice (some ⟨gr, 0, none⟩) n cap) M) ∧ Aside0 (w.grownBy wr (some gr))) (fun _ v6 _ => n - (intOf v6).toNat)
  case atStart => exact ⟨j0, j0 + 1, L, by simp, by simp, by omega, by omega, HS0, HR1, HG1⟩
  case round =>
   clear HG1 HR1 HS0 HI hj1 hj0
   obtain ⟨i, j, M, rfl, rfl, hij, hjn, HSI, HRM, HG⟩ := hrel
   by_cases hlt : j < n
   ·have hlb : decide ((j : Int) < (n : Int)) = true := decide_eq_true (by omega)
    obtain ⟨x, hMj⟩ : ∃ x, M[j]? = some x := ⟨_, List.getElem?_eq_getElem (by rw [HSI.out.len]; exact hlt)⟩
    have hxJ : M.getD j 0 = x := by rw [List.getD_eq_getElem?_getD, hMj]; rfl
    have hcx : wr.cell? ⟨gr, j, none⟩ = some (.int .u16 x) := by rw [(R_put1 HRM.out j hlt 0).2.1, hxJ]
    have hLj := hMj
    rw [HSI.out.get HNL.out hlt] at hLj
    obtain ⟨z, hz⟩ : ∃ z, z = (x == a) := ⟨_, rfl⟩
    have HO := ax (same_calls (CapN.grown HH.out HG.out HNE.out) x)
    rw [← hz] at HO
    have HZ := ax hz
    have HLJ := ax hLj
    clear hLj hMj hz hxJ
    cases z with
    | true =>
     go_wp2_with (go_at_call 117; refine HO.out.mono ?_; rintro e w1 ⟨rfl, hb⟩; have HB1 := ax hb; clear hb)
     go_roundw
     case rel => exact ⟨i, j + 1, M, by simp, by simp, by omega, by omega, ⟨HSI.out.skip HNL.out hlt HLJ.out HZ.out.symm⟩, ⟨Kd.R_below HRM.out HB1.out⟩, ⟨grownBy_trans HG.out (grownBy_below HB1.out)⟩⟩
     case measure => simp [intOf]; omega
    | false =>
     have hin : i < n := by omega
     go_wp2_with (go_at_call 117; refine HO.out.mono ?_; rintro e w1 ⟨rfl, hb⟩; have HB1 := ax hb; have HPI := ax (R_put1 (Kd.R_below HRM.out HB1.out) i hin x); have hci := HPI.out.2.1; have hfi := HPI.out.2.2; clear hb)
     go_roundw
     case rel => exact ⟨i + 1, j + 1, M.set i x, by simp, by simp, by omega, by omega, ⟨HSI.out.put HNL.out hlt HLJ.out HZ.out.symm⟩, ⟨HPI.out.1.1⟩, ⟨grownBy_trans (grownBy_trans HG.out (grownBy_below HB1.out)) HPI.out.1.2⟩⟩
     case measure => simp [intOf]; omega
   ·have hlb : decide ((j : Int) < (n : Int)) = false := decide_eq_false (by omega)
    obtain rfl : j = n := by omega
    obtain ⟨cur, hcur, hcs⟩ := R_block HRM.out
    obtain ⟨vs, hvl, hclr⟩ := clear_n wr gr i (j - i) (cap - i) cur hcur (by rw [hcs]; show _ ≤ cap * 1; omega) (by omega)
    have HT := ax (R_tail (Kd.R_take HRM.out (m := i) (by rw [HSI.out.len]; omega)) (o := i) (vs := vs) (by show i * 1 ≤ i; omega) (by rw [hvl]; show _ ≤ cap * 1; omega))
    clear hcur hcs hvl
    go_wp2
    go_ret
    refine ⟨i, by simp, ?_, grownBy_trans HG.out HT.out.2⟩
    have h1 := HT.out.1
    rw [HSI.out.pre, List.take_of_length_le (by rw [HNL.out]; exact Nat.le_refl _)] at h1
    exact h1
end Go.Proofs.YtajiggmeappfaaaGreatDoor.P
namespace Go.Proofs.YtajiggmeappfaaaGreatDoor.P
open Go.RowKit Go.Proofs.YtajiggmeappfaaaGreatDoorW.PrintWords Go.Proofs.YtajiggmeappfaaaGreatDoorW.PrintLast Go.Proofs.YtajiggmeappfaaaGreatDoorW.PrintMore
set_option maxRecDepth 100000
set_option maxHeartbeats 8000000
set_option linter.unusedVariables false
set_option linter.unusedSimpArgs false
-- YtajiggmeappfaaaGreatDoorPSRate
section
attribute [local go_sem] max2_int min2_int
theorem rwithin_calls (a m : Int) (h : 0 ≤ a ∧ a ≤ m) (w : World) : Calls Tryz.prog 170 #[.int .i64 a, .int .i64 m] w fun e w' => e = .returned (.bool true) ∧ Below w.heap.size w w' := by
 have h1 : decide ((0 : Int) ≤ a) = true := decide_eq_true h.1
 have h2 : decide (a ≤ m) = true := decide_eq_true h.2
 go_enter Tryz.func170, Tryz.ntmps170
 go_wp2_with fail
 go_ret
 exact ⟨by simp_all, Below.refl _ _⟩
theorem rcheck_calls (L R : Int) (hL : 0 ≤ L ∧ L ≤ 2) (hR : 0 ≤ R ∧ R ≤ 3) (w : World) : Calls Tryz.prog 120 #[.agg #[.int .i64 L, .int .i64 R]] w fun e w' => e = .returned (.int .i64 0) ∧ Below w.heap.size w w' := by
 have HL := ax hL
 have HR := ax hR
 clear hL hR
 go_enter Tryz.func120, Tryz.ntmps120
 go_wp2_with (go_at_call 170; refine (rwithin_calls _ _ (by first | exact HL.out | exact HR.out) _).mono ?_; rintro e w1 ⟨rfl, hb⟩; first
  | (have HB2 := ax (below_step HB1.out hb); clear hb)
  | (have HN1 := ax ((hb.block w.heap.size (by rw [World.size_alloc]; omega)).trans (blk_new w _)); have HB1 := ax (below_step (below_alloc (Below.refl _ _) _) hb); have hc1 := blk_cell HN1.out 1; clear hb))
 go_ret
 exact ⟨rfl, HB2.out⟩
theorem burst_calls (L R : Int) (hL : 0 ≤ L ∧ L ≤ 2) (hR : 0 ≤ R ∧ R ≤ 3) (w : World) : Calls Tryz.prog 62 #[.agg #[.int .i64 L, .int .i64 R]] w fun e w' => ∃ n : Int, e = .returned (.tuple #[.int .i64 n, .int .i64 0]) ∧ 1 ≤ n ∧ n ≤ 4 ∧ Below w.heap.size w w' := by
 have h1 := ax (rcheck_calls L R hL hR)
 have hl : L = 0 ∨ L = 1 ∨ L = 2 := by omega
 clear hL hR
 rcases hl with rfl | rfl | rfl
 all_goals
  go_enter Tryz.func62, Tryz.ntmps62
  go_wp2_with (go_at_call 120; refine (h1.out _).mono ?_; rintro e w1 ⟨rfl, hb⟩; have HN1 := ax ((hb.block w.heap.size (by rw [World.size_alloc]; omega)).trans (blk_new w _)); have HB1 := ax (below_step (below_alloc (Below.refl _ _) _) hb); have hc1 := blk_cell HN1.out 0; clear hb)
  have hrs : (Tryz.f62).results = #[.tmp 2, .tmp 3] := by kernel_rfl
  refine bodyPost_ret (results_tmp2 hrs _ _ _) rfl ?_
  exact ⟨_, rfl, by decide, by decide, HB1.out⟩
theorem wait_calls (t : Int) (h : 1 ≤ t ∧ t ≤ 100000) (w : World) : Calls Tryz.prog 67 #[.int .i64 t] w fun e w' => ∃ n : Int, e = .returned (.tuple #[.int .i64 n, .int .i64 0]) ∧ 1 ≤ n ∧ n ≤ 16 ∧ Below w.heap.size w w' := by
 have e1 : ¬ t < 1 := by omega
 have hl : t = 1 ∨ t = 2 ∨ t = 3 ∨ t = 4 ∨ 4 < t := by omega
 clear e1
 rcases hl with rfl | rfl | rfl | rfl | h4
 all_goals
  try have e1 : ¬ t < 1 := by omega
  clear h
  go_enter Tryz.func67, Tryz.ntmps67
  go_wp2_with fail
  all_goals
   have hrs : (Tryz.f67).results = #[.tmp 2, .tmp 3] := by kernel_rfl
   refine bodyPost_ret (results_tmp2 hrs _ _ _) rfl ?_
   exact ⟨_, rfl, by first | decide | (unfold wrap64; decide), by first | decide | (unfold wrap64; decide), Below.refl _ _⟩
end
-- YtajiggmeappfaaaGreatDoorPFoot
structure Keep (F : Nat → Prop) (w w' : World) : Prop where
 os : w'.os = w.os
 tape : w'.tape = w.tape
 output : w'.output = w.output
 size : w.heap.size ≤ w'.heap.size
 block : ∀ k, k < w.heap.size → ¬ F k → w'.heap[k]? = w.heap[k]?
def Grow (w : World) (F F' : Nat → Prop) : Prop := ∀ k, F' k → F k ∨ w.heap.size ≤ k
theorem Grow.refl (w : World) (F : Nat → Prop) : Grow w F F := fun _ h => .inl h
theorem Grow.trans {w w1 : World} {F F1 F2 : Nat → Prop} (h : Grow w F F1) (hs : w.heap.size ≤ w1.heap.size) (k : Grow w1 F1 F2) : Grow w F F2 := fun i hi => by
 rcases k i hi with hk | hk
 ·exact h i hk
 ·exact .inr (Nat.le_trans hs hk)
theorem Keep.refl (F : Nat → Prop) (w : World) : Keep F w w := ⟨rfl, rfl, rfl, Nat.le_refl _, fun _ _ _ => rfl⟩
theorem Keep.of_below {F : Nat → Prop} {w w' : World} (h : Below w.heap.size w w') : Keep F w w' := ⟨h.os, h.tape, h.output, h.size, fun k hk _ => h.block k hk⟩
theorem Keep.of_put {F : Nat → Prop} {a : Nat} {w w' : World} (p : Put1 a w w') (ha : F a) : Keep F w w' := ⟨p.os, p.tape, p.output, Nat.le_of_eq p.size.symm, fun k _ hF => p.block k (fun e => hF (e ▸ ha))⟩
theorem Keep.of_grown {F : Nat → Prop} {r : Option Nat} {w w' : World} (h : w.grownBy w' r) (hr : ∀ k, r = some k → F k) : Keep F w w' := ⟨h.os, h.tape, h.output, h.size, fun k hk hF => h.block k hk (fun e => hF (hr k e.symm))⟩
theorem Keep.mono {F G : Nat → Prop} {w w' : World} (h : Keep F w w') (hFG : ∀ k, k < w.heap.size → F k → G k) : Keep G w w' := ⟨h.os, h.tape, h.output, h.size, fun k hk hG => h.block k hk (fun hF => hG (hFG k hk hF))⟩
theorem Keep.trans {F F1 : Nat → Prop} {w w1 w2 : World} (h : Keep F w w1) (hg : Grow w F F1) (k : Keep F1 w1 w2) : Keep F w w2 :=
 ⟨k.os.trans h.os, k.tape.trans h.tape, k.output.trans h.output, Nat.le_trans h.size k.size, fun i hi hF => by
  rw [k.block i (Nat.lt_of_lt_of_le hi h.size) (fun h1 => by rcases hg i h1 with q | q; exact hF q; omega), h.block i hi hF]⟩
theorem Keep.seq {F : Nat → Prop} {w w1 w2 : World} (h : Keep F w w1) (k : Keep F w1 w2) : Keep F w w2 := h.trans (Grow.refl _ _) k
theorem Keep.below {F : Nat → Prop} {S : Nat} {w w' : World} (h : Keep F w w') (hS : S ≤ w.heap.size) (hF : ∀ k, F k → S ≤ k) : Below S w w' :=
 ⟨h.os, h.tape, h.output, h.size, fun k hk => h.block k (by omega) (fun q => by have := hF k q; omega)⟩
theorem Keep.at {F : Nat → Prop} {w w' : World} {k : Nat} {o : Obj} (h : Keep F w w') (hk : w.heap[k]? = some o) (hF : ¬ F k) : w'.heap[k]? = some o := (h.block k (blk_lt hk) hF).trans hk
-- YtajiggmeappfaaaGreatDoorPSPlan
section
attribute [local go_sem] max2_int min2_int
theorem done_calls (L R t : Int) (hL : 0 ≤ L ∧ L ≤ 2) (hR : 0 ≤ R ∧ R ≤ 3) (ht : 1 ≤ t ∧ t ≤ 100000) (w : World) : Calls Tryz.prog 96 #[.agg #[.int .i64 L, .int .i64 R], .int .i64 t] w fun e w' => ∃ L' R' : Int, e = .returned (.tuple #[.agg #[.int .i64 L', .int .i64 R'], .int .i64 0]) ∧ (0 ≤ L' ∧ L' ≤ 2) ∧ (0 ≤ R' ∧ R' ≤ 3) ∧ Below w.heap.size w w' := by
 have h1 := ax (rcheck_calls L R hL hR)
 have hl : L = 0 ∨ L = 1 ∨ L = 2 := by omega
 have hc : (t = 1 ∧ (R = 0 ∨ R = 1 ∨ R = 2 ∨ R = 3)) ∨ t = 2 ∨ 2 < t := by omega
 have HR := ax hR
 have e1 : ¬ t < 1 := by omega
 clear hL hR ht
 go_enter Tryz.func96, Tryz.ntmps96
 go_wp2_with (go_at_call 120; refine (h1.out _).mono ?_; rintro e w1 ⟨rfl, hb⟩; have HB1 := ax (below_step (below_alloc (below_alloc (Below.refl w.heap.size w) (.cells #[.int .i64 L, .int .i64 R] 80)) (.cells #[.int .i64 0, .int .i64 0] 80)) hb); have hn0 : w1.heap[w.heap.size]? = some (.cells #[.int .i64 L, .int .i64 R] 80 (0, 0)) := (hb.block w.heap.size (by simp only [World.size_alloc]; omega)).trans ((below_alloc (Below.refl _ _) _).block w.heap.size (by simp only [World.size_alloc]; omega) |>.trans (blk_new w _)); have hn1 : w1.heap[w.heap.size + 1]? = some (.cells #[.int .i64 0, .int .i64 0] 80 (0, 0)) := (hb.block (w.heap.size + 1) (by simp only [World.size_alloc]; omega)).trans (by have := blk_new (w.alloc (.cells #[.int .i64 L, .int .i64 R] 80)) (.cells #[.int .i64 0, .int .i64 0] 80); rw [World.size_alloc] at this; exact this); have HN := ax (And.intro hn0 hn1); have hc0 := blk_cell hn0 0; have hc1 := blk_cell hn0 1; have hf0 := blk_frozen hn0 0; have hf1 := blk_frozen hn0 1; have hd0 := blk_cell hn1 0; have hd1 := blk_cell hn1 1; have hg0 := blk_frozen hn1 0; have hg1 := blk_frozen hn1 1; clear hb hn0 hn1; rcases hl with rfl | rfl | rfl <;> rcases hc with ⟨rfl, rfl | rfl | rfl | rfl⟩ | rfl | hc)
 all_goals
  refine bodyPost_ret (results_ct rfl _ _ (w.heap.size + 1) 80 #[.int .i64 _, .int .i64 _] (0, 0) _ rfl (by refine blk_put (cs := #[_, .int .i64 0]) ?_ 1 _ rfl; refine blk_put (cs := #[.int .i64 0, .int .i64 0]) ?_ 0 _ rfl; repeat (first | exact HN.out.2 | refine blk_far ?_ (Nat.succ_ne_self _) _)) Tryz.underlying80 rfl kr) rfl ?_
  exact ⟨_, _, rfl, by decide, by decide, by repeat (first | exact HB1.out | refine below_set ?_ (by omega))⟩
theorem schedNew_calls (n : Int) (h : 1 ≤ n ∧ n ≤ 4) (w : World) : Calls Tryz.prog 63 #[.int .i64 n] w fun e w' => e = .returned (.tuple #[.pointer (some ⟨w.heap.size, 0, none⟩), .int .i64 0]) ∧ w'.heap[w.heap.size]? = some (.cells #[.int .i64 n, .int .i64 0, .int .i64 0] 218 (0, 0)) ∧ Below w.heap.size w w' := by
 have e1 : ¬ n < 1 := by omega
 have e2 : ¬ n > 4 := by omega
 have hb := below_alloc (Below.refl w.heap.size w) (.cells #[.int .i64 n, .int .i64 0, .int .i64 0] 218)
 have hn := blk_new w (.cells #[.int .i64 n, .int .i64 0, .int .i64 0] 218)
 have HB := ax (And.intro hb hn)
 clear hb hn h
 go_enter Tryz.func63, Tryz.ntmps63
 go_wp2_with fail
 have hrs : (Tryz.f63).results = #[.tmp 2, .tmp 3] := by kernel_rfl
 refine bodyPost_ret (results_tmp2 hrs _ _ _) rfl ?_
 exact ⟨rfl, HB.out.2, HB.out.1⟩
abbrev PLN (w : World) (q : Nat) (b t s : Int) : Prop := w.heap[q]? = some (.cells #[.int .i64 b, .int .i64 t, .int .i64 s] 218 (0, 0))
theorem tries_calls {w : World} {q : Nat} {b t s : Int} (h : PLN w q b t s) : Calls Tryz.prog 68 #[.pointer (some ⟨q, 0, none⟩)] w fun e w' => e = .returned (.int .i64 t) ∧ Below w.heap.size w w' := by
 have hc := blk_cell h 1
 clear h
 go_enter Tryz.func68, Tryz.ntmps68
 go_wp2_with fail
 go_ret
 exact ⟨rfl, Below.refl _ _⟩
end
-- YtajiggmeappfaaaGreatDoorPSNext
theorem i64_infoN : (Tryz.prog.info? 3).map (fun i => (i.zero, i.size, i.bytes)) = some (some (.int .i64 0), 1, 8) := by kernel_rfl
theorem R_keepI {w w' : World} {e base : Nat} {v : Value} {xs : List Int} (h : Kd.R (Kd.int .i64) e w base (fun _ => True) v xs) (hb : ∀ k, v.ownBlock = some k → w'.heap[k]? = w.heap[k]?) : Kd.R (Kd.int .i64) e w' base (fun _ => True) v xs :=
 Kd.R_mono (Kd.R_step (show Kd.R (Kd.int .i64) e w base (fun k => v.ownBlock = some k) v xs from ⟨fun _ hk => hk, h.2⟩) (fun k ok _ => hb k ok)) (fun _ _ => trivial)
theorem PLN.put {w : World} {q : Nat} {b t s : Int} (h : PLN w q b t s) : (∀ x, PLN (w.setCell ⟨q, 1, none⟩ (.int .i64 x)) q b x s) ∧ ∀ x, PLN (w.setCell ⟨q, 2, none⟩ (.int .i64 x)) q b t x := ⟨fun x => blk_put h 1 _ rfl, fun x => blk_put h 2 _ rfl⟩
theorem next_calls {w : World} {q : Nat} {b t s : Int} (h : PLN w q b t s) (hb : 1 ≤ b ∧ b ≤ 4) (ht : 0 ≤ t ∧ t ≤ 1000) (hs : 0 ≤ s ∧ s ≤ 10000) :
  Calls Tryz.prog 65 #[.pointer (some ⟨q, 0, none⟩)] w fun e w' => ∃ (v : Value) (vs : List Int) (s' : Int), e = .returned v ∧ Kd.R (Kd.int .i64) 3 w' w.heap.size (fun _ => True) v vs ∧ vs ≠ [] ∧ vs.length ≤ 4 ∧ (∀ x ∈ vs, 0 ≤ x ∧ x ≤ 3) ∧
   PLN w' q b (t + 1) s' ∧ (s ≤ s' ∧ s' ≤ s + 4) ∧ Keep (fun k => k = q) w w' := by
 have hc0 := blk_cell h 0
 have hc1 := blk_cell h 1
 have hf1 := blk_frozen h 1
 have HP := ax (h.put.1 (t + 1))
 have HK := ax (show Keep (fun k => k = q) w (w.setCell ⟨q, 1, none⟩ (.int .i64 (t + 1))) from Keep.of_put (Put1.set _ _ _ _) rfl)
 have HQ := ax (blk_lt h)
 clear h
 by_cases e0 : t = 0
 ·subst e0
  obtain ⟨n, rfl⟩ : ∃ n : Nat, b = (n : Int) := ⟨b.toNat, by omega⟩
  clear ht
  go_enter Tryz.func65, Tryz.ntmps65
  go_wp2_with fail
  go_loopw [24, 4] (fun v24 v4 wr => ∃ (i : Nat) (vs : List Int), v24 = .int .i64 (i : Int) ∧ i ≤ n ∧ Aside0 (Kd.R (Kd.int .i64) 3 wr w.heap.size (fun _ => True) v4 vs) ∧ Aside0 (vs.length = i ∧ ∀ x ∈ vs, 0 ≤ x ∧ x ≤ 3) ∧ Aside0 (PLN wr q (n : Int) (0 + 1) (s + i)) ∧ Aside0 (Keep (fun k => k = q) w wr)) (fun v24 _ _ => n - (intOf v24).toNat)
  case atStart => exact ⟨0, [], by simp, by omega, ⟨Kd.R_nil _ _ _ _ _⟩, ⟨rfl, fun x hx => by cases hx⟩, ⟨by have := HP.out; simpa using this⟩, HK⟩
  case round =>
   clear hc0 hc1 hf1 HP HK
   obtain ⟨i, vs, rfl, hi, HU, HV, HP, HK⟩ := hrel
   by_cases hlt : i < n
   ·have hlb : decide ((i : Int) < (n : Int)) = true := decide_eq_true (by omega)
    have hc2 := blk_cell HP.out 2
    have hx3 : 0 ≤ (s + (i : Int)).tmod 4 ∧ (s + (i : Int)).tmod 4 ≤ 3 := by rw [Int.tmod_eq_emod_of_nonneg (by omega)]; omega
    obtain ⟨x, hx⟩ : ∃ x, x = (s + (i : Int)).tmod 4 := ⟨_, rfl⟩
    have HX := ax (show 0 ≤ x ∧ x ≤ 3 by rw [hx]; exact hx3)
    have hx' := hx.symm
    clear hx hx3
    go_wp2_with ((with_reducible refine gate_builtin (b := .append) (xs := #[.tmp 26, .tmp 32]) rfl ?_); at_builtin; refine Kd.R_append (Kd.int .i64) (w0 := wr) w.heap.size rfl (.tmp 26) (.tmp 32) 24 3 (.int .i64 0) 8 rfl Tryz.underlying24 i64_infoN rfl (by decide) (by decide) u4 vs x [.int .i64 x] (fun _ => True) (fun _ => False) rfl (by first | rfl | (go_simp; done) | (go_simp; rfl)) rfl (fun _ hk => hk.elim) (fun _ _ => trivial) HU.out (Below.refl _ _) HK.out.size (by have := HV.out.1; omega) ?_; intro v1 w3 ho hb hg hat; have HU3 := ax ho; have hqn : some q ≠ Value.ownBlock u4 := (fun e => by have := Kd.R_base HU.out q e.symm; have := HQ.out; omega); have hp3 : PLN w3 q (n : Int) (0 + 1) (s + i) := (hg.block q (blk_lt HP.out) hqn).trans HP.out; have HP3 := ax hp3; have HK3 := ax (HK.out.trans (F1 := fun k => u4.ownBlock = some k) (fun k hk => .inr (Kd.R_base HU.out k hk)) (Keep.of_grown hg (fun k hk => hk))); have hc3 := blk_cell hp3 2; have hf3 := blk_frozen hp3 2; clear ho hb hg hat hqn hp3 hc2)
    go_roundw
    case rel =>
     refine ⟨i + 1, vs ++ [x], by simp, by omega, ⟨?_⟩, ⟨by rw [List.length_append, HV.out.1]; rfl, fun y hy => ?_⟩, ⟨?_⟩, ⟨HK3.out.seq (Keep.of_put (Put1.set _ _ _ _) rfl)⟩⟩
     ·exact R_keepI HU3.out (fun k hk => (Put1.set q 2 w3 _).block k (fun e => by have := Kd.R_base HU3.out k hk; have := HQ.out; omega))
     ·rcases List.mem_append.1 hy with hy | hy
      ·exact HV.out.2 y hy
      ·rw [List.mem_singleton] at hy; subst hy; exact HX.out
     ·have := HP3.out.put.2 (s + (i : Int) + 1)
      rw [show s + ((i + 1 : Nat) : Int) = s + (i : Int) + 1 by omega]
      exact this
    case measure => simp [intOf]; omega
   ·have hlb : decide ((i : Int) < (n : Int)) = false := decide_eq_false (by omega)
    go_wp2_with fail
    have hrs : (Tryz.f65).results = #[.tmp 2] := by kernel_rfl
    refine bodyPost_ret (results_tmp hrs _ _ _) rfl ?_
    exact ⟨_, vs, s + i, rfl, HU.out, fun e => by have := HV.out.1; rw [e] at this; simp at this; omega, by have := HV.out.1; omega, HV.out.2, HP.out, by omega, HK.out⟩
 ·have ht0 : (t == 0) = false := by simpa using e0
  clear e0
  go_enter Tryz.func65, Tryz.ntmps65
  go_wp2_with fail
  go_loopw [24, 4] (fun v24 v4 wr => ∃ (i : Nat) (vs : List Int), v24 = .int .i64 (i : Int) ∧ i ≤ 1 ∧ Aside0 (Kd.R (Kd.int .i64) 3 wr w.heap.size (fun _ => True) v4 vs) ∧ Aside0 (vs.length = i ∧ ∀ x ∈ vs, 0 ≤ x ∧ x ≤ 3) ∧ Aside0 (PLN wr q b (t + 1) (s + i)) ∧ Aside0 (Keep (fun k => k = q) w wr)) (fun v24 _ _ => 1 - (intOf v24).toNat)
  case atStart => exact ⟨0, [], by simp, by omega, ⟨Kd.R_nil _ _ _ _ _⟩, ⟨rfl, fun x hx => by cases hx⟩, ⟨by have := HP.out; simpa using this⟩, HK⟩
  case round =>
   clear hc0 hc1 hf1 HP HK
   obtain ⟨i, vs, rfl, hi, HU, HV, HP, HK⟩ := hrel
   by_cases hlt : i < 1
   ·have hlb : decide ((i : Int) < 1) = true := decide_eq_true (by omega)
    have hc2 := blk_cell HP.out 2
    have hx3 : 0 ≤ (s + (i : Int)).tmod 4 ∧ (s + (i : Int)).tmod 4 ≤ 3 := by rw [Int.tmod_eq_emod_of_nonneg (by omega)]; omega
    obtain ⟨x, hx⟩ : ∃ x, x = (s + (i : Int)).tmod 4 := ⟨_, rfl⟩
    have HX := ax (show 0 ≤ x ∧ x ≤ 3 by rw [hx]; exact hx3)
    have hx' := hx.symm
    clear hx hx3
    go_wp2_with ((with_reducible refine gate_builtin (b := .append) (xs := #[.tmp 26, .tmp 32]) rfl ?_); at_builtin; refine Kd.R_append (Kd.int .i64) (w0 := wr) w.heap.size rfl (.tmp 26) (.tmp 32) 24 3 (.int .i64 0) 8 rfl Tryz.underlying24 i64_infoN rfl (by decide) (by decide) u4 vs x [.int .i64 x] (fun _ => True) (fun _ => False) rfl (by first | rfl | (go_simp; done) | (go_simp; rfl)) rfl (fun _ hk => hk.elim) (fun _ _ => trivial) HU.out (Below.refl _ _) HK.out.size (by have := HV.out.1; omega) ?_; intro v1 w3 ho hb hg hat; have HU3 := ax ho; have hqn : some q ≠ Value.ownBlock u4 := (fun e => by have := Kd.R_base HU.out q e.symm; have := HQ.out; omega); have hp3 : PLN w3 q b (t + 1) (s + i) := (hg.block q (blk_lt HP.out) hqn).trans HP.out; have HP3 := ax hp3; have HK3 := ax (HK.out.trans (F1 := fun k => u4.ownBlock = some k) (fun k hk => .inr (Kd.R_base HU.out k hk)) (Keep.of_grown hg (fun k hk => hk))); have hc3 := blk_cell hp3 2; have hf3 := blk_frozen hp3 2; clear ho hb hg hat hqn hp3 hc2)
    go_roundw
    case rel =>
     refine ⟨i + 1, vs ++ [x], by simp, by omega, ⟨?_⟩, ⟨by rw [List.length_append, HV.out.1]; rfl, fun y hy => ?_⟩, ⟨?_⟩, ⟨HK3.out.seq (Keep.of_put (Put1.set _ _ _ _) rfl)⟩⟩
     ·exact R_keepI HU3.out (fun k hk => (Put1.set q 2 w3 _).block k (fun e => by have := Kd.R_base HU3.out k hk; have := HQ.out; omega))
     ·rcases List.mem_append.1 hy with hy | hy
      ·exact HV.out.2 y hy
      ·rw [List.mem_singleton] at hy; subst hy; exact HX.out
     ·have := HP3.out.put.2 (s + (i : Int) + 1)
      rw [show s + ((i + 1 : Nat) : Int) = s + (i : Int) + 1 by omega]
      exact this
    case measure => simp [intOf]; omega
   ·have hlb : decide ((i : Int) < 1) = false := decide_eq_false (by omega)
    go_wp2_with fail
    have hrs : (Tryz.f65).results = #[.tmp 2] := by kernel_rfl
    refine bodyPost_ret (results_tmp hrs _ _ _) rfl ?_
    exact ⟨_, vs, s + i, rfl, HU.out, fun e => by have := HV.out.1; rw [e] at this; simp at this; omega, by have := HV.out.1; omega, HV.out.2, HP.out, by omega, HK.out⟩
end Go.Proofs.YtajiggmeappfaaaGreatDoor.P
namespace Go.Proofs.YtajiggmeappfaaaGreatDoor.P
open Go.RowKit Go.Proofs.YtajiggmeappfaaaGreatDoorW.PrintWords Go.Proofs.YtajiggmeappfaaaGreatDoorW.PrintLast Go.Proofs.YtajiggmeappfaaaGreatDoorW.PrintMore
set_option maxRecDepth 100000
set_option maxHeartbeats 8000000
set_option linter.unusedVariables false
-- YtajiggmeappfaaaGreatDoorPStr
set_option linter.unusedSimpArgs false
end Go.Proofs.YtajiggmeappfaaaGreatDoor.P
namespace Go.Proofs.YtajiggmeappfaaaGreatDoor.P
open Go.RowKit Go.Proofs.YtajiggmeappfaaaGreatDoorW.PrintWords Go.Proofs.YtajiggmeappfaaaGreatDoorW.PrintLast Go.Proofs.YtajiggmeappfaaaGreatDoorW.PrintMore
set_option maxRecDepth 100000
set_option maxHeartbeats 8000000
set_option linter.unusedVariables false
set_option linter.unusedSimpArgs false
-- YtajiggmeappfaaaGreatDoorP30
section
attribute [local go_sem] max2_int min2_int max_two min_two max_three min_three max_four min_four
def shuttletop_cut.f (l0 : List Int) (a1 : Int) : Option (List Int) := (some (([] : List Int) : List Int)).bind fun y195 => (if 0 ≤ (mn (l0.length : Int) a1) then (if (mn (l0.length : Int) a1) ≤ (l0.length : Int) then (if y195.length + (l0.take ((mn (l0.length : Int) a1) : Int).toNat).length < 140737488355328 then (some (y195 ++ (l0.take ((mn (l0.length : Int) a1) : Int).toNat))) else (none)) else (none)) else (none))
theorem shuttletop_cut.calls (A0 : Option Addr) (c0 : Nat) (l0 : List Int) (a1 : Int) (r : List Int) (w : World) (hr0 : Kd.C (Kd.int .u8) w A0 l0.length l0) (hc0 : l0.length ≤ c0) (h : shuttletop_cut.f l0 a1 = some r) :
  Calls Tryz.prog 9 #[.slice A0 l0.length c0, .int .i64 a1] w fun e w' => ∃ v0_ : Value, e = .returned (v0_) ∧ Kd.R (Kd.int .u8) 5 w' w.heap.size (fun _ => True) v0_ r ∧ Below w.heap.size w w' := by
 have HR0 := ax hr0
 have HC0 := ax hc0
 clear hr0 hc0
 have HB := ax (Below.refl w.heap.size w)
 have H : ((some (([] : List Int) : List Int)).bind fun y195 => (if 0 ≤ (mn (l0.length : Int) a1) then (if (mn (l0.length : Int) a1) ≤ (l0.length : Int) then (if y195.length + (l0.take ((mn (l0.length : Int) a1) : Int).toNat).length < 140737488355328 then (some (y195 ++ (l0.take ((mn (l0.length : Int) a1) : Int).toNat))) else (none)) else (none)) else (none))) = some r := h
 clear h
 obtain ⟨y195, hy195⟩ : ∃ y_ : List Int, y_ = (([] : List Int)) := ⟨_, rfl⟩
 replace H : (if 0 ≤ (mn (l0.length : Int) a1) then (if (mn (l0.length : Int) a1) ≤ (l0.length : Int) then (if y195.length + (l0.take ((mn (l0.length : Int) a1) : Int).toNat).length < 140737488355328 then (some (y195 ++ (l0.take ((mn (l0.length : Int) a1) : Int).toNat))) else (none)) else (none)) else (none)) = some r := by first | (rw [hy195]; with_reducible exact H) | (have H2_ := (Option.bind_some _ _).symm.trans H; rw [hy195]; with_reducible exact H2_) | (have H2_ := (Option.bind_some _ _).symm.trans H; with_reducible exact H2_) | with_reducible exact H | (rw [hy195]; exact H) | exact H
 have Ny195 := ax hy195
 clear hy195
 obtain ⟨ji3, hji3⟩ : ∃ j_ : Int, (mn (l0.length : Int) a1) = j_ := ⟨_, rfl⟩
 replace H : (if 0 ≤ (ji3) then (if (ji3) ≤ (l0.length : Int) then (if y195.length + (l0.take ((ji3) : Int).toNat).length < 140737488355328 then (some (y195 ++ (l0.take ((ji3) : Int).toNat))) else (none)) else (none)) else (none)) = some r := by first | (rw [hji3] at H; exact H) | (simp only [hji3] at H ⊢; exact H)
 have hji3_ : (if a1 < (l0.length : Int) then a1 else (l0.length : Int)) = ji3 := hji3
 by_cases c4 : 0 ≤ (ji3)
 ·rw [if_pos c4] at H
  have c4b0 := eq_true c4
  have c4b1 : decide (0 ≤ (ji3)) = true := decide_eq_true c4
  clear c4
  by_cases c5 : (ji3) ≤ (l0.length : Int)
  ·rw [if_pos c5] at H
   have c5b0 := eq_true c5
   have c5b1 : decide ((ji3) ≤ (l0.length : Int)) = true := decide_eq_true c5
   clear c5
   by_cases c6 : y195.length + (l0.take ((ji3) : Int).toNat).length < 140737488355328
   ·rw [if_pos c6] at H
    have LMc6 := ax c6
    clear c6
    obtain ⟨y199, hy199⟩ : ∃ y_ : List Int, y_ = (y195 ++ (l0.take ((ji3) : Int).toNat)) := ⟨_, rfl⟩
    replace H : (some y199) = some r := by first | (rw [hy199]; with_reducible exact H) | (have H2_ := (Option.bind_some _ _).symm.trans H; rw [hy199]; with_reducible exact H2_) | (have H2_ := (Option.bind_some _ _).symm.trans H; with_reducible exact H2_) | with_reducible exact H | (rw [hy199]; exact H) | exact H
    have Ny199 := ax hy199
    clear hy199
    obtain rfl := Option.some.inj H
    go_enter Tryz.func9, Tryz.ntmps9
    go_wp2_with (first | ((with_reducible refine gate_dst (N := 5) rfl ?_); refine Kd.R_lit (Kd.int .u8) _ 5 ?hg (N := 5) ?hd (xs := ([] : List Int)) (inner := []) (ok := fun _ => True) (okp := fun _ => True) ?hr ?hp (fun _ hk => hk) trivial (Below.refl _ _) (Nat.le_refl _) (by simp) ?_; (case hd => rfl); (case hg => rfl); (case hr => first | (go_simp; done) | (go_simp; rfl)); (case hp => exact (Reps.none _ _)); intro v196 w7 ho8 hb hg_ hnew_; clear hg_ hnew_; (first | rw [← Ny195.out] at ho8 | (simp only [Int.reduceToNat] at ho8; rw [← Ny195.out] at ho8)); have n0_ := ax (Kd.R_lower ho8 (below_size bl_)); have n1_ := ax (below_step bl_ hb); clear HB; have HO197 := n0_; have HB := n1_; clear n0_ n1_; clear hb ho8; obtain ⟨i09, hi09, _, hsz9, _⟩ := info_parts info5; obtain ⟨hcut9, hA9, hC9⟩ := print_take_of (P := Tryz.prog) (Value.int .u8) 0 37 5 .i64 Tryz.underlying37 hi09 hsz9 A0 c0 l0 (ji3) (of_decide_eq_true as_) (of_decide_eq_true as_) HC0.out; have HR198 := ax (Kd.C_of_reads (h1 := fun _ => rfl) (hA9 _ (Kd.reads_of_C HR0.out))); have HC198 := ax hC9; clear hA9 hC9 hi09 hsz9) | ((with_reducible refine gate_builtin (b := .append) (xs := #[.tmp 5, .tmp 11]) rfl ?_); at_builtin; refine Kd.R_append_rows (Kd.int .u8) (w0 := w) w.heap.size rfl (.tmp 5) (.tmp 11) 37 5 (.int .u8 0) 1 rfl Tryz.underlying37 info5 rfl (by decide) (by omega) v196 y195 (l0.take ((ji3) : Int).toNat) _ _ _ (fun _ => True) (fun _ => False) rfl rfl ?aO ?aR (fun _ _ h => h) (fun _ h => h.elim) ?aF ?aB ?aS ?aL ?_; (case aR => first | (refine reads_len (show (l0.take ((ji3) : Int).toNat).length = (ji3).toNat from (by rw [List.length_take]; have h_ : ((ji3) : Int) ≤ (l0.length : Int) := of_decide_eq_true as_; omega)) ?_; repeat (first | exact (Kd.C_below HR198.out HB.out) | (with_reducible refine Kd.C_alloc ?_ _) | (with_reducible refine Kd.C_drewN ?_ _) | (with_reducible refine Kd.C_drew ?_))) | (repeat (first | exact (Kd.C_below HR198.out HB.out) | (with_reducible refine Kd.C_alloc ?_ _) | (with_reducible refine Kd.C_drewN ?_ _) | (with_reducible refine Kd.C_drew ?_)))); (case aB => exact bl_); (case aF => exact (fun _ _ => trivial)); (case aO => exact (kR_ HO197.out)); (case aS => exact (below_size bl_)); (case aL => have := LMc6.out; have hlx_ := (show (l0.take ((ji3) : Int).toNat).length = (ji3).toNat from (by rw [List.length_take]; have h_ : ((ji3) : Int) ≤ (l0.length : Int) := of_decide_eq_true as_; omega)); omega); intro v200 w10 ho hb hg hat; rw [← Ny199.out] at ho; have n0_ := ax (hb); have n1_ := ax (ho); clear HB; clear HO197; have HB := n0_; have HO201 := n1_; clear n0_ n1_; clear ho hb hg hat))
    go_ret
    exact ⟨_, by first | rfl | (simp [errW_none, errW_some] <;> rfl) | (simp only [← hji3]; first | rfl | (simp [errW_none, errW_some] <;> rfl)) | (simp [*, errW_none, errW_some] <;> rfl), by (with_reducible repeat (first | apply Kd.R_alloc | apply Kd.R_drewN | apply Kd.R_drew)); exact HO201.out, bl_⟩
   ·rw [if_neg c6] at H
    exact absurd H (by simp)
  ·rw [if_neg c5] at H
   exact absurd H (by simp)
 ·rw [if_neg c4] at H
  exact absurd H (by simp)
end
-- YtajiggmeappfaaaGreatDoorPCrc32M
def rr (n : BitVec 32) : BitVec 32 := if n.getLsbD 0 then (n >>> 1) ^^^ 0xEDB88320#32 else n >>> 1
def sp (n : BitVec 32) (c : BitVec 8) : BitVec 32 := it rr 8 (n ^^^ c.setWidth 32)
def spI (n : BitVec 32) (c : Int) : BitVec 32 := sp n (BitVec.ofInt 8 c)
def reg32 (l : List Int) : BitVec 32 := l.foldl spI 0xFFFFFFFF#32
def sum32 (l : List Int) : BitVec 32 := ~~~ (reg32 l)
theorem rr_xor (a b : BitVec 32) : rr (a ^^^ b) = rr a ^^^ rr b := by
 unfold rr
 rw [BitVec.getLsbD_xor, BitVec.ushiftRight_xor_distrib]
 cases ha : a.getLsbD 0 <;> cases hb : b.getLsbD 0 <;> simp
 ·ac_rfl
 ·ac_rfl
 ·generalize a >>> 1 = x
  generalize b >>> 1 = y
  rw [show x ^^^ 3988292384#32 ^^^ (y ^^^ 3988292384#32) = (x ^^^ y) ^^^ (3988292384#32 ^^^ 3988292384#32) by ac_rfl]
  simp
theorem itr_xor (d : Nat) : ∀ a b : BitVec 32, it rr d (a ^^^ b) = it rr d a ^^^ it rr d b := by
 induction d with
 | zero => intro a b; rfl
 | succ d ih => intro a b; rw [it_succ, it_succ, it_succ, rr_xor, ih]
theorem low_free (d : Nat) : ∀ n : BitVec 32, (∀ i, i < d → n.getLsbD i = false) → it rr d n = n >>> d := by
 induction d with
 | zero => intro n _; show n = _; rw [BitVec.ushiftRight_zero]
 | succ d ih =>
  intro n h
  have h0 := h 0 (by omega)
  have e : rr n = n >>> 1 := by unfold rr; rw [h0]; rfl
  rw [it_succ, e, ih]
  ·rw [← BitVec.shiftRight_add]; congr 1; omega
  ·intro i hi
   rw [BitVec.getLsbD_ushiftRight]
   rw [Nat.add_comm]; exact h (i + 1) (by omega)
theorem half (n : BitVec 32) : it rr 4 n = (n >>> 4) ^^^ it rr 4 (n &&& 15#32) := by
 have e : n = (n &&& ~~~ 15#32) ^^^ (n &&& 15#32) := by
  apply BitVec.eq_of_getLsbD_eq
  intro i hi
  rw [BitVec.getLsbD_xor, BitVec.getLsbD_and, BitVec.getLsbD_and, BitVec.getLsbD_not]
  cases n.getLsbD i <;> cases (15#32).getLsbD i <;> simp [hi]
 have z : ∀ i, i < 4 → (n &&& ~~~ 15#32).getLsbD i = false := by
  intro i hi
  rw [BitVec.getLsbD_and]
  have : (~~~ 15#32).getLsbD i = false := by
   obtain rfl | rfl | rfl | rfl : i = 0 ∨ i = 1 ∨ i = 2 ∨ i = 3 := by omega
   all_goals decide
  rw [this, Bool.and_false]
 conv => lhs; rw [e, itr_xor, low_free 4 _ z]
 congr 1
 apply BitVec.eq_of_getLsbD_eq
 intro i hi
 rw [BitVec.getLsbD_ushiftRight, BitVec.getLsbD_ushiftRight, BitVec.getLsbD_and]
 by_cases h : 4 + i < 32
 ·have : (~~~ 15#32).getLsbD (4 + i) = true := by
   have all : ∀ j : Fin 28, (~~~ 15#32).getLsbD (4 + j.val) = true := by decide +kernel
   exact all ⟨i, by omega⟩
  rw [this, Bool.and_true]
 ·rw [BitVec.getLsbD_of_ge _ _ (by omega), Bool.false_and]
def bt (b : Bool) : BitVec 32 := if b then 1#32 else 0#32
def r1 (n : BitVec 32) (b : Bool) : BitVec 32 := rr (n ^^^ bt b)
-- YtajiggmeappfaaaGreatDoorPCrcW
def tabAt (i : Nat) : Int := ((it rr 4 (BitVec.ofNat 32 i)).toNat : Int)
def tabTo (n : Nat) : List Int := (List.range 16).map fun j => if j < n then tabAt j else 0
def tabV (n : Nat) : Array Value := (nums .u32 (tabTo n)).toArray
theorem tabV_get (n j : Nat) (hj : j < 16) : (tabV n)[j]? = some (.int .u32 (if j < n then tabAt j else 0)) := by
 unfold tabV tabTo nums
 rw [List.getElem?_toArray, List.getElem?_map, List.getElem?_map, List.getElem?_range hj]; rfl
theorem tabV_set (n : Nat) (h : n < 16) : (tabV n).setIfInBounds n (.int .u32 (tabAt n)) = tabV (n + 1) := by
 apply Array.ext_getElem?
 intro j
 by_cases hj : j < 16
 ·rw [Array.getElem?_setIfInBounds]
  by_cases e : n = j
  ·subst e
   rw [if_pos rfl, if_pos (by show n < (nums .u32 (tabTo n)).toArray.size; simp [nums, tabTo, h]), tabV_get _ _ hj, if_pos (by omega)]
  ·rw [if_neg e, tabV_get _ _ hj, tabV_get _ _ hj]
   by_cases c : j < n
   ·rw [if_pos c, if_pos (by omega)]
   ·rw [if_neg c, if_neg (by omega)]
 ·rw [Array.getElem?_eq_none (by simp [tabV, nums, tabTo]; omega), Array.getElem?_eq_none (by simp [tabV, nums, tabTo]; omega)]
theorem tabV_size : ∀ n, (tabV n).size = 16 := by intro n; simp [tabV, nums, tabTo]
theorem tabV_one (n : Nat) : (tabV n).all (·.oneCell') = true := by
 rw [Array.all_eq_true]
 intro j hj
 simp [tabV, nums, Value.oneCell']
theorem bit0_mod (n : BitVec 32) : n.getLsbD 0 = decide (n.toNat % 2 = 1) := by
 rw [BitVec.getLsbD, Nat.testBit_zero]
theorem rr_go (n : BitVec 32) : Go.bits .xor .u32 ((n.toNat : Int) / 2) (Go.bits .and .u32 3988292384 (-Go.bits .and .u32 (n.toNat : Int) 1 % 4294967296)) = ((rr n).toNat : Int) := by
 have hn := n.isLt
 have e1 : Go.bits .and .u32 (n.toNat : Int) 1 = ((n.toNat % 2 : Nat) : Int) := by
  rw [show (1 : Int) = ((1 : Nat) : Int) from rfl, Go.u32_and_nat _ 1 (by omega) (by decide), Go.nat_mask1]
 have e2 : (n.toNat : Int) / (2 : Int) = ((n >>> 1).toNat : Int) := by rw [BitVec.toNat_ushiftRight, Nat.shiftRight_eq_div_pow]; omega
 rw [e1, e2]
 unfold rr
 by_cases c : n.toNat % 2 = 1
 ·rw [bit0_mod, decide_eq_true c, if_pos rfl, c]
  have e3 : Go.bits .and .u32 3988292384 (-((1 : Nat) : Int) % 4294967296) = ((0xEDB88320#32).toNat : Int) := by decide +kernel
  rw [e3, Go.u32_xor_nat _ _ (by have := (n >>> 1).isLt; omega) (by decide), BitVec.toNat_xor]
 ·rw [bit0_mod, decide_eq_false c, if_neg (by decide), show n.toNat % 2 = 0 by omega]
  have e3 : Go.bits .and .u32 3988292384 (-((0 : Nat) : Int) % 4294967296) = ((0 : Nat) : Int) := by decide +kernel
  rw [e3, Go.u32_xor_nat _ _ (by have := (n >>> 1).isLt; omega) (by decide), Nat.xor_zero]
theorem crc_table_size : (Tryz.prog.info? 142).map (·.size) = some 16 := by kernel_rfl
theorem crc32_build_calls (w : World) : Calls Tryz.prog 56 #[] w fun e w' => e = .returned (.agg (tabV 16)) ∧ Below w.heap.size w w' := by
 go_enter Tryz.func56, Tryz.ntmps56
 go_wp2
 have hu49 := Tryz.underlying142
 have k0 := blk_alloc (blk_new w (.cells #[.int .u32 0, .int .u32 0, .int .u32 0, .int .u32 0, .int .u32 0, .int .u32 0, .int .u32 0, .int .u32 0, .int .u32 0, .int .u32 0, .int .u32 0, .int .u32 0, .int .u32 0, .int .u32 0, .int .u32 0, .int .u32 0] 142)) (.cells #[.int .u32 0, .int .u32 0, .int .u32 0, .int .u32 0, .int .u32 0, .int .u32 0, .int .u32 0, .int .u32 0, .int .u32 0, .int .u32 0, .int .u32 0, .int .u32 0, .int .u32 0, .int .u32 0, .int .u32 0, .int .u32 0] 142)
 have k1 := blk_new (w.alloc (.cells #[.int .u32 0, .int .u32 0, .int .u32 0, .int .u32 0, .int .u32 0, .int .u32 0, .int .u32 0, .int .u32 0, .int .u32 0, .int .u32 0, .int .u32 0, .int .u32 0, .int .u32 0, .int .u32 0, .int .u32 0, .int .u32 0] 142)) (.cells #[.int .u32 0, .int .u32 0, .int .u32 0, .int .u32 0, .int .u32 0, .int .u32 0, .int .u32 0, .int .u32 0, .int .u32 0, .int .u32 0, .int .u32 0, .int .u32 0, .int .u32 0, .int .u32 0, .int .u32 0, .int .u32 0] 142)
 have hB := below_alloc (below_alloc (Below.refl w.heap.size w) (.cells #[.int .u32 0, .int .u32 0, .int .u32 0, .int .u32 0, .int .u32 0, .int .u32 0, .int .u32 0, .int .u32 0, .int .u32 0, .int .u32 0, .int .u32 0, .int .u32 0, .int .u32 0, .int .u32 0, .int .u32 0, .int .u32 0] 142)) (.cells #[.int .u32 0, .int .u32 0, .int .u32 0, .int .u32 0, .int .u32 0, .int .u32 0, .int .u32 0, .int .u32 0, .int .u32 0, .int .u32 0, .int .u32 0, .int .u32 0, .int .u32 0, .int .u32 0, .int .u32 0, .int .u32 0] 142)
 rw [World.size_alloc] at k1
 have K0 := ax k0
 have K1 := ax k1
 have HB := ax hB
 clear k0 k1 hB
 go_loopw [4] (fun v4 wr => ∃ i : Nat, i ≤ 16 ∧ v4 = .int .i64 (i : Int) ∧ Aside0 (wr.heap[w.heap.size]? = some (.cells (tabV 0) 142 (0, 0))) ∧ Aside0 (wr.heap[w.heap.size + 1]? = some (.cells (tabV i) 142 (0, 0))) ∧ Aside0 (Below w.heap.size w wr)) (fun v4 _ => 16 - (intOf v4).toNat)
 case atStart => exact ⟨0, by omega, rfl, K0, K1, HB⟩
 case round =>
  clear K0 K1 HB
  obtain ⟨i, hi, rfl, K0, K1, HB⟩ := hrel
  by_cases h16 : i < 16
  ·have hlt : (i : Int) < 16 := by omega
   have e32 : IntKind.u32.wrap (i : Int) = ((BitVec.ofNat 32 i).toNat : Int) := by rw [IntKind.wrap_u32, BitVec.toNat_ofNat]; omega
   go_wp2
   go_loopw [3, 9] (fun v3 v9 wr2 => ∃ q : Nat, q ≤ 4 ∧ v3 = .int .u32 ((it rr q (BitVec.ofNat 32 i)).toNat : Int) ∧ v9 = .int .i64 (q : Int) ∧ wr2 = wr) (fun _ v9 _ => 4 - (intOf v9).toNat)
   case atStart => exact ⟨0, by omega, by (show _ = Value.int IntKind.u32 ((BitVec.ofNat 32 i).toNat : Int); rw [← e32, IntKind.wrap_u32]), rfl, by first | rfl | trivial⟩
   case round =>
    obtain ⟨q, hq, rfl, rfl, rfl⟩ := hrel
    by_cases h4 : q < 4
    ·have hlt4 : (q : Int) < 4 := by omega
     go_wp2
     go_roundw
     case rel =>
      refine ⟨q + 1, by omega, ?_, by simp, by first | rfl | trivial⟩
      rw [rr_go, it_last rr q]
     case measure => simp [intOf]; omega
    ·obtain rfl : q = 4 := by omega
     have hx := (blk_cell K1.out i).trans (tabV_get i i h16)
     have hf := blk_frozen K1.out i
     go_wp2
     refine ⟨⟨i + 1, by omega, by simp, ⟨blk_far K0.out (by simp) _⟩, ⟨blk_put K1.out i _ (tabV_set i h16)⟩, ⟨HB.out.setCell (p := ⟨w.heap.size + 1, i, none⟩) (by simp) _⟩⟩, by simp [intOf]; omega⟩
  ·obtain rfl : i = 16 := by omega
   go_wp2_with (first | (refine wpList_load_row rfl 142 (.tmp 1) rfl (w.heap.size + 1) rfl 142 (tabV 16) (0, 0) _ K1.out hu49 rfl (crc_table_size.trans (by rw [tabV_size])) ?_) | (refine wpList_store_row rfl 142 (.tmp 0) (.tmp 23) rfl w.heap.size (tabV 16) rfl rfl 142 _ K0.out (crc_table_size.trans (by rw [tabV_size])) (by rw [tabV_size, tabV_size]) (tabV_one 16) ?_))
   refine bodyPost_ret (results_cell_row rfl _ _ w.heap.size 142 (tabV 16) (0, 0) _ rfl (setRow_heap _ _ _ _ _ _ K0.out) hu49 rfl (crc_table_size.trans (by rw [tabV_size]))) rfl ?_
   exact ⟨rfl, below_setRow HB.out (Nat.le_refl _) _⟩
theorem low4 (n : BitVec 32) : n &&& 15#32 = BitVec.ofNat 32 (n.toNat % 16) := by
 apply BitVec.eq_of_toNat_eq
 rw [BitVec.toNat_and, show (15#32).toNat = 2 ^ 4 - 1 from rfl, Nat.and_two_pow_sub_one_eq_mod, BitVec.toNat_ofNat]
 omega
theorem half_go (n : BitVec 32) : Go.bits .xor .u32 ((n.toNat : Int) / 16) (tabAt (n.toNat % 16)) = ((it rr 4 n).toNat : Int) := by
 have e2 : (n.toNat : Int) / (16 : Int) = ((n >>> 4).toNat : Int) := by rw [BitVec.toNat_ushiftRight, Nat.shiftRight_eq_div_pow]; omega
 rw [e2, half n, low4]
 unfold tabAt
 rw [Go.u32_xor_nat _ _ (by have := (n >>> 4).isLt; omega) (by have := (it rr 4 (BitVec.ofNat 32 (n.toNat % 16))).isLt; omega), BitVec.toNat_xor]
theorem not_go (n : BitVec 32) : Go.bits .xor .u32 IntKind.u32.max (n.toNat : Int) = ((~~~ n).toNat : Int) := by
 rw [show IntKind.u32.max = (((BitVec.allOnes 32).toNat : Nat) : Int) from by decide +kernel, Go.u32_xor_nat _ _ (by have := (BitVec.allOnes 32).isLt; omega) (by have := n.isLt; omega), ← BitVec.toNat_xor, BitVec.allOnes_xor]
theorem byte_go (n : BitVec 32) (c : Int) (hc : 0 ≤ c ∧ c ≤ 255) : Go.bits .xor .u32 (n.toNat : Int) c = ((n ^^^ (BitVec.ofInt 8 c).setWidth 32).toNat : Int) := by
 obtain ⟨m, rfl⟩ := Int.eq_ofNat_of_zero_le hc.1
 rw [Go.u32_xor_nat _ _ (by have := n.isLt; omega) (by omega), BitVec.toNat_xor, BitVec.toNat_setWidth, BitVec.ofInt_natCast, BitVec.toNat_ofNat]
 congr 3; omega
theorem crc32_Sum_walk (A0 : Option Addr) (c0 : Nat) (l0 : List Int) (w : World) (hr0 : Kd.C (Kd.int .u8) w A0 l0.length l0) (hc0 : l0.length ≤ c0) (hw : ∀ x ∈ l0, 0 ≤ x ∧ x ≤ 255) (hl : l0.length ≤ 100000) :
  Calls Tryz.prog 28 #[.slice A0 l0.length c0] w fun e w' => e = .returned (.int .u32 ((sum32 l0).toNat : Int)) ∧ Below w.heap.size w w' := by
 have hu49 := Tryz.underlying142
 replace hr0 := ax hr0
 go_enter Tryz.func28, Tryz.ntmps28
 go_wp2_with (first | (go_at_call 56; refine (crc32_build_calls _).mono ?_; rintro e w1 ⟨rfl, HB0⟩; have HB := ax HB0; clear HB0) | ((with_reducible refine gate_dst (N := 3) rfl ?_); refine be_ 3 #[.int .u32 0, .int .u32 0, .int .u32 0, .int .u32 0, .int .u32 0, .int .u32 0, .int .u32 0, .int .u32 0, .int .u32 0, .int .u32 0, .int .u32 0, .int .u32 0, .int .u32 0, .int .u32 0, .int .u32 0, .int .u32 0] 142 ?_; intro g hge w2 hbox0 hb0; have hbox := ax hbox0; have HB1 := ax (below_step HB.out hb0); have hgl := ax (show w.heap.size ≤ g by rw [hge]; exact HB.out.size); clear HB hbox0 hb0 hge) | (refine wpList_store_row rfl 142 (.tmp 3) (.tmp 7) rfl g (tabV 16) rfl rfl 142 _ hbox.out (crc_table_size.trans (by rw [tabV_size])) (by rw [tabV_size]; rfl) (tabV_one 16) ?_; have BK := ax (setRow_heap w2 g _ (tabV 16) _ _ hbox.out); have HB2 := ax (below_setRow HB1.out hgl.out (tabV 16)); clear hbox HB1; obtain ⟨w3, hw3⟩ : ∃ w3, w2.setRow g (tabV 16) = w3 := ⟨_, rfl⟩; rw [hw3] at BK HB2 ⊢; clear hw3))
 go_loopw [4, 10] (fun v4 v10 wr => ∃ i : Nat, i ≤ l0.length ∧ v4 = .int .u32 (((l0.take i).foldl spI 0xFFFFFFFF#32).toNat : Int) ∧ v10 = .int .i64 (i : Int) ∧ wr = w3) (fun _ v10 _ => l0.length - (intOf v10).toNat)
 case atStart => exact ⟨0, by omega, rfl, rfl, by first | rfl | trivial⟩
 case round =>
  obtain ⟨i, hi, rfl, rfl, rfl⟩ := hrel
  by_cases hlt : i < l0.length
  ·have hlt' : (i : Int) < (l0.length : Int) := by omega
   obtain ⟨ad, hA, hcs⟩ := (Kd.C_below hr0.out HB2.out).2.2 (by omega)
   subst hA
   have hx : wr.cell? (ad.add i) = some (.int .u8 l0[i]) := by
    obtain ⟨c, h1, h2, h3⟩ := hcs i _ (List.getElem?_eq_getElem hlt)
    have h2' : c = [Value.int .u8 l0[i]] := h2
    subst h2'
    have h4 := h3 0 _ rfl
    simpa [Kd.int, Kd.scalar] using h4
   clear hcs
   have hc := hw l0[i] (List.getElem_mem hlt)
   have e0 : (l0.take (i + 1)).foldl spI 0xFFFFFFFF#32 = spI ((l0.take i).foldl spI 0xFFFFFFFF#32) l0[i] := by
    rw [take_snoc l0 i hlt, List.foldl_append]; rfl
   have e1 := byte_go ((l0.take i).foldl spI 0xFFFFFFFF#32) l0[i] hc
   have e3 : spI ((l0.take i).foldl spI 0xFFFFFFFF#32) l0[i] = it rr 4 (it rr 4 (((l0.take i).foldl spI 0xFFFFFFFF#32) ^^^ (BitVec.ofInt 8 l0[i]).setWidth 32)) := by
    unfold spI sp; rw [show (8 : Nat) = 4 + 4 from rfl, it_add]
   generalize (l0.take i).foldl spI 0xFFFFFFFF#32 = n at e0 e1 e3 ⊢
   generalize n ^^^ (BitVec.ofInt 8 l0[i]).setWidth 32 = m at e1 e3
   have g1 := half_go m
   obtain ⟨j, hj⟩ : ∃ j, m.toNat % 16 = j := ⟨_, rfl⟩
   have hj16 : j < 16 := by omega
   have hj' : (m.toNat : Int) % 16 = (j : Int) := by omega
   have hj0 : (0 : Int) ≤ (j : Int) := by omega
   have hj1 : (j : Int) < 16 := by omega
   have hy := (blk_cell BK.out j).trans (tabV_get 16 j hj16)
   rw [if_pos hj16] at hy
   rw [hj] at g1
   have g2 := half_go (it rr 4 m)
   generalize it rr 4 m = m2 at e3 g1 g2
   obtain ⟨j2, hj2⟩ : ∃ j, m2.toNat % 16 = j := ⟨_, rfl⟩
   have hj216 : j2 < 16 := by omega
   have hj2' : (m2.toNat : Int) % 16 = (j2 : Int) := by omega
   have hj20 : (0 : Int) ≤ (j2 : Int) := by omega
   have hj21 : (j2 : Int) < 16 := by omega
   have hy2 := (blk_cell BK.out j2).trans (tabV_get 16 j2 hj216)
   rw [if_pos hj216] at hy2
   rw [hj2] at g2
   go_wp2
   exact ⟨⟨i + 1, by omega, by rw [e0, e3], by simp, by first | rfl | trivial⟩, by simp [intOf]; omega⟩
  ·obtain rfl : i = l0.length := by omega
   go_wp2
   go_ret
   refine ⟨?_, HB2.out⟩
   rw [not_go]
   unfold sum32 reg32
   simp
-- YtajiggmeappfaaaGreatDoorP6
section
attribute [local go_sem] max2_int min2_int max_two min_two max_three min_three max_four min_four
def crc32_Sum.f (l0 : List Int) : Option Int := if l0.all (fun x => decide (0 ≤ x ∧ x ≤ 255)) = true ∧ l0.length ≤ 100000 then some ((sum32 l0).toNat : Int) else none
theorem crc32_Sum.calls (A0 : Option Addr) (c0 : Nat) (l0 : List Int) (r : Int) (w : World) (hr0 : Kd.C (Kd.int .u8) w A0 l0.length l0) (hc0 : l0.length ≤ c0) (h : crc32_Sum.f l0 = some r) :
  Calls Tryz.prog 28 #[.slice A0 l0.length c0] w fun e w' => e = .returned (.int .u32 r) ∧ Below w.heap.size w w' := by
 unfold crc32_Sum.f at h
 by_cases hg : l0.all (fun x => decide (0 ≤ x ∧ x ≤ 255)) = true ∧ l0.length ≤ 100000
 ·rw [if_pos hg] at h
  cases h
  exact crc32_Sum_walk A0 c0 l0 w hr0 hc0 (fun x hx => of_decide_eq_true (List.all_eq_true.1 hg.1 x hx)) hg.2
 ·rw [if_neg hg] at h; cases h
end
-- YtajiggmeappfaaaGreatDoorP7
section
attribute [local go_sem] max2_int min2_int max_two min_two max_three min_three max_four min_four
def shuttletop_stands.f : Option Bool := (crc32_Sum.f ([49, 50, 51, 52, 53, 54, 55, 56, 57] : List Int)).bind fun t => some (t == 3421780262)
theorem shuttletop_stands.calls (r : Bool) (w : World) (h : shuttletop_stands.f = some r) :
  Calls Tryz.prog 7 #[] w fun e w' => e = .returned (.bool r) ∧ Below w.heap.size w w' := by
 obtain ⟨t, A1, H⟩ := Option.bind_eq_some_iff.mp h
 have hr := Option.some.inj H
 have A := ax A1
 have HR := ax (const_reads w 5 .u8 [49, 50, 51, 52, 53, 54, 55, 56, 57] #[.int .u8 49, .int .u8 50, .int .u8 51, .int .u8 52, .int .u8 53, .int .u8 54, .int .u8 55, .int .u8 56, .int .u8 57] (9, 10) rfl (by decide))
 have HB := ax (below_alloc (Below.refl w.heap.size w) (.cells #[.int .u8 49, .int .u8 50, .int .u8 51, .int .u8 52, .int .u8 53, .int .u8 54, .int .u8 55, .int .u8 56, .int .u8 57] 5 (9, 10)))
 subst hr
 clear h A1 H
 have kc := fun (w : World) (C : Array Value) (n c : Nat) => Lib.run_convert_bytes_const (P := Tryz.prog) w 37 5 C n c Tryz.underlying37 Tryz.underlying5
 go_enter Tryz.func7, Tryz.ntmps7
 go_wp2_with ((with_reducible refine gate_callee (f := 28) rfl ?_); refine goesL_ (some 3) rfl rfl Tryz.func28 kr rfl #[.slice (some ⟨w.heap.size, 0, none⟩) 9 9] rfl (by (try simp only [List.map_toArray, List.map_cons, List.map_nil]); first | done | rfl) ?_; refine (crc32_Sum.calls _ _ [49, 50, 51, 52, 53, 54, 55, 56, 57] t _ ?side1 ?side2 A.out).mono ?_; (case side1 => exact HR.out); (case side2 => exact Nat.le_refl _); rintro e w' ⟨rfl, hb⟩; refine ⟨_, rfl, ?_⟩)
 go_ret
 exact ⟨rfl, below_step HB.out hb⟩
end
-- YtajiggmeappfaaaGreatDoorPKLaw0
theorem stands_ok : shuttletop_stands.f = some true := by
 unfold shuttletop_stands.f crc32_Sum.f
 rw [if_pos (by decide), Option.bind_some]
 have : ((sum32 [49, 50, 51, 52, 53, 54, 55, 56, 57]).toNat : Int) = 3421780262 := by decide +kernel
 rw [this]; rfl
theorem cut_f (l : List Int) : shuttletop_cut.f l 5 = some (l.take 5) := by
 have h : (mn (l.length : Int) 5).toNat = min l.length 5 := by unfold mn; split <;> omega
 have h0 : 0 ≤ mn (l.length : Int) 5 := by unfold mn; split <;> omega
 have h1 : mn (l.length : Int) 5 ≤ (l.length : Int) := by unfold mn; split <;> omega
 unfold shuttletop_cut.f
 rw [Option.bind_some, if_pos h0, if_pos h1, if_pos (by rw [List.length_take]; show 0 + _ < _; omega), h]
 refine congrArg some ?_
 show [] ++ l.take (min l.length 5) = _
 rw [List.nil_append]
 by_cases c : l.length ≤ 5
 ·rw [show min l.length 5 = l.length by omega, List.take_of_length_le (Nat.le_refl _), List.take_of_length_le c]
 ·rw [show min l.length 5 = 5 by omega]
def fl (v i : Nat) : List Nat := (List.range i).filter fun j => ver (j % 4) (j / 4) == v
def prt (C : List Int) (v i : Nat) : List Int := (fl v i).map fun j => C.getD j 0
theorem prt_succ (C : List Int) (v i : Nat) : prt C v (i + 1) = prt C v i ++ (if ver (i % 4) (i / 4) = v then [C.getD i 0] else []) := by
 unfold prt fl
 rw [List.range_succ, List.filter_append, List.map_append]
 congr 1
 by_cases h : ver (i % 4) (i / 4) = v
 ·rw [if_pos h, List.filter_cons_of_pos (by simpa using h)]; rfl
 ·rw [if_neg h, List.filter_cons_of_neg (by simpa using h)]; rfl
theorem prt_le (C : List Int) (v i : Nat) : (prt C v i).length ≤ i := by
 unfold prt fl
 rw [List.length_map]
 exact Nat.le_trans (List.length_filter_le _ _) (by simp)
theorem plc_lt (v m : Nat) : plc v m < 4 * m + 4 ∧ 4 * m ≤ plc v m ∧ plc v m / 4 = m := by
 have : plc v m < 4 * m + 4 ∧ 4 * m ≤ plc v m := by unfold plc; omega
 exact ⟨this.1, this.2, by omega⟩
theorem plc_ver {v : Nat} (hv : v < 4) (j : Nat) : j = plc v (j / 4) ↔ ver (j % 4) (j / 4) = v := by
 unfold plc ver; omega
theorem prt_four (C : List Int) (v : Nat) (hv : v < 4) : ∀ m, prt C v (4 * m) = (List.range m).map fun t => C.getD (plc v t) 0
 | 0 => rfl
 | m + 1 => by
  have ih := prt_four C v hv m
  have q : ∀ s, s < 4 → (ver ((4 * m + s) % 4) ((4 * m + s) / 4) = v ↔ s = (v + m % 4) % 4) := fun s hs => by
   rw [← plc_ver hv, show (4 * m + s) / 4 = m by omega]; unfold plc; omega
  have q0 := q 0 (by decide); have q1 := q 1 (by decide); have q2 := q 2 (by decide); have q3 := q 3 (by decide)
  rw [List.range_succ, List.map_append, ← ih]
  show prt C v (4 * m + 3 + 1) = _
  rw [prt_succ, prt_succ C v (4 * m + 2), prt_succ C v (4 * m + 1), prt_succ C v (4 * m + 0)]
  simp only [q0, q1, q2, q3]
  have e : plc v m = 4 * m + (v + m % 4) % 4 := rfl
  show _ = prt C v (4 * m) ++ [C.getD (plc v m) 0]
  rw [e]
  generalize hr : (v + m % 4) % 4 = r
  obtain rfl | rfl | rfl | rfl : r = 0 ∨ r = 1 ∨ r = 2 ∨ r = 3 := by omega
  all_goals simp
def vp (C : List Int) (v m : Nat) : List Int := (List.range m).map fun t => C.getD (plc v t) 0
theorem vp_len (C : List Int) (v m : Nat) : (vp C v m).length = m := by simp [vp]
theorem vp_get (C : List Int) (v m t : Nat) (h : t < m) : (vp C v m).getD t 0 = C.getD (plc v t) 0 := by
 unfold vp
 rw [List.getD_eq_getElem?_getD, List.getElem?_map, List.getElem?_range h]; rfl
theorem vp_isb {C : List Int} (hb : ∀ x ∈ C, isb x) (v m : Nat) : ∀ x ∈ vp C v m, isb x := by
 intro x hx
 simp only [vp, List.mem_map] at hx
 obtain ⟨t, _, rfl⟩ := hx
 exact getD_isb hb _
-- YtajiggmeappfaaaGreatDoorPKSplit
def q4 (vs : Nat → Value) : Array Value := #[vs 0, vs 1, vs 2, vs 3]
def up (vs : Nat → Value) (v : Nat) (x : Value) : Nat → Value := fun u => if u = v then x else vs u
theorem q4_get (vs : Nat → Value) {v : Nat} (h : v < 4) : (q4 vs)[v]? = some (vs v) := by
 obtain rfl | rfl | rfl | rfl : v = 0 ∨ v = 1 ∨ v = 2 ∨ v = 3 := by omega
 all_goals rfl
theorem q4_set (vs : Nat → Value) {v : Nat} (h : v < 4) (x : Value) : (q4 vs).setIfInBounds v x = q4 (up vs v x) := by
 obtain rfl | rfl | rfl | rfl : v = 0 ∨ v = 1 ∨ v = 2 ∨ v = 3 := by omega
 all_goals rfl
theorem q4_size : (Tryz.prog.info? 90).map (·.size) = some 4 := by kernel_rfl
theorem R_one {w : World} {base : Nat} {ok : Nat → Prop} {v : Value} {xs : List Int} (h : Kd.R (Kd.int .u8) 5 w base ok v xs) : v.oneCell' = true := by
 obtain ⟨A, c, rfl⟩ := Kd.R_slice h; rfl
theorem q4_one {vs : Nat → Value} (h : ∀ u, u < 4 → (vs u).oneCell' = true) : (q4 vs).all (·.oneCell') = true := by
 simp [q4, h 0 (by decide), h 1 (by decide), h 2 (by decide), h 3 (by decide)]
structure QS (w : World) (base b : Nat) (vs : Nat → Value) (C : List Int) (i : Nat) : Prop where
 box : w.heap[b]? = some (.cells (q4 vs) 90 (0, 0))
 row : ∀ u, u < 4 → Kd.R (Kd.int .u8) 5 w base (fun _ => True) (vs u) (prt C u i)
 apart : ∀ u v, u < 4 → v < 4 → u ≠ v → ∀ k, (vs u).ownBlock = some k → (vs v).ownBlock ≠ some k
theorem QS.below {w w' : World} {base b i : Nat} {vs : Nat → Value} {C : List Int} (h : QS w base b vs C i) (hb : Below w.heap.size w w') : QS w' base b vs C i :=
 ⟨(hb.block b (blk_lt h.box)).trans h.box, fun u hu => Kd.R_below (h.row u hu) hb, h.apart⟩
theorem R_okk {w : World} {base : Nat} {ok ok' : Nat → Prop} {v : Value} {xs : List Int} (h : Kd.R (Kd.int .u8) 5 w base ok v xs) (hk : ∀ k, v.ownBlock = some k → ok' k) : Kd.R (Kd.int .u8) 5 w base ok' v xs := ⟨hk, h.2⟩
theorem QS.put {w w1 : World} {base b i v : Nat} {vs : Nat → Value} {C : List Int} {v1 : Value} {x : Int} (h : QS w base b vs C i) (hv : v < 4) (hi : ver (i % 4) (i / 4) = v) (hx : C.getD i 0 = x) (hr : Kd.R (Kd.int .u8) 5 w1 base (fun _ => True) v1 (prt C v i ++ [x]))
  (hg : w.grownBy w1 (vs v).ownBlock) (hat : v1.ownBlock = (vs v).ownBlock ∨ ∃ k, v1.ownBlock = some k ∧ w.heap.size ≤ k) : QS (w1.setCell ⟨b, v, none⟩ v1) base b (up vs v v1) C (i + 1) := by
 have hb1 := blk_grown h.box hg (Kd.R_ne (h.row v hv) h.box (by decide))
 have hp := Put1.set b v w1 v1
 have e : ∀ u, prt C u (i + 1) = if u = v then prt C v i ++ [x] else prt C u i := fun u => by
  rw [prt_succ, hi, hx]
  by_cases c : v = u
  ·subst c; rw [if_pos rfl, if_pos rfl]
  ·rw [if_neg c, if_neg (Ne.symm c), List.append_nil]
 refine ⟨blk_put hb1 v v1 (q4_set vs hv v1), fun u hu => ?_, fun u u' hu hu' hne k hk => ?_⟩
 ·rw [e u]
  unfold up
  by_cases c : u = v
  ·rw [if_pos c, if_pos c]
   refine Kd.R_mono (ok := fun k => k ≠ b) (Kd.R_step (R_okk hr (ok' := fun k => k ≠ b) (fun k hk e => ?_)) (fun k ok _ => hp.block k ok)) (fun _ _ => trivial)
   subst e
   exact (Kd.R_ne hr hb1 (by decide)) hk.symm
  ·rw [if_neg c, if_neg c]
   have hru := h.row u hu
   have h1 := R_okk hru (ok' := fun k => some k ≠ (vs v).ownBlock ∧ k ≠ b) (fun k hk => ⟨fun e => h.apart u v hu hv c k hk e.symm, fun e => (Kd.R_ne hru h.box (by decide)) (by rw [← e]; exact hk.symm)⟩)
   have h2 := Kd.R_step h1 (fun k ok hk => (hp.block k ok.2).trans (hg.block k hk ok.1))
   exact Kd.R_mono h2 (fun _ _ => trivial)
 ·unfold up at hk ⊢
  have hlt : ∀ u, u < 4 → ∀ k, (vs u).ownBlock = some k → k < w.heap.size := fun u hu k hk => Kd.R_lt (h.row u hu) k hk
  by_cases c : u = v
  ·rw [if_pos c] at hk
   rw [if_neg (fun e => hne (c.trans e.symm))]
   rcases hat with e1 | ⟨j, e1, e2⟩
   ·rw [e1] at hk; exact h.apart v u' hv hu' (fun e => hne (c.trans e)) k hk
   ·rw [e1] at hk; cases hk
    intro e; have := hlt u' hu' _ e; omega
  ·rw [if_neg c] at hk
   by_cases c' : u' = v
   ·rw [if_pos c']
    rcases hat with e1 | ⟨j, e1, e2⟩
    ·rw [e1]; exact h.apart u v hu hv c k hk
    ·rw [e1]; intro e; cases e
     have := hlt u hu _ hk; omega
   ·rw [if_neg c']
    exact h.apart u u' hu hu' hne k hk
theorem ksplit_calls {w : World} {A : Option Addr} {c : Nat} {C : List Int} (hC : Kd.C (Kd.int .u8) w A C.length C) (hc : C.length ≤ c) {m : Nat} (hm : C.length = 4 * m) (hl : m ≤ 1000) (hb : ∀ x ∈ C, isb x) :
  Calls Tryz.prog 115 #[.slice A C.length c] w fun e w' => ∃ vs : Nat → Value, e = .returned (.tuple #[.agg (q4 vs), .int .i64 0]) ∧ (∀ u, u < 4 → Kd.R (Kd.int .u8) 5 w' w.heap.size (fun _ => True) (vs u) (prt C u C.length)) ∧ Below w.heap.size w w' := by
 have HRT := ax (fun w' (hb' : Below w.heap.size w w') => bits_Right.calls 5000 A c C true w' (Kd.C_below hC hb') hc (by
  rw [right_f C (by omega) 5000 (by omega), (big_isb (fun x hx => (isb01 (hb x hx)).1)).2 hb]; rfl))
 have HC := ax hC
 have HM := ax (And.intro hm hl)
 obtain ⟨L, hL⟩ : ∃ L, L = C.length := ⟨_, rfl⟩
 have HL := ax hL
 have hLb : (L : Int) ≤ 4000 := by omega
 have hmod : Int.tmod (L : Int) 4 = 0 := by rw [Int.tmod_eq_emod_of_nonneg (by omega)]; omega
 rw [← hL] at HRT ⊢
 clear hC hc hm hl hb hL
 go_enter Tryz.func115, Tryz.ntmps115
 go_wp2_with (first
  | (go_at_call 136; refine Aside0.out ?_)
  | fail)
 refine ax ?_
 have hba := below_alloc (Below.refl w.heap.size w) (.cells (q4 fun _ => .slice none 0 0) 90)
 have hbb := blk_new w (.cells (q4 fun _ => .slice none 0 0) 90)
 obtain ⟨w1, hw1⟩ : ∃ w1, w1 = w.alloc (.cells (q4 fun _ => .slice none 0 0) 90) := ⟨_, rfl⟩
 obtain ⟨a2, ha2⟩ : ∃ a2, a2 = w.heap.size := ⟨_, rfl⟩
 have HA0 := ax (show w.heap.size ≤ a2 by rw [ha2]; exact Nat.le_refl _)
 rw [← hw1] at hba hbb
 rw [← ha2] at hbb
 show Calls _ _ _ (w.alloc (.cells (q4 fun _ => .slice none 0 0) 90)) _
 rw [← hw1, ← ha2]
 refine (HRT.out w1 hba).mono ?_
 rintro e w2 ⟨rfl, hd⟩
 have HB2 := ax (below_step hba hd.below)
 have HA2 := ax ((hd.below.block a2 (blk_lt hbb)).trans hbb)
 clear hba hbb hd hw1 ha2 HRT
 go_wp2_with fail
 have hba := below_alloc (Below.refl w2.heap.size w2) (.cells (q4 fun _ => .slice none 0 0) 90)
 have hbb := blk_new w2 (.cells (q4 fun _ => .slice none 0 0) 90)
 obtain ⟨w3, hw3⟩ : ∃ w3, w3 = w2.alloc (.cells #[.slice none 0 0, .slice none 0 0, .slice none 0 0, .slice none 0 0] 90) := ⟨_, rfl⟩
 obtain ⟨b4, hb4⟩ : ∃ b4, b4 = w2.heap.size := ⟨_, rfl⟩
 have hba : Below w2.heap.size w2 w3 := by rw [hw3]; exact hba
 have hbb : w3.heap[b4]? = some (.cells (q4 fun _ => .slice none 0 0) 90 (0, 0)) := by rw [hw3, hb4]; exact hbb
 have HBB := ax (show a2 < b4 ∧ w.heap.size ≤ b4 from ⟨by rw [hb4]; exact blk_lt HA2.out, by rw [hb4]; exact HB2.out.size⟩)
 rw [← hw3, ← hb4]
 have HQ3 := ax (show QS w3 w.heap.size b4 (fun _ => .slice none 0 0) C 0 from ⟨hbb, fun u _ => Kd.R_nil _ _ _ _ _, fun u v _ _ _ k hk => by simp [Value.ownBlock] at hk⟩)
 have HB3 := ax (below_step HB2.out hba)
 have HA3 := ax ((hba.block a2 (blk_lt HA2.out)).trans HA2.out)
 clear hba hbb hw3 hb4 HB2 HA2
 go_loopw [22] (fun v22 wr => ∃ (i : Nat) (vs : Nat → Value), v22 = .int .i64 (i : Int) ∧ i ≤ L ∧ Aside0 (QS wr w.heap.size b4 vs C i) ∧ Aside0 (wr.heap[a2]? = some (.cells (q4 fun _ => .slice none 0 0) 90 (0, 0))) ∧ Aside0 (Below w.heap.size w wr)) (fun v22 _ => L - (intOf v22).toNat)
 case atStart => exact ⟨0, _, by simp, by omega, HQ3, HA3, HB3⟩
 case round =>
  clear HQ3 HA3 HB3
  obtain ⟨i, vs, rfl, hi, HQ, HA, HB⟩ := hrel
  by_cases hlt : i < L
  ·have g1 : (i : Int) < (L : Int) := by omega
   have hi0 : (0 : Int) ≤ (i : Int) := by omega
   have HI := ax hlt
   obtain ⟨ad, rfl, hcx0⟩ := ReadsOf.at_ (Kd.reads_of_C (enc := Value.int .u8) (d := (0 : Int)) (h1 := fun _ => rfl) (Kd.C_below HC.out HB.out)) (i : Int) hi0 (by rw [← HL.out]; exact g1)
   rw [Int.toNat_natCast] at hcx0
   obtain ⟨x, hx⟩ : ∃ x, x = C.getD i 0 := ⟨_, rfl⟩
   have hcx : wr.cell? (ad.add i) = some (.int .u8 x) := by
    have e : rdOf 0 C (i : Int) = x := by rw [hx]; rfl
    rw [e] at hcx0; exact hcx0
   obtain ⟨p, hp⟩ : ∃ p : Nat, p = i % 4 := ⟨_, rfl⟩
   obtain ⟨t, ht⟩ : ∃ t : Nat, t = i / 4 := ⟨_, rfl⟩
   have hm1 : Int.tmod (i : Int) 4 = (p : Int) := by rw [Int.tmod_eq_emod_of_nonneg hi0]; omega
   have hm2 : Int.tdiv (i : Int) 4 = (t : Int) := by rw [Int.tdiv_eq_ediv_of_nonneg hi0]; omega
   have hm3 : (i : Int) / 4 = (t : Int) := by omega
   have htb : (t : Int) ≤ 1000 := by omega
   obtain ⟨v, hv⟩ : ∃ v, v = ver p t := ⟨_, rfl⟩
   have hv4 : v < 4 := by rw [hv]; exact ver_lt _ _
   have HVE := ax (show ver (i % 4) (i / 4) = v by rw [hv, hp, ht])
   have HVF := ax (fun w => pattern_Version.calls (p : Int) (t : Int) _ _ w (version_f p t (by omega) (by omega)))
   rw [← hv] at HVF
   have HV4 := ax hv4
   have hv0 : (0 : Int) ≤ (v : Int) := by omega
   have hv5 : (v : Int) < 4 := by omega
   have HX := ax hx
   have HT4 := ax (And.intro hp ht)
   obtain ⟨y, hy⟩ : ∃ y : Int, y = (i : Int) := ⟨_, rfl⟩
   clear hcx0 hx hp ht hv hv4 hlt hi hy
   go_wp2_with (first
    | (go_at_call 157; refine Aside0.out ?_)
    | fail)
   refine ax ?_
   refine (HVF.out wr).mono ?_
   rintro e w4 ⟨rfl, hd⟩
   have HQ4 := ax (HQ.out.below hd.below)
   have HA4 := ax ((hd.below.block a2 (blk_lt HA.out)).trans HA.out)
   have HB4 := ax (below_step HB.out hd.below)
   have hcv : w4.cell? ⟨b4, v, none⟩ = some (vs v) := (blk_cell HQ4.out.box v).trans (q4_get vs HV4.out)
   clear hd HVF hcx hm1 hm2 hm3 HQ HA HB
   go_wp2_with (first
    | ((with_reducible refine gate_builtin (b := .append) (xs := #[.tmp 42, .tmp 44]) rfl ?_); at_builtin; refine Kd.R_append (Kd.int .u8) (w0 := w) w.heap.size rfl (.tmp 42) (.tmp 44) 37 5 (.int .u8 0) 1 rfl Tryz.underlying37 u8_info rfl (by decide) (by decide) (vs v) (prt C v i) x [.int .u8 x] (fun _ => True) (fun _ => False) rfl (by first | rfl | (go_simp; done) | (go_simp; rfl)) rfl (fun _ hk => hk.elim) (fun _ _ => trivial) (HQ4.out.row v HV4.out) HB4.out HB4.out.size (by have := prt_le C v i; have := HI.out; have := HM.out; have := HL.out; omega) ?_; intro v1 w1 ho hb hg hat; obtain ⟨A9, n9, c9, rfl⟩ : ∃ A n c, v1 = .slice A n c := (by obtain ⟨A, c, h⟩ := Kd.R_slice ho; exact ⟨A, _, c, h⟩); have hb1 := blk_grown HQ4.out.box hg (Kd.R_ne (HQ4.out.row v HV4.out) HQ4.out.box (by decide)); have HQ5 := ax (HQ4.out.put HV4.out HVE.out HX.out.symm ho hg hat); have HA5 := ax (blk_grown HA4.out hg (Kd.R_ne (HQ4.out.row v HV4.out) HA4.out (by decide))); have HB5 := ax hb; have hcw : w1.cell? ⟨b4, v, none⟩ = some (vs v) := (blk_cell hb1 v).trans (q4_get vs HV4.out); have hfw := blk_frozen hb1 v; clear ho hb hg hat hb1 HQ4 HA4 HB4 hcv)
    | fail)
   have hpt := Put1.set b4 v w1 (.slice A9 n9 c9)
   exact ⟨⟨i + 1, up vs v (.slice A9 n9 c9), by simp, by have := HI.out; omega, HQ5, ⟨(hpt.block a2 (by have := HBB.out; omega)).trans HA5.out⟩, ⟨HB5.out.trans (hpt.below HBB.out.2)⟩⟩, by
    have hz : ∀ z : Int, intOf (Value.int IntKind.i64 z) = z := fun z => rfl
    have := HI.out
    rw [hz, hz]; omega⟩
  ·obtain rfl : i = L := by omega
   have g1 : ¬ (i : Int) < (i : Int) := by omega
   clear hlt hi
   have hu := Tryz.underlying90
   have hone := q4_one (fun u hu => R_one (HQ.out.row u hu))
   go_wp2_with (first
    | (refine wpList_load_row rfl 90 (.tmp 4) rfl b4 rfl 90 (q4 vs) (0, 0) _ HQ.out.box hu rfl q4_size ?_)
    | (refine wpList_store_row rfl 90 (.tmp 2) (.tmp 48) rfl a2 (q4 vs) rfl rfl 90 _ HA.out q4_size rfl hone ?_)
    | fail)
   refine bodyPost_ret (results_ct rfl _ _ a2 90 (q4 vs) (0, 0) _ rfl (setRow_heap _ _ _ _ _ _ HA.out) hu rfl q4_size) rfl ?_
   have hpr := Put1.row a2 wr (q4 vs)
   refine ⟨vs, rfl, fun u hu => ?_, below_setRow HB.out HA0.out _⟩
   have hru := HQ.out.row u hu
   refine Kd.R_mono (Kd.R_step (R_okk hru (ok' := fun k => k ≠ a2) (fun k hk e => ?_)) (fun k ok _ => hpr.block k ok)) (fun _ _ => trivial)
   subst e
   exact (Kd.R_ne hru HA.out (by decide)) hk.symm
theorem kcode_calls {w : World} (hT : TP w) {A : Option Addr} {c : Nat} {l : List Int} (hl : Kd.C (Kd.int .u8) w A l.length l) (hc : l.length ≤ c) (hb : ∀ x ∈ l, isb x) (hn : l.length ≤ 900) (v : Nat) (hv : v < 4) :
  Calls Tryz.prog 59 #[.slice A l.length c, .int .i64 (v : Int)] w fun e w' => ∃ u, e = .returned (.tuple #[u, .int .i64 0]) ∧ Kd.R (Kd.int .u8) 5 w' w.heap.size (fun _ => True) u (vp (code l) v (l.length + 6)) ∧ Below w.heap.size w w' := by
 have hcl := code_length l
 have hci : ∀ x ∈ code l, isb x := codeN_isb hb _
 have HCC := ax (conv_Code.calls 2000 A c l (code l) 0 w hl hc (Code_f l hb (by omega) 2000 (by omega)) hT)
 have HN := ax (And.intro hcl (And.intro hci hn))
 have HV := ax hv
 have hv0 : (0 : Int) ≤ (v : Int) := by omega
 have hv4 : (v : Int) < 4 := by omega
 have HP := ax (show prt (code l) v (code l).length = vp (code l) v (l.length + 6) by rw [hcl]; exact prt_four _ v hv _)
 obtain ⟨L, hL⟩ : ∃ L, L = l.length := ⟨_, rfl⟩
 rw [← hL] at HCC HP HN ⊢
 clear hl hc hb hn hv hT hcl hci hL
 go_enter Tryz.func59, Tryz.ntmps59
 go_wp2_with (first
  | (go_at_call 114; refine Aside0.out ?_)
  | fail)
 refine ax ?_
 refine HCC.out.mono ?_
 rintro e w1 ⟨u1, rfl, hu, hb⟩
 obtain ⟨A1, c1, rfl⟩ := Kd.R_slice hu
 have HS := ax (ksplit_calls (Kd.R_reads' hu).2.2 (Kd.R_reads' hu).2.1 (m := L + 6) HN.out.1 (by have := HN.out.2.2; omega) HN.out.2.1)
 have HB1 := ax hb
 obtain ⟨K, hK⟩ : ∃ K, K = (code l).length := ⟨_, rfl⟩
 rw [← hK] at HS HP ⊢
 clear hu hb HCC hK
 go_wp2_with (first
  | (go_at_call 115; refine Aside0.out ?_)
  | fail)
 refine ax ?_
 refine HS.out.mono ?_
 rintro e w2 ⟨vs, rfl, hr, hb⟩
 have HR2 := ax hr
 have HB2 := ax (below_step HB1.out hb)
 have HS1 := ax HB1.out.size
 have hone := q4_one (fun u hu => R_one (hr u hu))
 clear hr hb HS HB1
 go_wp2_with (first
  | (refine wpList_store_row rfl 90 (.tmp 8) (.tmp 26) rfl w2.heap.size (q4 vs) rfl rfl 90 _ (blk_new w2 _) q4_size rfl hone ?_; refine Aside0.out ?_)
  | fail)
 refine ax ?_
 have hba := below_alloc (Below.refl w2.heap.size w2) (.cells #[.slice none 0 0, .slice none 0 0, .slice none 0 0, .slice none 0 0] 90)
 have hbb := setRow_heap (w2.alloc (.cells #[.slice none 0 0, .slice none 0 0, .slice none 0 0, .slice none 0 0] 90)) w2.heap.size _ (q4 vs) _ _ (blk_new w2 (.cells #[.slice none 0 0, .slice none 0 0, .slice none 0 0, .slice none 0 0] 90))
 have hbs := below_setRow hba (Nat.le_refl _) (q4 vs)
 obtain ⟨b8, hb8⟩ : ∃ b, b = w2.heap.size := ⟨_, rfl⟩
 obtain ⟨w3, hw3⟩ : ∃ w3, w3 = (w2.alloc (.cells #[.slice none 0 0, .slice none 0 0, .slice none 0 0, .slice none 0 0] 90)).setRow w2.heap.size (q4 vs) := ⟨_, rfl⟩
 rw [← hw3] at hbs hbb ⊢
 rw [← hb8] at hbb ⊢
 have hcv : w3.cell? ⟨b8, v, none⟩ = some (vs v) := (blk_cell hbb v).trans (q4_get vs HV.out)
 have HR3 := ax (Kd.R_lower (Kd.R_below (HR2.out v HV.out) hbs) HS1.out)
 have HB3 := ax (below_step HB2.out hbs)
 clear hba hbb hbs hb8 hw3 HR2 HB2 hone
 go_wp2_with fail
 have hrs : (Tryz.f59).results = #[.tmp 4, .tmp 5] := by kernel_rfl
 refine bodyPost_ret (results_tmp2 hrs _ _ _) rfl ?_
 exact ⟨vs v, rfl, by rw [← HP.out]; exact HR3.out, HB3.out⟩
-- YtajiggmeappfaaaGreatDoorPKSum
structure Sum (l : List Int) (W : Nat → Int) (T B : Nat) (σ : List Int) : Prop where
 tau : ∃ τ : Nat → Int, (∀ j, 0 ≤ τ j) ∧ tsum τ (4 * (l.length + 6)) ≤ (T : Int) ∧ ∀ j, j < 4 * (l.length + 6) → σ.getD j 0 = so ((code l).getD j 0) * (W (ver (j % 4) (j / 4)) - 2 * τ j)
 bnd : ∀ j, -(B : Int) ≤ σ.getD j 0 ∧ σ.getD j 0 ≤ (B : Int)
 len : σ.length = 4 * (l.length + 6)
theorem tsum_zero : ∀ k, tsum (fun _ => 0) k = 0
 | 0 => rfl
 | k + 1 => by unfold tsum; rw [tsum_zero k]; rfl
theorem rep_getD (m j : Nat) : (List.replicate m (0 : Int)).getD j 0 = 0 := by
 rw [List.getD_eq_getElem?_getD, List.getElem?_replicate]
 split <;> rfl
theorem Sum.zero (l : List Int) : Sum l (fun _ => 0) 0 0 (List.replicate (4 * (l.length + 6)) 0) := by
 refine ⟨⟨fun _ => 0, fun _ => Int.le_refl _, by rw [tsum_zero]; exact Int.le_refl _, fun j hj => ?_⟩, fun j => by rw [rep_getD]; omega, by rw [List.length_replicate]⟩
 rw [rep_getD]; simp
theorem Sum.of {l : List Int} {W W' : Nat → Int} {T B : Nat} {σ : List Int} (h : Sum l W T B σ) (hW : ∀ u, u < 4 → W' u = W u) : Sum l W' T B σ := by
 obtain ⟨⟨τ, h1, h2, h3⟩, h4, h5⟩ := h
 exact ⟨⟨τ, h1, h2, fun j hj => by rw [h3 j hj, hW _ (ver_lt _ _)]⟩, h4, h5⟩
theorem toI_inp {l : List Int} (hl : ∀ x ∈ l, isb x) : toI ((inp l 0 (l.length + 6)).take l.length) = l := by
 apply List.ext_getElem?
 intro j
 unfold toI
 rw [List.getElem?_map, List.getElem?_take]
 by_cases h : j < l.length
 ·rw [if_pos h, inp_get _ _ _ _ (by omega), inN_at, Nat.zero_add, List.getD_eq_getElem?_getD, List.getElem?_eq_getElem h]
  have := isb01 (hl _ (List.getElem_mem h))
  show some ((l[j].toNat : Nat) : Int) = _
  refine congrArg some ?_
  omega
 ·rw [if_neg h, List.getElem?_eq_none (by omega)]; rfl
-- YtajiggmeappfaaaGreatDoorPKAlone
theorem first_of {p : Nat → Prop} (n : Nat) : p n → ∃ m, m ≤ n ∧ p m ∧ ∀ j, j < m → ¬ p j := by
 induction n using Nat.strongRecOn with
 | ind n ih =>
  intro h
  by_cases c : ∃ j, j < n ∧ p j
  ·obtain ⟨j, hj, hp⟩ := c
   obtain ⟨m, h1, h2, h3⟩ := ih j hj hp
   exact ⟨m, by omega, h2, h3⟩
  ·exact ⟨n, Nat.le_refl _, h, fun j hj hp => c ⟨j, hj, hp⟩⟩
theorem wcode_hit {W : Nat → Int} (hW : ∀ v, v < 4 → 0 ≤ W v ∧ W v ≤ 7) {X : List Int} (hX : ∀ x ∈ X, isb x) {p : Nat} (h1 : X.getD p 0 = 1) (h2 : W (ver (p % 4) (p / 4)) = 1) : ∀ i, p < i → 1 ≤ wcode W X i
 | 0, h => absurd h (by omega)
 | i + 1, h => by
  show 1 ≤ wcode W X i + X.getD i 0 * W (ver (i % 4) (i / 4))
  by_cases e : i = p
  ·rw [e, h1, h2]
   have := (wcode_in hW hX p).1
   omega
  ·have ih := wcode_hit hW hX h1 h2 i (by omega)
   have hv := hW _ (ver_lt (i % 4) (i / 4))
   rcases getD_isb hX i with e | e <;> rw [e] <;> omega
theorem ob_first : ∀ s : Fin 4, ob 0 1 s.val = 1 := by decide
theorem holds1 {v : Nat} (hv : v < 4) {a b X : List Int} (ha : ∀ x ∈ a, isb x) (hb : ∀ x ∈ b, isb x) (hl : b.length = a.length) (hne : a ≠ b)
  (hXl : X.length = 4 * (a.length + 6)) (hX : ∀ i, i < 4 * (a.length + 6) → X.getD i 0 = Go.bits .xor .u8 ((code a).getD i 0) ((code b).getD i 0)) :
  1 ≤ wcode (fun u => if u = v then 1 else 0) X (4 * (a.length + 6)) := by
 obtain ⟨n, hn⟩ : ∃ n, n = a.length := ⟨_, rfl⟩
 have ta : a.take n = a := List.take_of_length_le (by omega)
 have tb : b.take n = b := List.take_of_length_le (by omega)
 have hz := zx_isb ha hb n
 have hX2 : ∀ t s, t < n + 6 → s < 4 → X.getD (4 * t + s) 0 = bitB (lb (zx a b n) t) s 7 := fun t s ht hs => by
  rw [hX _ (by omega), bit_zx ha hb, ta, tb]
  unfold code
  rw [codeN_getD _ t s hs _ (by omega), codeN_getD _ t s hs _ (by omega)]
 have hXb : ∀ x ∈ X, isb x := fun x hx => by
  obtain ⟨i, hi, rfl⟩ := List.getElem_of_mem hx
  have e : X[i] = X.getD i 0 := by rw [List.getD_eq_getElem?_getD, List.getElem?_eq_getElem hi]; rfl
  have h := hX2 (i / 4) (i % 4) (by omega) (by omega)
  rw [show 4 * (i / 4) + i % 4 = i by omega] at h
  rw [e, h]
  exact bitB_isb (lb_isb hz _) _ _
 have hex : ∃ t, t < n ∧ (zx a b n).getD t 0 ≠ 0 := by
  refine Classical.byContradiction fun hno => hne (List.ext_getElem? fun j => ?_)
  by_cases c : j < n
  ·have h : (zx a b n).getD j 0 = 0 := Classical.byContradiction fun h => hno ⟨j, c, h⟩
   rw [zx_getD, ta, tb] at h
   have h1 := getD_isb ha j
   have h2 := getD_isb hb j
   have e : a.getD j 0 = b.getD j 0 := by
    rcases h1 with e1 | e1 <;> rcases h2 with e2 | e2 <;> rw [e1, e2] at h ⊢
    ·exact absurd h (by decide +kernel)
    ·exact absurd h (by decide +kernel)
   rw [List.getD_eq_getElem?_getD, List.getD_eq_getElem?_getD, List.getElem?_eq_getElem (by omega), List.getElem?_eq_getElem (by omega)] at e
   rw [List.getElem?_eq_getElem (by omega), List.getElem?_eq_getElem (by omega)]
   exact congrArg some e
  ·rw [List.getElem?_eq_none (by omega), List.getElem?_eq_none (by omega)]
 obtain ⟨t0, ht0, hp0⟩ := hex
 obtain ⟨t, ht, hp, hq⟩ := first_of (p := fun t => (zx a b n).getD t 0 ≠ 0) t0 hp0
 have hzero : ∀ j, j < t → (zx a b n).getD j 0 = 0 := fun j hj => Classical.byContradiction fun h => hq j hj h
 have h1 : lb (zx a b n) t 0 = 1 := by
  rw [lb_zero]
  rcases getD_isb hz t with e | e
  ·exact absurd e hp
  ·exact e
 have hk : ∀ k, 1 ≤ k → lb (zx a b n) t k = 0 := fun k hk => by
  unfold lb
  split
  ·exact hzero _ (by omega)
  ·rfl
 have hs : sd (lb (zx a b n) t) = 0 := by
  unfold sd
  rw [hk 1 (by decide), hk 2 (by decide), hk 3 (by decide), hk 4 (by decide), hk 5 (by decide), hk 6 (by decide)]; rfl
 have hone : ∀ s, s < 4 → X.getD (4 * t + s) 0 = 1 := fun s hs4 => by
  rw [hX2 t s (by omega) hs4, ← ob_wd (lb_isb hz t) s hs4, hs, h1]
  exact ob_first ⟨s, hs4⟩
 have hs4 : (v + t % 4) % 4 < 4 := Nat.mod_lt _ (by decide)
 have hpd : plc v t = 4 * t + (v + t % 4) % 4 := rfl
 have hver : ver (plc v t % 4) (plc v t / 4) = v := (plc_ver hv (plc v t)).1 (by rw [(plc_lt v t).2.2])
 refine wcode_hit (fun u _ => by split <;> omega) hXb (p := plc v t) (by rw [hpd]; exact hone _ hs4) (by rw [hver, if_pos rfl]) _ (by have := plc_lt v t; omega)
theorem alone1 {l : List Int} (hl : ∀ x ∈ l, isb x) {v : Nat} (hv : v < 4) {g : Nat → Int} (hg : ∀ j, j < 4 * (l.length + 6) → g j = so ((code l).getD j 0) * (if ver (j % 4) (j / 4) = v then 1 else 0)) : Alone g (l.length + 6) l.length (inp l 0 (l.length + 6)) := by
 have hs := sc_inp g hl (l.length + 6) 0 (by omega)
 rw [stN_zero, Nat.zero_add] at hs
 refine ⟨inp_len _ _ _, okr_inp _ hl rfl _ _, by rw [hs.2]; exact stN_end, fun u u1 u2 u3 u4 => ?_⟩
 obtain ⟨z, z1, z2, rfl⟩ := okr_inp_of u1 u2
 have hz := sc_inp g z2 (l.length + 6) 0 (by omega)
 rw [stN_zero, Nat.zero_add] at hz
 rw [hs.1, hz.1]
 have hci : ∀ {q : List Int}, (∀ x ∈ q, isb x) → ∀ j, isb ((code q).getD j 0) := fun hq j => getD_isb (codeN_isb hq _) j
 obtain ⟨X, hX⟩ : ∃ X : List Int, X = (List.range (4 * (l.length + 6))).map fun j => Go.bits .xor .u8 ((code l).getD j 0) ((code z).getD j 0) := ⟨_, rfl⟩
 have hXl : X.length = 4 * (l.length + 6) := by rw [hX]; simp
 have hXv : ∀ j, j < 4 * (l.length + 6) → X.getD j 0 = Go.bits .xor .u8 ((code l).getD j 0) ((code z).getD j 0) := fun j hj => by
  rw [hX, List.getD_eq_getElem?_getD, List.getElem?_map, List.getElem?_range hj]; rfl
 have hne : l ≠ z := fun e => u4 (by rw [e, z1])
 have hh := holds1 hv hl z2 z1 hne hXl hXv
 have hd := score_diff (g := g) (W := fun u => if u = v then 1 else 0) (τ := fun _ => 0) (hci hl) (hci z2) (fun _ => Int.le_refl _) (4 * (l.length + 6)) (fun j hj => by rw [hg j hj]; simp) hXv
 rw [tsum_zero] at hd
 simp only [Nat.mul_zero, scode]
 omega
theorem alone_clean {l : List Int} (hl : ∀ x ∈ l, isb x) {v : Nat} (hv : v < 4) {P : List Int} (hP : ∀ t, t < l.length + 6 → P.getD t 0 = (code l).getD (plc v t) 0) :
  Alone (fun j => (adK (List.replicate (4 * (l.length + 6)) 0) v P (l.length + 6)).getD j 0) (l.length + 6) l.length (inp l 0 (l.length + 6)) ∧ ∀ j, -1 ≤ (adK (List.replicate (4 * (l.length + 6)) 0) v P (l.length + 6)).getD j 0 ∧ (adK (List.replicate (4 * (l.length + 6)) 0) v P (l.length + 6)).getD j 0 ≤ 1 := by
 refine ⟨alone1 hl hv fun j hj => ?_, fun j => ?_⟩
 ·show (adK (List.replicate (4 * (l.length + 6)) 0) v P (l.length + 6)).getD j 0 = _
  rw [adK_get _ v P j _ (by rw [List.length_replicate]; omega), rep_getD]
  by_cases c : ver (j % 4) (j / 4) = v
  ·rw [if_pos ⟨by omega, (plc_ver hv j).2 c⟩, if_pos c, hP _ (by omega), ← (plc_ver hv j).2 c]; omega
  ·rw [if_neg (fun h => c ((plc_ver hv j).1 h.2)), if_neg c]; omega
 ·rw [adK_get _ v P j _ (by rw [List.length_replicate]; omega), rep_getD]
  have := so_pm (P.getD (j / 4) 0)
  split <;> omega
-- YtajiggmeappfaaaGreatDoorPAkTake
structure PP (w : World) (lo gr g : Nat) (v : Value) (xs : List Int) : Prop where
 box : w.heap[g]? = some (.cells #[.pointer (some ⟨gr, 0, none⟩), .nilIface] 162 (0, 0))
 rd : RS w lo gr v xs
 low : lo ≤ gr
 lt : gr < g
theorem PP.size {w : World} {lo gr g : Nat} {v : Value} {xs : List Int} (h : PP w lo gr g v xs) : g < w.heap.size := blk_lt h.box
theorem PP.step {w w' : World} {lo gr g : Nat} {v v' : Value} {xs xs' : List Int} (h : PP w lo gr g v xs) (hr : RS w' lo gr v' xs') (hf : Fg gr w w') : PP w' lo gr g v' xs' :=
 ⟨(hf.at g h.size (by have := h.lt; omega)).trans h.box, hr, h.low, h.lt⟩
theorem PP.below {w w' : World} {lo gr g : Nat} {v : Value} {xs : List Int} (h : PP w lo gr g v xs) (hb : Below w.heap.size w w') : PP w' lo gr g v xs :=
 h.step (h.rd.below hb h.low) (Fg.of_below hb)
theorem ptake_calls {w : World} {lo gr g : Nat} {v : Value} {xs : List Int} (h : PP w lo gr g v xs) (s : ByteArray) (wide : Int) (hE : tkE xs wide = 0) :
  Calls Tryz.prog 71 #[.pointer (some ⟨g, 0, none⟩), .string s, .int .i64 wide] w fun e w' => e = .returned (.int .i64 (tkN xs wide)) ∧ (∃ v', PP w' lo gr g v' (tkL xs wide)) ∧ Fg gr w w' := by
 have hc0 := blk_cell h.box 0
 have hc1 := blk_cell h.box 1
 go_enter Tryz.func71, Tryz.ntmps71
 go_wp2_with (first
  | (go_at_call 123; refine (bitioTake_calls lo gr v xs wide w h.rd h.low).mono ?_; rintro e w1 ⟨rfl, ⟨v', hv⟩, hf⟩; rw [hE])
  | fail)
 go_ret
 exact ⟨by simp, ⟨v', h.step hv hf⟩, hf⟩
theorem pneed_calls {w : World} {lo gr g : Nat} {v : Value} {xs : List Int} (h : PP w lo gr g v xs) (s : ByteArray) (e : Int) :
  Calls Tryz.prog 73 #[.pointer (some ⟨g, 0, none⟩), .bool true, .string s, .int .i64 e] w fun e w' => e = .returned (.tuple #[]) ∧ Below w.heap.size w w' := by
 have hc0 := blk_cell h.box 0
 have hc1 := blk_cell h.box 1
 go_enter Tryz.func73, Tryz.ntmps73
 go_wp2_with fail
 refine bodyPost_end (results_none rfl _ _ _) rfl ?_
 exact ⟨by simp, Below.refl _ _⟩
theorem told_nil (w : World) : Calls Tryz.prog 36 #[.nilIface] w fun e w' => e = .returned (.int .i64 0) ∧ Below w.heap.size w w' := by
 go_enter Tryz.func36, Tryz.ntmps36
 go_wp2_with fail
 go_ret
 exact ⟨by simp, below_alloc (Below.refl _ _) _⟩
-- YtajiggmeappfaaaGreatDoorP10
section
attribute [local go_sem] max2_int min2_int max_two min_two max_three min_three max_four min_four
def slices_Clone_byte_byte.f (l0 : List Int) : Option (List Int) := if l0.length < 140737488355328 then some l0 else none
theorem slices_Clone_byte_byte.calls (A0 : Option Addr) (c0 : Nat) (l0 : List Int) (r : List Int) (w : World) (hr0 : Kd.C (Kd.int .u8) w A0 l0.length l0) (hc0 : l0.length ≤ c0) (h : slices_Clone_byte_byte.f l0 = some r) :
  Calls Tryz.prog 112 #[.slice A0 l0.length c0] w fun e w' => ∃ v0_ : Value, e = .returned (v0_) ∧ Kd.R (Kd.int .u8) 5 w' w.heap.size (fun _ => True) v0_ r ∧ Below w.heap.size w w' := by
 have HR0 := ax hr0
 have HC0 := ax hc0
 have HB := ax (Below.refl w.heap.size w)
 unfold slices_Clone_byte_byte.f at h
 by_cases c3 : l0.length < 140737488355328
 ·rw [if_pos c3] at h
  obtain rfl := Option.some.inj h
  clear h
  cases A0 with
  | none =>
   have hl : l0 = [] := nil_of_none hr0
   subst hl
   have heq := fun wx => Lib.run_eql_slice_nil (P := Tryz.prog) wx 37 5 none 0 c0 0 0 Tryz.underlying37
   clear hr0 hc0
   go_enter Tryz.func112, Tryz.ntmps112
   go_wp2
   go_ret
   exact ⟨_, rfl, Kd.R_nil _ _ _ _ _, HB.out⟩
  | some a =>
   obtain ⟨y1, hy1⟩ : ∃ y_ : List Int, y_ = (([] : List Int)) := ⟨_, rfl⟩
   have Ny1 := ax hy1
   have hr : l0 = y1 ++ l0 := by rw [hy1]; rfl
   have Nr := ax hr
   have LM := ax c3
   have hlen : y1.length = 0 := by rw [hy1]; rfl
   have NL := ax hlen
   have heq := fun wx => Lib.run_eql_slice_nil (P := Tryz.prog) wx 37 5 (some a) l0.length c0 0 0 Tryz.underlying37
   clear hr0 hc0 hy1 hr c3 hlen
   go_enter Tryz.func112, Tryz.ntmps112
   go_wp2_with (first | ((with_reducible refine gate_dst (N := 5) rfl ?_); refine Kd.R_lit (Kd.int .u8) _ 5 ?hg (N := 5) ?hd (xs := ([] : List Int)) (inner := []) (ok := fun _ => True) (okp := fun _ => True) ?hr ?hp (fun _ hk => hk) trivial (Below.refl _ _) (Nat.le_refl _) (by simp) ?_; (case hd => rfl); (case hg => rfl); (case hr => first | (go_simp; done) | (go_simp; rfl)); (case hp => exact (Reps.none _ _)); intro v1 w5 ho6 hb hg_ hnew_; clear hg_ hnew_; rw [← Ny1.out] at ho6; have n0_ := ax (Kd.R_lower ho6 (below_size bl_)); have n1_ := ax (below_step bl_ hb); clear HB; have HO1 := n0_; have HB := n1_; clear n0_ n1_; clear hb ho6) | ((with_reducible refine gate_builtin (b := .append) (xs := #[.tmp 5, .tmp 6]) rfl ?_); at_builtin; refine Kd.R_append_rows (Kd.int .u8) (w0 := w) w.heap.size rfl (.tmp 5) (.tmp 6) 37 5 (.int .u8 0) 1 rfl Tryz.underlying37 info5 rfl (by decide) (by omega) v1 y1 l0 _ _ _ (fun _ => True) (fun _ => False) rfl rfl ?aO ?aR (fun _ _ h => h) (fun _ h => h.elim) ?aF ?aB ?aS ?aL ?_; (case aR => repeat (first | exact (Kd.C_below HR0.out HB.out) | (with_reducible refine Kd.C_alloc ?_ _) | (with_reducible refine Kd.C_drewN ?_ _) | (with_reducible refine Kd.C_drew ?_))); (case aB => exact bl_); (case aF => exact (fun _ _ => trivial)); (case aO => exact (kR_ HO1.out)); (case aS => exact (below_size bl_)); (case aL => have := LM.out; have := NL.out; omega); intro v114 w7 ho hb hg hat; rw [← Nr.out] at ho; have n0_ := ax (hb); have n1_ := ax (ho); clear HB; clear HO1; have HB := n0_; have HO115 := n1_; clear n0_ n1_; clear ho hb hg hat))
   go_ret
   exact ⟨_, rfl, HO115.out, HB.out⟩
 ·rw [if_neg c3] at h
  exact absurd h (by simp)
end
-- YtajiggmeappfaaaGreatDoorP71
section
attribute [local go_sem] max2_int min2_int max_two min_two max_three min_three max_four min_four
def crc16_step.l0 : Nat → Int → Int → Option (Int)
 | 0, _, _ => none
 | k + 1, x0, x11 => if x11 < 8 then (if (Go.bits .and .u16 x0 32768) = 0 then (crc16_step.l0 k (IntKind.u16.wrap (x0 * 2)) (wrap64 (x11 + 1))) else (crc16_step.l0 k (Go.bits .xor .u16 (IntKind.u16.wrap (x0 * 2)) 4129) (wrap64 (x11 + 1)))) else (some x0)
def crc16_step.f (k : Nat) (a0 : Int) (a1 : Int) : Option (Int) := crc16_step.l0 k (Go.bits .xor .u16 a0 (IntKind.u16.wrap ((IntKind.u16.wrap (a1)) * 256))) 0
theorem crc16_step.mono_l : ∀ k, (∀ y0 y1, LeO (crc16_step.l0 k y0 y1) (crc16_step.l0 (k + 1) y0 y1))
 | 0 => fun _ _ r h => by simp [crc16_step.l0] at h
 | k + 1 => by
  have ih0 := crc16_step.mono_l k
  ·intro y0 y1
   unfold crc16_step.l0
   repeat' first
   | (with_reducible exact ih0 _ _)
   | (with_reducible exact LeO.refl _)
   | (with_reducible exact LeO.none _)
   | (with_reducible refine LeO.ite ?_ ?_)
   | (with_reducible refine LeO.bind ?_ (fun _ => ?_))
   | exact ih0 _ _
   | exact LeO.none _
   | refine LeO.ite ?_ ?_
   | refine LeO.bind ?_ (fun _ => ?_)
theorem crc16_step.mono : ∀ a0 a1 k, LeO (crc16_step.f k a0 a1) (crc16_step.f (k + 1) a0 a1) := by
 intro a0 a1 k
 have ih0 := crc16_step.mono_l k
 unfold crc16_step.f
 repeat' first
   | (with_reducible exact ih0 _ _)
   | (with_reducible exact LeO.refl _)
   | (with_reducible exact LeO.none _)
   | (with_reducible refine LeO.ite ?_ ?_)
   | (with_reducible refine LeO.bind ?_ (fun _ => ?_))
   | exact ih0 _ _
   | exact LeO.none _
   | refine LeO.ite ?_ ?_
   | refine LeO.bind ?_ (fun _ => ?_)
theorem crc16_step.calls (k : Nat) (a0 : Int) (a1 : Int) (r : Int) (w : World) (h : crc16_step.f k a0 a1 = some r) :
  Calls Tryz.prog 175 #[.int .u16 a0, .int .u8 a1] w fun e w' => e = .returned (.int .u16 r) ∧ Drawn0 w w' := by
 have H : (crc16_step.l0 k (Go.bits .xor .u16 a0 (IntKind.u16.wrap ((IntKind.u16.wrap (a1)) * 256))) 0) = some r := h
 clear h
 have H' := ax H
 clear H
 go_enter Tryz.func175, Tryz.ntmps175
 go_wp2
 go_loopg [0, 11] k (fun kq v0 v11 w' => ∃ (x0_1 : Int) (x11_1 : Int), v0 = .int .u16 x0_1 ∧ v11 = .int .i64 x11_1 ∧ Aside0 (crc16_step.l0 kq x0_1 x11_1 = some r) ∧ Aside0 (kq ≤ k) ∧ Drawn0 w w')
 case atStart => exact ⟨(Go.bits .xor .u16 a0 (IntKind.u16.wrap ((IntKind.u16.wrap (a1)) * 256))), (0), rs_, rs_, H', ⟨Nat.le_refl _⟩, dr_⟩
 case round =>
  clear H'
  try clear c1
  try clear p2
  obtain ⟨x0_1, x11_1, rfl, rfl, HA, HK1, ⟨m1, rfl⟩⟩ := hrel
  cases gk with
  | zero => exact absurd HA.out (by simp [crc16_step.l0])
  | succ k1 =>
   have H := HA.out
   clear HA
   simp only [crc16_step.l0] at H
   by_cases c3 : x11_1 < 8
   ·rw [if_pos c3] at H
    have c3b0 : decide (x11_1 < 8) = true := decide_eq_true c3
    clear c3
    by_cases c4 : (Go.bits .and .u16 x0_1 32768) = 0
    ·rw [if_pos c4] at H
     have c4b0 : ((Go.bits .and .u16 x0_1 32768) == 0) = true := beq_iff_eq.mpr c4
     have c4b1 : ((Go.bits .and .u16 x0_1 32768) != 0) = false := bne_eq_false_iff_eq.mpr c4
     clear c4
     have H' := ax H
     clear H
     go_wp2
     go_roundg k1
     case measure => have := HK1.out; omega
     case rel => exact ⟨(IntKind.u16.wrap (x0_1 * 2)), (wrap64 (x11_1 + 1)), rs_, rs_, H', ⟨by have := HK1.out; omega⟩, dr_⟩
    ·rw [if_neg c4] at H
     have c4b0 : ((Go.bits .and .u16 x0_1 32768) == 0) = false := beq_eq_false_iff_ne.mpr c4
     have c4b1 : ((Go.bits .and .u16 x0_1 32768) != 0) = true := bne_iff_ne.mpr c4
     have H' := ax H
     clear H
     go_wp2
     go_roundg k1
     case measure => have := HK1.out; omega
     case rel => exact ⟨(Go.bits .xor .u16 (IntKind.u16.wrap (x0_1 * 2)) 4129), (wrap64 (x11_1 + 1)), rs_, rs_, H', ⟨by have := HK1.out; omega⟩, dr_⟩
   ·rw [if_neg c3] at H
    have c3b0 : decide (x11_1 < 8) = false := decide_eq_false c3
    clear c3
    obtain rfl := Option.some.inj H
    go_wp2
    go_ret
    exact ⟨rs_, dr_⟩
end
-- YtajiggmeappfaaaGreatDoorP72
section
attribute [local go_sem] max2_int min2_int max_two min_two max_three min_three max_four min_four
def crc16_Sum.l0 : Nat → Int → List Int → Int → Int → Option (Int)
 | 0, _, _, _, _ => none
 | k + 1, x3, x6, x7, x8 => if x8 < x7 then (if 0 ≤ x8 then (if x8 < (x6.length : Int) then ((crc16_step.f k x3 (rd x6 x8)).bind fun t337 => (crc16_Sum.l0 k t337 x6 x7 (wrap64 (x8 + 1)))) else (none)) else (none)) else (some x3)
def crc16_Sum.f (k : Nat) (l0 : List Int) : Option (Int) := crc16_Sum.l0 k 65535 l0 (l0.length : Int) 0
theorem crc16_Sum.mono_l : ∀ k, (∀ y0 y1 y2 y3, LeO (crc16_Sum.l0 k y0 y1 y2 y3) (crc16_Sum.l0 (k + 1) y0 y1 y2 y3))
 | 0 => fun _ _ _ _ r h => by simp [crc16_Sum.l0] at h
 | k + 1 => by
  have ih0 := crc16_Sum.mono_l k
  ·intro y0 y1 y2 y3
   unfold crc16_Sum.l0
   repeat' first
   | (with_reducible exact ih0 _ _ _ _)
   | (with_reducible exact crc16_step.mono _ _ _)
   | (with_reducible exact LeO.refl _)
   | (with_reducible exact LeO.none _)
   | (with_reducible refine LeO.ite ?_ ?_)
   | (with_reducible refine LeO.bind ?_ (fun _ => ?_))
   | exact ih0 _ _ _ _
   | exact crc16_step.mono _ _ _
   | exact LeO.none _
   | refine LeO.ite ?_ ?_
   | refine LeO.bind ?_ (fun _ => ?_)
theorem crc16_Sum.mono : ∀ a0 k, LeO (crc16_Sum.f k a0) (crc16_Sum.f (k + 1) a0) := by
 intro a0 k
 have ih0 := crc16_Sum.mono_l k
 unfold crc16_Sum.f
 repeat' first
   | (with_reducible exact ih0 _ _ _ _)
   | (with_reducible exact crc16_step.mono _ _ _)
   | (with_reducible exact LeO.refl _)
   | (with_reducible exact LeO.none _)
   | (with_reducible refine LeO.ite ?_ ?_)
   | (with_reducible refine LeO.bind ?_ (fun _ => ?_))
   | exact ih0 _ _ _ _
   | exact crc16_step.mono _ _ _
   | exact LeO.none _
   | refine LeO.ite ?_ ?_
   | refine LeO.bind ?_ (fun _ => ?_)
theorem crc16_Sum.calls (k : Nat) (A0 : Option Addr) (c0 : Nat) (l0 : List Int) (r : Int) (w : World) (hr0 : Kd.C (Kd.int .u8) w A0 l0.length l0) (hc0 : l0.length ≤ c0) (h : crc16_Sum.f k l0 = some r) :
  Calls Tryz.prog 124 #[.slice A0 l0.length c0] w fun e w' => e = .returned (.int .u16 r) ∧ Drawn0 w w' := by
 have HR0 := ax hr0
 have HC0 := ax hc0
 clear hr0 hc0
 have H : (crc16_Sum.l0 k 65535 l0 (l0.length : Int) 0) = some r := h
 clear h
 have H' := ax H
 clear H
 go_enter Tryz.func124, Tryz.ntmps124
 go_wp2
 go_loopg [3, 8] k (fun kq v3 v8 w' => ∃ (x3_1 : Int) (x8_1 : Int), v3 = .int .u16 x3_1 ∧ v8 = .int .i64 x8_1 ∧ Aside0 (crc16_Sum.l0 kq x3_1 l0 (l0.length : Int) x8_1 = some r) ∧ Aside0 (kq ≤ k) ∧ Drawn0 w w')
 case atStart => exact ⟨(65535), (0), rs_, rs_, H', ⟨Nat.le_refl _⟩, dr_⟩
 case round =>
  clear H'
  try clear c1
  obtain ⟨x3_1, x8_1, rfl, rfl, HA, HK1, ⟨m1, rfl⟩⟩ := hrel
  cases gk with
  | zero => exact absurd HA.out (by simp [crc16_Sum.l0])
  | succ k1 =>
   have H := HA.out
   clear HA
   simp only [crc16_Sum.l0] at H
   by_cases c2 : x8_1 < (l0.length : Int)
   ·rw [if_pos c2] at H
    have c2b0 : decide (x8_1 < (l0.length : Int)) = true := decide_eq_true c2
    clear c2
    by_cases c3 : 0 ≤ x8_1
    ·rw [if_pos c3] at H
     have c3b0 : decide (0 ≤ x8_1) = true := decide_eq_true c3
     clear c3
     by_cases c4 : x8_1 < (l0.length : Int)
     ·rw [if_pos c4] at H
      have c4b0 : decide (x8_1 < (l0.length : Int)) = true := decide_eq_true c4
      clear c4
      replace H := Option.bind_eq_some_iff.mp H
      obtain ⟨t337, A50, H⟩ := H
      replace H : (crc16_Sum.l0 k1 t337 l0 (l0.length : Int) (wrap64 (x8_1 + 1))) = some r := H
      have A5 := ax A50
      clear A50
      have H' := ax H
      clear H
      have p336 : 0 ≤ (x8_1 : Int) := of_decide_eq_true as_
      have q336 : x8_1 < (l0.length : Int) := of_decide_eq_true as_
      obtain ⟨ad336, e336, hx336_0⟩ := Kd.at_int HR0.out x8_1 p336 q336
      cases e336
      replace p336 := eq_true p336
      replace q336 := eq_true q336
      go_wp2_with (first | ((with_reducible refine gate_callee (f := 175) rfl ?_); refine goesL_ (some 14) rfl rfl Tryz.func175 kr rfl #[.int .u16 x3_1, .int .u8 (rd l0 x8_1)] rfl gl_ ?_; (with_reducible refine (crc16_step.calls k1 x3_1 (rd l0 x8_1) t337 _ A5.out).mono ?_); rintro e w' ⟨rfl, ⟨nd, rfl⟩⟩; refine ⟨_, rfl, ?_⟩))
      go_roundg k1
      case measure => have := HK1.out; omega
      case rel => exact ⟨(t337), (wrap64 (x8_1 + 1)), rs_, rs_, H', ⟨by have := HK1.out; omega⟩, dr_⟩
     ·rw [if_neg c4] at H
      exact absurd H (by simp)
    ·rw [if_neg c3] at H
     exact absurd H (by simp)
   ·rw [if_neg c2] at H
    have c2b0 : decide (x8_1 < (l0.length : Int)) = false := decide_eq_false c2
    clear c2
    obtain rfl := Option.some.inj H
    go_wp2
    go_ret
    exact ⟨rs_, dr_⟩
end
-- YtajiggmeappfaaaGreatDoorP73
section
attribute [local go_sem] max2_int min2_int max_two min_two max_three min_three max_four min_four
def crc16_Seal.f (k : Nat) (l0 : List Int) : Option (List Int) := (crc16_Sum.f k l0).bind fun t338 => ((slices_Clone_byte_byte.f l0).bind fun t339 => ((some (([(t338 / 256) % 256, (t338) % 256] : List Int) : List Int)).bind fun y342 => (if t339.length + y342.length < 140737488355328 then (some (t339 ++ y342)) else (none))))
theorem crc16_Seal.mono : ∀ a0 k, LeO (crc16_Seal.f k a0) (crc16_Seal.f (k + 1) a0) := by
 intro a0 k
 unfold crc16_Seal.f
 repeat' first
   | (with_reducible exact crc16_Sum.mono _ _)
   | (with_reducible exact LeO.refl _)
   | (with_reducible exact LeO.none _)
   | (with_reducible refine LeO.ite ?_ ?_)
   | (with_reducible refine LeO.bind ?_ (fun _ => ?_))
   | exact crc16_Sum.mono _ _
   | exact LeO.none _
   | refine LeO.ite ?_ ?_
   | refine LeO.bind ?_ (fun _ => ?_)
theorem crc16_Seal.calls (k : Nat) (A0 : Option Addr) (c0 : Nat) (l0 : List Int) (r : List Int) (w : World) (hr0 : Kd.C (Kd.int .u8) w A0 l0.length l0) (hc0 : l0.length ≤ c0) (h : crc16_Seal.f k l0 = some r) :
  Calls Tryz.prog 172 #[.slice A0 l0.length c0] w fun e w' => ∃ v0_ : Value, e = .returned (v0_) ∧ Kd.R (Kd.int .u8) 5 w' w.heap.size (fun _ => True) v0_ r ∧ Below w.heap.size w w' := by
 have HR0 := ax hr0
 have HC0 := ax hc0
 clear hr0 hc0
 have HB := ax (Below.refl w.heap.size w)
 have H : ((crc16_Sum.f k l0).bind fun t338 => ((slices_Clone_byte_byte.f l0).bind fun t339 => ((some (([(t338 / 256) % 256, (t338) % 256] : List Int) : List Int)).bind fun y342 => (if t339.length + y342.length < 140737488355328 then (some (t339 ++ y342)) else (none))))) = some r := h
 clear h
 replace H := Option.bind_eq_some_iff.mp H
 obtain ⟨t338, A20, H⟩ := H
 replace H : ((slices_Clone_byte_byte.f l0).bind fun t339 => ((some (([(t338 / 256) % 256, (t338) % 256] : List Int) : List Int)).bind fun y342 => (if t339.length + y342.length < 140737488355328 then (some (t339 ++ y342)) else (none)))) = some r := H
 have A2 := ax A20
 clear A20
 replace H := Option.bind_eq_some_iff.mp H
 obtain ⟨t339, A30, H⟩ := H
 replace H : ((some (([(t338 / 256) % 256, (t338) % 256] : List Int) : List Int)).bind fun y342 => (if t339.length + y342.length < 140737488355328 then (some (t339 ++ y342)) else (none))) = some r := H
 have A3 := ax A30
 clear A30
 obtain ⟨y342, hy342⟩ : ∃ y_ : List Int, y_ = (([(t338 / 256) % 256, (t338) % 256] : List Int)) := ⟨_, rfl⟩
 replace H : (if t339.length + y342.length < 140737488355328 then (some (t339 ++ y342)) else (none)) = some r := by first | (rw [hy342]; with_reducible exact H) | (have H2_ := (Option.bind_some _ _).symm.trans H; rw [hy342]; with_reducible exact H2_) | (have H2_ := (Option.bind_some _ _).symm.trans H; with_reducible exact H2_) | with_reducible exact H | (rw [hy342]; exact H) | exact H
 have Ny342 := ax hy342
 clear hy342
 by_cases c4 : t339.length + y342.length < 140737488355328
 ·rw [if_pos c4] at H
  have LMc4 := ax c4
  clear c4
  obtain ⟨y345, hy345⟩ : ∃ y_ : List Int, y_ = (t339 ++ y342) := ⟨_, rfl⟩
  replace H : (some y345) = some r := by first | (rw [hy345]; with_reducible exact H) | (have H2_ := (Option.bind_some _ _).symm.trans H; rw [hy345]; with_reducible exact H2_) | (have H2_ := (Option.bind_some _ _).symm.trans H; with_reducible exact H2_) | with_reducible exact H | (rw [hy345]; exact H) | exact H
  have Ny345 := ax hy345
  clear hy345
  obtain rfl := Option.some.inj H
  go_enter Tryz.func172, Tryz.ntmps172
  go_wp2_with (first | ((with_reducible refine gate_callee (f := 124) rfl ?_); refine goesL_ (some 5) rfl rfl Tryz.func124 kr rfl #[.slice A0 l0.length c0] rfl gl_ ?_; (with_reducible refine (crc16_Sum.calls k _ _ l0 t338 _ ?side1 ?side2 A2.out).mono ?_); (case side1 => repeat (first | exact HR0.out | (with_reducible refine Kd.C_alloc ?_ _) | (with_reducible refine Kd.C_drewN ?_ _) | (with_reducible refine Kd.C_drew ?_))); (case side2 => exact HC0.out); rintro e w' ⟨rfl, ⟨nd, rfl⟩⟩; refine ⟨_, rfl, ?_⟩) | ((with_reducible refine gate_callee (f := 112) rfl ?_); refine goesL_ (some 7) rfl rfl Tryz.func112 kr rfl #[.slice A0 l0.length c0] rfl gl_ ?_; (with_reducible refine (slices_Clone_byte_byte.calls _ _ l0 t339 _ ?side1 ?side2 A3.out).mono ?_); (case side1 => repeat (first | exact HR0.out | (with_reducible refine Kd.C_alloc ?_ _) | (with_reducible refine Kd.C_drewN ?_ _) | (with_reducible refine Kd.C_drew ?_))); (case side2 => exact HC0.out); rintro e w5 ⟨v340, rfl, ho0, hb⟩; refine ⟨_, rfl, ?_⟩; have n0_ := ax (Kd.R_lower ho0 (below_size bl_)); have n1_ := ax (below_step bl_ hb); clear HB; have HO341 := n0_; have HB := n1_; clear n0_ n1_; (try clear hb); (try clear hb2); (try clear hk); (try clear hi); (try clear ho0)) | ((with_reducible refine gate_dst (N := 13) rfl ?_); refine Kd.R_lit (Kd.int .u8) _ 5 ?hg (N := 13) ?hd (xs := ([(t338 / 256) % 256, (t338) % 256] : List Int)) (inner := [.int .u8 ((t338 / 256) % 256), .int .u8 ((t338) % 256)]) (ok := fun _ => True) (okp := fun _ => True) ?hr ?hp (fun _ hk => hk) trivial (Below.refl _ _) (Nat.le_refl _) (by simp) ?_; (case hd => rfl); (case hg => rfl); (case hr => first | (go_simp; done) | (go_simp; rfl)); (case hp => exact (Reps.one (show Kd.M (Kd.int .u8) _ _ _ ((t338 / 256) % 256) [.int .u8 ((t338 / 256) % 256)] from rfl) (Reps.one (show Kd.M (Kd.int .u8) _ _ _ ((t338) % 256) [.int .u8 ((t338) % 256)] from rfl) (Reps.none _ _)))); intro v343 w6 ho7 hb hg_ hnew_; clear hg_ hnew_; (first | rw [← Ny342.out] at ho7 | (simp only [Int.reduceToNat] at ho7; rw [← Ny342.out] at ho7)); have n0_ := ax (Kd.R_elder' (kR_ HO341.out) (Kd.R_base ho7) hb); have n1_ := ax (Kd.R_lower (Kd.R_new' ho7 (Kd.R_lt (kR_ HO341.out))) (below_size bl_)); have n2_ := ax (below_step bl_ hb); clear HO341; clear HB; have HO341 := n0_; have HO344 := n1_; have HB := n2_; clear n0_ n1_ n2_; clear hb ho7; obtain ⟨Ao9, co9, eo9⟩ := Kd.R_slice HO344.out; subst eo9) | ((with_reducible refine gate_builtin (b := .append) (xs := #[.tmp 7, .tmp 13]) rfl ?_); at_builtin; refine Kd.R_append_rows (Kd.int .u8) (w0 := w) w.heap.size rfl (.tmp 7) (.tmp 13) 37 5 (.int .u8 0) 1 rfl Tryz.underlying37 info5 rfl (by decide) (by omega) v340 t339 y342 _ _ _ (fun k_ => some k_ ≠ (.slice Ao9 y342.length co9 : Value).ownBlock) (fun _ => False) rfl rfl ?aO ?aR (fun _ _ h => h) (fun _ h => h.elim) ?aF ?aB ?aS ?aL ?_; (case aR => repeat (first | exact (Kd.R_reads' HO344.out).2.2 | (with_reducible refine Kd.C_alloc ?_ _) | (with_reducible refine Kd.C_drewN ?_ _) | (with_reducible refine Kd.C_drew ?_))); (case aB => exact bl_); (case aF => exact (fun k_ hk => Kd.fresh' (Kd.R_lt (kR_ HO344.out)) k_ hk)); (case aO => exact (by (with_reducible repeat (first | apply Kd.R_alloc | apply Kd.R_drewN | apply Kd.R_drew)); exact Kd.R_mono HO341.out (fun _ hk => hk.2))); (case aS => exact (below_size bl_)); (case aL => have := LMc4.out; omega); intro v346 w8 ho hb hg hat; rw [← Ny345.out] at ho; have n0_ := ax (Kd.R_after (ok := (fun _ => True)) (kR_ HO344.out) hg hat); have n1_ := ax (hb); have n2_ := ax (ho); clear HO344; clear HB; clear HO341; have HO344 := n0_; have HB := n1_; have HO347 := n2_; clear n0_ n1_ n2_; clear ho hb hg hat))
  go_ret
  exact ⟨_, by first | rfl | (simp [errW_none, errW_some] <;> rfl) | (simp [*, errW_none, errW_some] <;> rfl), by (with_reducible repeat (first | apply Kd.R_alloc | apply Kd.R_drewN | apply Kd.R_drew)); exact Kd.R_mono HO347.out (fun _ hk => trivial), bl_⟩
 ·rw [if_neg c4] at H
  exact absurd H (by simp)
end
-- YtajiggmeappfaaaGreatDoorPKPack
def hk (v n q : Int) : Nat → List Int
 | 0 => []
 | 1 => putL 1 4
 | 2 => putL 1 4 ++ putL v 2
 | 3 => putL 1 4 ++ putL v 2 ++ putL 0 2
 | 4 => putL 1 4 ++ putL v 2 ++ putL 0 2 ++ putL n 8
 | _ => putL 1 4 ++ putL v 2 ++ putL 0 2 ++ putL n 8 ++ putL q 16
theorem putL_le (n wd : Int) : (putL n wd).length ≤ 32 := by
 unfold putL
 by_cases h : putE n wd = 0
 ·rw [if_pos h]
  have hw : bitioWidthF wd = true := by
   cases e : bitioWidthF wd
   ·unfold putE at h; rw [e] at h; cases h
   ·rfl
  unfold bitioWidthF at hw
  rw [Bool.and_eq_true, decide_eq_true_eq, decide_eq_true_eq] at hw
  unfold bitL
  rw [List.length_map, List.length_range]; omega
 ·rw [if_neg h]; simp
theorem hk_le (v n q : Int) (j : Nat) : (hk v n q j).length ≤ 1000 := by
 have h1 := putL_le 1 4
 have h2 := putL_le v 2
 have h3 := putL_le 0 2
 have h4 := putL_le n 8
 have h5 := putL_le q 16
 unfold hk
 split <;> (first | omega | (simp only [List.length_append]; omega) | simp)
def hf (v n q : Int) : Array Value := #[.int .i64 1, .int .i64 4, .int .i64 v, .int .i64 2, .int .i64 0, .int .i64 2, .int .i64 n, .int .i64 8, .int .i64 q, .int .i64 16]
theorem packd_calls {w : World} {b : Nat} (v n q : Int) (hb : w.heap[b]? = some (.cells (hf v n q) 221 (0, 0))) (bs B : List Int) (k : Nat)
  (h1 : bits_Bytes.f k (hk v n q 5) = some (bs, 0)) (h2 : crc16_Seal.f k bs = some B) :
  Calls Tryz.prog 122 #[.slice (some ⟨b, 0, none⟩) 5 5] w fun e w' => ∃ v, e = .returned v ∧ Kd.R (Kd.int .u8) 5 w' w.heap.size (fun _ => True) v B ∧ Below w.heap.size w w' := by
 have HX0 := ax hb
 have HBL := ax (blk_lt hb)
 have H1 := ax h1
 have H2 := ax h2
 have HN := ax (WS.new w)
 have HBA := ax (below_alloc (Below.refl w.heap.size w) (.cells #[.slice none 0 0] 280))
 clear hb h1 h2
 go_enter Tryz.func122, Tryz.ntmps122
 go_wp2_with fail
 have HX1 := ax ((HBA.out.block b HBL.out).trans HX0.out)
 go_loopw [10] (fun v10 wr => ∃ (j : Nat) (v0 : Value), v10 = .int .i64 (j : Int) ∧ j ≤ 5 ∧ Aside0 (WS wr w.heap.size w.heap.size v0 (hk v n q j)) ∧ Aside0 (wr.heap[b]? = some (.cells (hf v n q) 221 (0, 0))) ∧ Aside0 (Below w.heap.size w wr)) (fun v10 _ => 5 - (intOf v10).toNat)
 case atStart => exact ⟨0, _, by simp, by omega, HN, HX1, HBA⟩
 case round =>
  clear HX1 HN HBA
  obtain ⟨j, v0, rfl, hj, HS, HX, HB⟩ := hrel
  have hcase : j = 0 ∨ j = 1 ∨ j = 2 ∨ j = 3 ∨ j = 4 ∨ j = 5 := by omega
  rcases hcase with rfl | rfl | rfl | rfl | rfl | rfl
  ·skip
   have hc0 : wr.cell? ⟨b, 0, none⟩ = some (.int .i64 1) := blk_cell HX.out 0
   have hc1 : wr.cell? ⟨b, 1, none⟩ = some (.int .i64 4) := blk_cell HX.out 1
   go_wp2_with (first
    | (go_at_call 171; refine Aside0.out ?_)
    | fail)
   refine ax ?_
   have hba := below_alloc (Below.refl wr.heap.size wr) (.cells #[.int .i64 1, .int .i64 4] 221)
   have hS2 := HS.out.below hba
   refine (bitioPut_calls _ _ _ _ 1 4 _ hS2 (Nat.le_trans (hk_le v n q 0) (by decide))).mono ?_
   rintro e w2 ⟨rfl, v2, hS3, hf, hn⟩
   have hb2 : Below w.heap.size w w2 := (below_step HB.out hba).trans (hf.below (Nat.le_trans HB.out.size hba.size) (Nat.le_refl _) (fun b hb => hS2.own b hb))
   have HS3 := ax (show WS w2 w.heap.size w.heap.size v2 (hk v n q (0 + 1)) from hS3)
   have HB3 := ax hb2
   have HX3 := ax ((hb2.block b HBL.out).trans HX0.out)
   clear hS2 hS3 hf hn hb2 hba hc0 hc1 HX HS HB
   go_wp2_with fail
   go_roundw
   case rel => exact ⟨0 + 1, v2, by simp, by omega, HS3, HX3, HB3⟩
   case measure => simp [intOf]
  ·skip
   have hc0 : wr.cell? ⟨b, 2, none⟩ = some (.int .i64 v) := blk_cell HX.out 2
   have hc1 : wr.cell? ⟨b, 3, none⟩ = some (.int .i64 2) := blk_cell HX.out 3
   go_wp2_with (first
    | (go_at_call 171; refine Aside0.out ?_)
    | fail)
   refine ax ?_
   have hba := below_alloc (Below.refl wr.heap.size wr) (.cells #[.int .i64 v, .int .i64 2] 221)
   have hS2 := HS.out.below hba
   refine (bitioPut_calls _ _ _ _ v 2 _ hS2 (Nat.le_trans (hk_le v n q 1) (by decide))).mono ?_
   rintro e w2 ⟨rfl, v2, hS3, hf, hn⟩
   have hb2 : Below w.heap.size w w2 := (below_step HB.out hba).trans (hf.below (Nat.le_trans HB.out.size hba.size) (Nat.le_refl _) (fun b hb => hS2.own b hb))
   have HS3 := ax (show WS w2 w.heap.size w.heap.size v2 (hk v n q (1 + 1)) from hS3)
   have HB3 := ax hb2
   have HX3 := ax ((hb2.block b HBL.out).trans HX0.out)
   clear hS2 hS3 hf hn hb2 hba hc0 hc1 HX HS HB
   go_wp2_with fail
   go_roundw
   case rel => exact ⟨1 + 1, v2, by simp, by omega, HS3, HX3, HB3⟩
   case measure => simp [intOf]
  ·skip
   have hc0 : wr.cell? ⟨b, 4, none⟩ = some (.int .i64 0) := blk_cell HX.out 4
   have hc1 : wr.cell? ⟨b, 5, none⟩ = some (.int .i64 2) := blk_cell HX.out 5
   go_wp2_with (first
    | (go_at_call 171; refine Aside0.out ?_)
    | fail)
   refine ax ?_
   have hba := below_alloc (Below.refl wr.heap.size wr) (.cells #[.int .i64 0, .int .i64 2] 221)
   have hS2 := HS.out.below hba
   refine (bitioPut_calls _ _ _ _ 0 2 _ hS2 (Nat.le_trans (hk_le v n q 2) (by decide))).mono ?_
   rintro e w2 ⟨rfl, v2, hS3, hf, hn⟩
   have hb2 : Below w.heap.size w w2 := (below_step HB.out hba).trans (hf.below (Nat.le_trans HB.out.size hba.size) (Nat.le_refl _) (fun b hb => hS2.own b hb))
   have HS3 := ax (show WS w2 w.heap.size w.heap.size v2 (hk v n q (2 + 1)) from hS3)
   have HB3 := ax hb2
   have HX3 := ax ((hb2.block b HBL.out).trans HX0.out)
   clear hS2 hS3 hf hn hb2 hba hc0 hc1 HX HS HB
   go_wp2_with fail
   go_roundw
   case rel => exact ⟨2 + 1, v2, by simp, by omega, HS3, HX3, HB3⟩
   case measure => simp [intOf]
  ·skip
   have hc0 : wr.cell? ⟨b, 6, none⟩ = some (.int .i64 n) := blk_cell HX.out 6
   have hc1 : wr.cell? ⟨b, 7, none⟩ = some (.int .i64 8) := blk_cell HX.out 7
   go_wp2_with (first
    | (go_at_call 171; refine Aside0.out ?_)
    | fail)
   refine ax ?_
   have hba := below_alloc (Below.refl wr.heap.size wr) (.cells #[.int .i64 n, .int .i64 8] 221)
   have hS2 := HS.out.below hba
   refine (bitioPut_calls _ _ _ _ n 8 _ hS2 (Nat.le_trans (hk_le v n q 3) (by decide))).mono ?_
   rintro e w2 ⟨rfl, v2, hS3, hf, hn⟩
   have hb2 : Below w.heap.size w w2 := (below_step HB.out hba).trans (hf.below (Nat.le_trans HB.out.size hba.size) (Nat.le_refl _) (fun b hb => hS2.own b hb))
   have HS3 := ax (show WS w2 w.heap.size w.heap.size v2 (hk v n q (3 + 1)) from hS3)
   have HB3 := ax hb2
   have HX3 := ax ((hb2.block b HBL.out).trans HX0.out)
   clear hS2 hS3 hf hn hb2 hba hc0 hc1 HX HS HB
   go_wp2_with fail
   go_roundw
   case rel => exact ⟨3 + 1, v2, by simp, by omega, HS3, HX3, HB3⟩
   case measure => simp [intOf]
  ·skip
   have hc0 : wr.cell? ⟨b, 8, none⟩ = some (.int .i64 q) := blk_cell HX.out 8
   have hc1 : wr.cell? ⟨b, 9, none⟩ = some (.int .i64 16) := blk_cell HX.out 9
   go_wp2_with (first
    | (go_at_call 171; refine Aside0.out ?_)
    | fail)
   refine ax ?_
   have hba := below_alloc (Below.refl wr.heap.size wr) (.cells #[.int .i64 q, .int .i64 16] 221)
   have hS2 := HS.out.below hba
   refine (bitioPut_calls _ _ _ _ q 16 _ hS2 (Nat.le_trans (hk_le v n q 4) (by decide))).mono ?_
   rintro e w2 ⟨rfl, v2, hS3, hf, hn⟩
   have hb2 : Below w.heap.size w w2 := (below_step HB.out hba).trans (hf.below (Nat.le_trans HB.out.size hba.size) (Nat.le_refl _) (fun b hb => hS2.own b hb))
   have HS3 := ax (show WS w2 w.heap.size w.heap.size v2 (hk v n q (4 + 1)) from hS3)
   have HB3 := ax hb2
   have HX3 := ax ((hb2.block b HBL.out).trans HX0.out)
   clear hS2 hS3 hf hn hb2 hba hc0 hc1 HX HS HB
   go_wp2_with fail
   go_roundw
   case rel => exact ⟨4 + 1, v2, by simp, by omega, HS3, HX3, HB3⟩
   case measure => simp [intOf]
  ·skip
   go_wp2_with (first
    | (go_at_call 173; refine (bitioBytes_calls _ _ _ _ wr HS.out k bs 0 H1.out).mono ?_; rintro e w2 ⟨u, rfl, hu, hb⟩; obtain ⟨A, c, rfl⟩ := Kd.R_slice hu; have HU := ax hu; have HB2 := ax (below_step HB.out hb); clear hu hb)
    | (go_at_call 172; refine (crc16_Seal.calls k _ _ bs B w2 (Kd.R_reads' HU.out).2.2 (Kd.R_reads' HU.out).2.1 H2.out).mono ?_; rintro e w3 ⟨u, rfl, hu, hb⟩; have HU3 := ax (Kd.R_lower hu (HB2.out.size)); have HB3 := ax (below_step HB2.out hb); clear hu hb)
    | fail)
   go_ret
   exact ⟨_, by simp, HU3.out, HB3.out⟩
-- YtajiggmeappfaaaGreatDoorP66
section
attribute [local go_sem] max2_int min2_int max_two min_two max_three min_three max_four min_four
def frame_within.f (a0 : Int) : Option (Bool) := if a0 ≥ 0 then (some (decide (a0 ≤ 64))) else (some false)
theorem frame_within.calls (a0 : Int) (r : Bool) (w : World) (h : frame_within.f a0 = some r) :
  Calls Tryz.prog 125 #[.int .i64 a0] w fun e w' => e = .returned (.bool r) ∧ Drawn0 w w' := by
 have H : (if a0 ≥ 0 then (some (decide (a0 ≤ 64))) else (some false)) = some r := h
 clear h
 by_cases c2 : a0 ≥ 0
 ·rw [if_pos c2] at H
  have c2b0 : decide (0 ≤ a0) = true := decide_eq_true c2
  clear c2
  obtain rfl := Option.some.inj H
  go_enter Tryz.func125, Tryz.ntmps125
  go_wp2
  go_ret
  exact ⟨rs_, dr_⟩
 ·rw [if_neg c2] at H
  have c2b0 : decide (0 ≤ a0) = false := decide_eq_false c2
  clear c2
  obtain rfl := Option.some.inj H
  go_enter Tryz.func125, Tryz.ntmps125
  go_wp2
  go_ret
  exact ⟨rs_, dr_⟩
end
-- YtajiggmeappfaaaGreatDoorP68
section
attribute [local go_sem] max2_int min2_int max_two min_two max_three min_three max_four min_four
def frame_Bits.f (a0 : Int) : Option (Int) := (frame_within.f a0).bind fun t333 => (if t333 = true then ((version_Bits.f (wrap64 (8 * (wrap64 (a0 + 4))))).bind fun t334 => (some t334)) else (some 0))
theorem frame_Bits.calls (a0 : Int) (r : Int) (w : World) (h : frame_Bits.f a0 = some r) :
  Calls Tryz.prog 78 #[.int .i64 a0] w fun e w' => e = .returned (.int .i64 r) ∧ Drawn0 w w' := by
 have H : ((frame_within.f a0).bind fun t333 => (if t333 = true then ((version_Bits.f (wrap64 (8 * (wrap64 (a0 + 4))))).bind fun t334 => (some t334)) else (some 0))) = some r := h
 clear h
 replace H := Option.bind_eq_some_iff.mp H
 obtain ⟨t333, A20, H⟩ := H
 replace H : (if t333 = true then ((version_Bits.f (wrap64 (8 * (wrap64 (a0 + 4))))).bind fun t334 => (some t334)) else (some 0)) = some r := H
 have A2 := ax A20
 clear A20
 by_cases c3 : t333 = true
 ·subst c3
  have H1 : ((version_Bits.f (wrap64 (8 * (wrap64 (a0 + 4))))).bind fun t334 => (some t334)) = some r := by rw [if_pos rfl] at H; exact H
  clear H
  have H := H1
  clear H1
  replace H := Option.bind_eq_some_iff.mp H
  obtain ⟨t334, A40, H⟩ := H
  replace H : (some t334) = some r := H
  have A4 := ax A40
  clear A40
  obtain rfl := Option.some.inj H
  go_enter Tryz.func78, Tryz.ntmps78
  go_wp2_with (first | ((with_reducible refine gate_callee (f := 125) rfl ?_); refine goesL_ (some 4) rfl rfl Tryz.func125 kr rfl #[.int .i64 a0] rfl gl_ ?_; (with_reducible refine (frame_within.calls a0 true _ A2.out).mono ?_); rintro e w' ⟨rfl, ⟨nd, rfl⟩⟩; refine ⟨_, rfl, ?_⟩) | ((with_reducible refine gate_callee (f := 127) rfl ?_); refine goesL_ (some 9) rfl rfl Tryz.func127 kr rfl #[.int .i64 (wrap64 (8 * (wrap64 (a0 + 4))))] rfl gl_ ?_; (with_reducible refine (version_Bits.calls (wrap64 (8 * (wrap64 (a0 + 4)))) t334 _ A4.out).mono ?_); rintro e w' ⟨rfl, ⟨nd, rfl⟩⟩; refine ⟨_, rfl, ?_⟩))
  go_ret
  exact ⟨rs_, dr_⟩
 ·replace c3 := Bool.eq_false_iff.mpr c3
  subst c3
  have H1 : (some 0) = some r := by rw [if_neg (show ¬ (false = true) by decide)] at H; exact H
  clear H
  have H := H1
  clear H1
  obtain rfl := Option.some.inj H
  go_enter Tryz.func78, Tryz.ntmps78
  go_wp2_with (first | ((with_reducible refine gate_callee (f := 125) rfl ?_); refine goesL_ (some 4) rfl rfl Tryz.func125 kr rfl #[.int .i64 a0] rfl gl_ ?_; (with_reducible refine (frame_within.calls a0 false _ A2.out).mono ?_); rintro e w' ⟨rfl, ⟨nd, rfl⟩⟩; refine ⟨_, rfl, ?_⟩))
  go_ret
  exact ⟨rs_, dr_⟩
end
-- YtajiggmeappfaaaGreatDoorPKData
def fr (kind q v n : Int) (body : Value) : Array Value := #[.int .i64 kind, .int .u16 q, .int .i64 v, .int .i64 n, body, .int .u16 0, .int .u32 0]
theorem fr_one (k q v n : Int) (A : Option Addr) (m c : Nat) : (fr k q v n (.slice A m c)).all (·.oneCell') = true := by simp [fr, Value.oneCell']
theorem fr_size : (Tryz.prog.info? 47).map (·.size) = some 7 := by kernel_rfl
theorem within_f (n : Nat) (hn : n ≤ 64) : frame_within.f (n : Int) = some true := by
 unfold frame_within.f
 have h1 : (decide ((n : Int) ≥ 0)) = true := decide_eq_true (by omega)
 have h2 : (decide ((n : Int) ≤ 64)) = true := decide_eq_true (by omega)
 simp [h1, h2]
def nb (n : Nat) : Nat := 8 * (n + 4) + 6
theorem fbits_f (n : Nat) (hn : n ≤ 64) : frame_Bits.f (n : Int) = some ((nb n : Nat) : Int) := by
 unfold frame_Bits.f
 rw [within_f n hn, Option.bind_some, if_pos rfl]
 have e1 : wrap64 ((n : Int) + 4) = ((n + 4 : Nat) : Int) := by unfold wrap64; omega
 have e2 : wrap64 (8 * ((n + 4 : Nat) : Int)) = ((8 * (n + 4) : Nat) : Int) := by unfold wrap64; omega
 rw [e1, e2, bits_n _ (by omega), Option.bind_some]; rfl
def kdata5.T : Bool × List (List Nat × List Nat) := (true, [([], []), ([0], [0]), ([1], [1]), ([], []), ([3], [3]), ([4], [4]), ([2, 5], [2, 5]), ([6, 5], [6])])
def kdata5.B : List Nat := [0, 1, 3, 0, 8, 24, 63, 127]
theorem kdata5.tab : rtab .any (opsOf Tryz.f121 5) = kdata5.T := by kernel_rfl
theorem kdata5.bits : waitsOk kdata5.T.2 kdata5.B = true := by kernel_rfl
theorem data_calls {w : World} {A : Option Addr} {c : Nat} {P : List Int} (hP : Kd.C (Kd.int .u8) w A P.length P) (hc : P.length ≤ c) (hPb : ∀ x ∈ P, isb x) (q : Int) (hq : 0 ≤ q ∧ q ≤ 65535) (v n m : Nat) (hv : v < 4) (hn : n ≤ 64) (hm : P.length = m) (hmn : m = nb n)
  (bs S BB : List Int) (k : Nat) (h0 : bits_Bytes.f k P = some (BB, 0)) (h1 : bits_Bytes.f k (hk v n q 5) = some (bs, 0)) (h2 : crc16_Seal.f k bs = some S) (hl : S.length + BB.length ≤ 1000) (hk : 2000 ≤ k) :
  Calls Tryz.prog 121 #[.agg (fr 1 q v n (.slice A m c))] w fun e w' => ∃ u, e = .returned (.tuple #[u, .int .i64 0]) ∧ Kd.R (Kd.int .u8) 5 w' w.heap.size (fun _ => True) u (S ++ BB) ∧ Below w.heap.size w w' := by
 have hxc : IntKind.i64.wrap q = q := by rw [IntKind.wrap_i64]; omega
 have hxw : wrap64 q = q := by unfold wrap64; omega
 have hv0 : (0 : Int) ≤ (v : Int) := by omega
 have hv4 : (v : Int) < 4 := by omega
 have hba := below_alloc (Below.refl w.heap.size w) (.cells (fr 1 q v n (.slice A m c)) 47)
 have hbb := blk_new w (.cells (fr 1 q v n (.slice A m c)) 47)
 have HRT := ax (fun w' (hb : Below w.heap.size w w') => bits_Right.calls k A c P true w' (Kd.C_below hP hb) hc (by
  rw [right_f P (by unfold nb at hmn; omega) k (by unfold nb at hmn; omega), (big_isb (fun x hx => (isb01 (hPb x hx)).1)).2 hPb]; rfl))
 have HBY := ax (fun w' (hb : Below w.heap.size w w') => bits_Bytes.calls k A c P BB 0 w' (Kd.C_below hP hb) hc h0)
 have HWI := ax (fun w => frame_within.calls (n : Int) _ w (within_f n hn))
 have HBT := ax (fun w => frame_Bits.calls (n : Int) _ w (fbits_f n hn))
 have H1 := ax h1
 have H2 := ax h2
 have HL := ax (And.intro hl hmn)
 rw [hm] at HRT HBY
 rw [← hmn] at HBT
 clear hP hc hPb hq hv hn hm h0 h1 h2 hl hmn hk
 go_enter Tryz.func121, Tryz.ntmps121
 obtain ⟨w1, hw1⟩ : ∃ w1, w1 = w.alloc (.cells (fr 1 q v n (.slice A m c)) 47) := ⟨_, rfl⟩
 obtain ⟨a1, ha1⟩ : ∃ a1, a1 = w.heap.size := ⟨_, rfl⟩
 have HA := ax (show w.heap.size ≤ a1 by rw [ha1]; exact Nat.le_refl _)
 rw [← hw1] at hba hbb
 rw [← ha1] at hbb
 have HX1 := ax hbb
 have HB1 := ax hba
 go_wp2_with (first
  | ((with_reducible refine gate_ (.fieldAddr 47 (.tmp 1) 2) rfl ?_); refine Aside0.out ?_)
  | fail)
 refine ax ?_
 rw [← hw1, ← ha1]
 have hc1 : w1.cell? ⟨a1, 1, none⟩ = some (.int .u16 q) := blk_cell hbb 1
 have hc2 : w1.cell? ⟨a1, 2, none⟩ = some (.int .i64 v) := blk_cell hbb 2
 have hc3 : w1.cell? ⟨a1, 3, none⟩ = some (.int .i64 n) := blk_cell hbb 3
 have hc4 : w1.cell? ⟨a1, 4, none⟩ = some (.slice A m c) := blk_cell hbb 4
 have HRT1 := ax (HRT.out w1 HB1.out)
 clear hba hbb hw1 ha1 HRT
 go_wp2_with (first
  | (go_at_call 136; refine Aside0.out ?_)
  | fail)
 refine ax ?_
 refine HRT1.out.mono ?_
 rintro e w2 ⟨rfl, hd⟩
 have HB2 := ax (below_step HB1.out hd.below)
 have HX2 := ax ((hd.below.block a1 (blk_lt HX1.out)).trans HX1.out)
 clear hc1 hc2 hc3 hc4 hd HRT1 HB1 HX1
 have hc3 : w2.cell? ⟨a1, 3, none⟩ = some (.int .i64 n) := blk_cell HX2.out 3
 go_wp2_with (first
  | (go_at_call 125; refine Aside0.out ?_)
  | fail)
 refine ax ?_
 refine (HWI.out w2).mono ?_
 rintro e w3 ⟨rfl, hd⟩
 have HB3 := ax (below_step HB2.out hd.below)
 have HX3 := ax ((hd.below.block a1 (blk_lt HX2.out)).trans HX2.out)
 clear hc3 hd HWI HB2 HX2
 have HS := ax (show w3.drew.cell? ⟨a1, 3, none⟩ = some (.int .i64 n) ∧ w3.drew.cell? ⟨a1, 4, none⟩ = some (.slice A m c) from ⟨blk_cell HX3.out 3, blk_cell HX3.out 4⟩)
 go_wp2_with fail
 refine start_ (n := 8) (S := (fun w' => w'.cell? ⟨a1, 3, none⟩ = some (.int .i64 n) ∧ w'.cell? ⟨a1, 4, none⟩ = some (.slice A m c))) (ds := []) #[false, false, false, false, false, false, false, false] kr rfl rfl HS.out (fun hHeld => ?_)
 refine with_tabW kdata5.tab kdata5.bits (fun HT_ HW_ => ?_)
 refine pu_ 0 28 HT_ ?_; refine tk_ 1 29 HT_ HW_ hHeld ?_; refine pu_ 2 30 HT_ ?_; refine pu_ 3 31 HT_ ?_; refine tk_ 4 32 HT_ HW_ hHeld ?_
 refine on_ 5 HT_ fun K hK => ?_
 refine goes_ Tryz.func78 kr rfl _ (by rfl) rfl rfl gs_ ?_
 refine (HBT.out _).mono ?_
 rintro e w4 ⟨rfl, hd⟩
 have HD4 := ax hd
 clear hd HBT
 refine ⟨_, rfl, ?_⟩
 refine hK.out _ _ (by obtain ⟨nd, rfl⟩ := HD4.out; exact HS.out) (fun hHeld => ?_)
 clear hK K
 refine norm_ (a' := ?_) ?_ ?_
 rotate_left
 ·show Act.put _ (some 33) _ = _
  simp only [Act.put, List.setIfInBounds_toArray, List.set_cons_zero, List.set_cons_succ, i64_w, i32_w]
  rfl
 refine pu_ 6 34 HT_ ?_; refine pu_ 7 27 HT_ ?_
 refine done_ (done_of HT_.out kr) ?_
 clear hHeld
 have HB4 := ax (below_step (below_step HB3.out (below_drew1 (Below.refl _ _))) HD4.out.below)
 have HX4 := ax ((HD4.out.below.block a1 (blk_lt HX3.out)).trans HX3.out)
 clear hHeld HB3 HX3 HS HD4
 have hc1 : w4.cell? ⟨a1, 1, none⟩ = some (.int .u16 q) := blk_cell HX4.out 1
 have hc2 : w4.cell? ⟨a1, 2, none⟩ = some (.int .i64 v) := blk_cell HX4.out 2
 have hc3 : w4.cell? ⟨a1, 3, none⟩ = some (.int .i64 n) := blk_cell HX4.out 3
 have hc4 : w4.cell? ⟨a1, 4, none⟩ = some (.slice A m c) := blk_cell HX4.out 4
 have HBY4 := ax (HBY.out w4 HB4.out)
 clear HBY
 go_wp2_with (first
  | (go_at_call 141; refine Aside0.out ?_)
  | fail)
 refine ax ?_
 refine HBY4.out.mono ?_
 rintro e w5 ⟨v5, rfl, hv, hb⟩
 have HV5 := ax hv
 have HS5 := ax hb.size
 have HB5 := ax (below_step HB4.out hb)
 have HX5 := ax ((hb.block a1 (blk_lt HX4.out)).trans HX4.out)
 clear hv hb hc1 hc2 hc3 hc4 HBY4 HX4
 have hc1 : w5.cell? ⟨a1, 1, none⟩ = some (.int .u16 q) := blk_cell HX5.out 1
 have hc2 : w5.cell? ⟨a1, 2, none⟩ = some (.int .i64 v) := blk_cell HX5.out 2
 have hc3 : w5.cell? ⟨a1, 3, none⟩ = some (.int .i64 n) := blk_cell HX5.out 3
 go_wp2_with (first
  | (go_at_call 122; refine Aside0.out ?_)
  | fail)
 refine ax ?_
 have hba := below_alloc (Below.refl w5.heap.size w5) (.cells (hf v n q) 221)
 have hbb := blk_new w5 (.cells (hf v n q) 221)
 refine (packd_calls v n q hbb bs S k H1.out H2.out).mono ?_
 rintro e w6 ⟨v6, rfl, hv6, hb6⟩
 have HV6 := ax (Kd.R_lower hv6 hba.size)
 have HW6 := ax (below_step hba hb6)
 have HV5' := ax (Kd.R_below (Kd.R_mono (Kd.R_bound HV5.out) (ok' := fun k => k < w5.heap.size) (fun k ok => ok.2.2.1)) HW6.out)
 have HB6 := ax (below_step HB5.out HW6.out)
 clear hv6 hb6 hba hbb hc1 hc2 hc3 HV5 HX5
 obtain ⟨A5, c5, rfl⟩ := Kd.R_slice HV5'.out
 go_wp2_with (first
  | ((with_reducible refine gate_builtin (b := .append) (xs := #[.tmp 55, .tmp 56]) rfl ?_); at_builtin; refine Kd.R_append_row (Value.int .u8) (0 : Int) (h1 := fun _ => rfl) (w0 := w) w.heap.size rfl (.tmp 55) (.tmp 56) 37 5 (.int .u8 0) 1 rfl Tryz.underlying37 u8_info rfl (by decide) v6 S BB A5 BB.length c5 (fun _ => True) rfl rfl (fun _ _ => trivial) (Kd.R_lower HV6.out HB5.out.size) (Kd.R_reads' HV5'.out).2.2 HB6.out HB6.out.size (by have := HL.out; omega) ?_; intro v9 w9 ho hb hg hat; have HO := ax ho; have HB9 := ax hb; clear ho hb hg hat)
  | fail)
 have hrs : (Tryz.f121).results = #[.tmp 2, .tmp 3] := by kernel_rfl
 refine bodyPost_ret (results_tmp2 hrs _ _ _) rfl ?_
 exact ⟨v9, rfl, HO.out, HB9.out⟩
theorem writed_calls {w : World} {A : Option Addr} {c : Nat} {P : List Int} (hP : Kd.C (Kd.int .u8) w A P.length P) (hc : P.length ≤ c) (hPb : ∀ x ∈ P, isb x) (q : Int) (hq : 0 ≤ q ∧ q ≤ 65535) (v n m : Nat) (hv : v < 4) (hn : n ≤ 64) (hm : P.length = m) (hmn : m = nb n)
  (bs S BB : List Int) (k : Nat) (h0 : bits_Bytes.f k P = some (BB, 0)) (h1 : bits_Bytes.f k (hk v n q 5) = some (bs, 0)) (h2 : crc16_Seal.f k bs = some S) (hl : S.length + BB.length ≤ 1000) (hk : 2000 ≤ k) :
  Calls Tryz.prog 66 #[.agg (fr 1 q v n (.slice A m c))] w fun e w' => ∃ u, e = .returned (.tuple #[u, .int .i64 0]) ∧ Kd.R (Kd.int .u8) 5 w' w.heap.size (fun _ => True) u (S ++ BB) ∧ Below w.heap.size w w' := by
 have hba := below_alloc (Below.refl w.heap.size w) (.cells (fr 1 q v n (.slice A m c)) 47)
 have hbb := blk_new w (.cells (fr 1 q v n (.slice A m c)) 47)
 have HD := ax (data_calls (Kd.C_below hP hba) hc hPb q hq v n m hv hn hm hmn bs S BB k h0 h1 h2 hl hk)
 clear hP hc hPb hq hv hn hm h0 h1 h2 hl hmn hk
 obtain ⟨w1, hw1⟩ : ∃ w1, w1 = w.alloc (.cells (fr 1 q v n (.slice A m c)) 47) := ⟨_, rfl⟩
 obtain ⟨a1, ha1⟩ : ∃ a1, a1 = w.heap.size := ⟨_, rfl⟩
 rw [← hw1] at hba hbb HD
 rw [← ha1] at hbb
 have HX1 := ax hbb
 have HB1 := ax hba
 have hc0 : w1.cell? ⟨a1, 0, none⟩ = some (.int .i64 1) := blk_cell hbb 0
 have hu := Tryz.underlying47
 clear hba hbb
 go_enter Tryz.func66, Tryz.ntmps66
 go_wp2_with (first
  | ((with_reducible refine gate_ (.fieldAddr 47 (.tmp 1) 0) rfl ?_); refine Aside0.out ?_)
  | fail)
 refine ax ?_
 rw [← hw1, ← ha1]
 clear hw1 ha1
 go_wp2_with (first
  | (refine wpList_load_row rfl 47 (.tmp 1) rfl a1 rfl 47 (fr 1 q v n (.slice A m c)) (0, 0) _ HX1.out hu rfl fr_size ?_)
  | (go_at_call 121; refine HD.out.mono ?_; rintro e w2 ⟨u, rfl, hu2, hb2⟩; have HU := ax (Kd.R_lower hu2 HB1.out.size); have HB2 := ax (below_step HB1.out hb2); clear hu2 hb2 HD)
  | fail)
 have hrs : (Tryz.f66).results = #[.tmp 2, .tmp 3] := by kernel_rfl
 refine bodyPost_ret (results_tmp2 hrs _ _ _) rfl ?_
 exact ⟨u, rfl, HU.out, HB2.out⟩
-- YtajiggmeappfaaaGreatDoorP90
section
attribute [local go_sem] max2_int min2_int max_two min_two max_three min_three max_four min_four
def crc16_Right.f (k : Nat) (l0 : List Int) : Option (Bool) := if (l0.length : Int) ≥ 2 then ((crc16_Sum.f k l0).bind fun t372 => (some (t372 == 0))) else (some false)
theorem crc16_Right.mono : ∀ a0 k, LeO (crc16_Right.f k a0) (crc16_Right.f (k + 1) a0) := by
 intro a0 k
 unfold crc16_Right.f
 repeat' first
   | (with_reducible exact crc16_Sum.mono _ _)
   | (with_reducible exact LeO.refl _)
   | (with_reducible exact LeO.none _)
   | (with_reducible refine LeO.ite ?_ ?_)
   | (with_reducible refine LeO.bind ?_ (fun _ => ?_))
   | exact crc16_Sum.mono _ _
   | exact LeO.none _
   | refine LeO.ite ?_ ?_
   | refine LeO.bind ?_ (fun _ => ?_)
theorem crc16_Right.calls (k : Nat) (A0 : Option Addr) (c0 : Nat) (l0 : List Int) (r : Bool) (w : World) (hr0 : Kd.C (Kd.int .u8) w A0 l0.length l0) (hc0 : l0.length ≤ c0) (h : crc16_Right.f k l0 = some r) :
  Calls Tryz.prog 74 #[.slice A0 l0.length c0] w fun e w' => e = .returned (.bool r) ∧ Drawn0 w w' := by
 have HR0 := ax hr0
 have HC0 := ax hc0
 clear hr0 hc0
 have H : (if (l0.length : Int) ≥ 2 then ((crc16_Sum.f k l0).bind fun t372 => (some (t372 == 0))) else (some false)) = some r := h
 clear h
 by_cases c2 : (l0.length : Int) ≥ 2
 ·rw [if_pos c2] at H
  have c2b0 : decide (2 ≤ (l0.length : Int)) = true := decide_eq_true c2
  have c2b1 : decide (2 ≤ l0.length) = true := decide_eq_true (by omega)
  clear c2
  replace H := Option.bind_eq_some_iff.mp H
  obtain ⟨t372, A30, H⟩ := H
  replace H : (some (t372 == 0)) = some r := H
  have A3 := ax A30
  clear A30
  obtain rfl := Option.some.inj H
  go_enter Tryz.func74, Tryz.ntmps74
  go_wp2_with (first | (go_at_call 124; (with_reducible refine (crc16_Sum.calls k _ _ l0 t372 _ ?side1 ?side2 A3.out).mono ?_); (case side1 => repeat (first | exact HR0.out | (with_reducible refine Kd.C_alloc ?_ _) | (with_reducible refine Kd.C_drewN ?_ _) | (with_reducible refine Kd.C_drew ?_))); (case side2 => exact HC0.out); rintro e w' ⟨rfl, ⟨nd, rfl⟩⟩))
  go_ret
  exact ⟨rs_, dr_⟩
 ·rw [if_neg c2] at H
  have c2b0 : decide (2 ≤ (l0.length : Int)) = false := decide_eq_false c2
  have c2b1 : decide (2 ≤ l0.length) = false := decide_eq_false (by omega)
  clear c2
  obtain rfl := Option.some.inj H
  go_enter Tryz.func74, Tryz.ntmps74
  go_wp2
  go_ret
  exact ⟨rs_, dr_⟩
end
end Go.Proofs.YtajiggmeappfaaaGreatDoor.P
