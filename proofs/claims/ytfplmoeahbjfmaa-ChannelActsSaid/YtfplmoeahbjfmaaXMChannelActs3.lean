/- Texts of this seat, one behind the other (merge.py): the walks of the functions that the law ChannelActs uses, and plain words on what they come to. No condition. -/
import Derived.Test.YtfplmoeahbjfmaaXMChannelActs2
-- YtfplmoeahbjfmaaPCActsW
namespace Go.Proofs.Ytfplmoeahbjfmaa.P
open Go Go.Proofs Go.RowKit Go.Shelf Go.Proofs.YtfplmoeahbjfmaaW.PrintWords Go.Proofs.YtfplmoeahbjfmaaW.PrintLast Go.Proofs.YtfplmoeahbjfmaaW.PrintMore
set_option linter.unusedVariables false
set_option linter.unusedSimpArgs false
attribute [local go_sem] max2_int min2_int max_two min_two

theorem u8_size : (Try.prog.info? 5).map (·.size) = some 1 := by kernel_rfl
theorem i64_infoS : (Try.prog.info? 3).map (fun i => (i.zero, i.size, i.bytes)) = some (some (.int .i64 0), 1, 8) := by kernel_rfl
def acts42p.T : Bool × List (List Nat × List Nat) := (true, [([], []), ([0], [0]), ([], []), ([2], [2]), ([3], [3]), ([4], [4]), ([5], [5]), ([1, 6], [1, 6]), ([7, 1], [7]), ([8], [8]), ([9, 8, 8], [8, 9]), ([8], [8]), ([11, 8], [8, 11]), ([12, 8], [8, 12]), ([13, 8], [8, 13]), ([10, 14, 8], [8, 10, 14]), ([8, 15], [8, 15])])
def acts42p.B : List Nat := [0, 1, 0, 4, 12, 28, 60, 127, 255, 511, 1023, 511, 2559, 6655, 14847, 32767, 65535]
theorem acts42p.tab : rtab .any (opsOf Try.f9 42) = acts42p.T := by kernel_rfl
theorem acts42p.bits : waitsOk acts42p.T.2 acts42p.B = true := by kernel_rfl
def acts42q.T : Bool × List (List Nat × List Nat) := (true, [([], []), ([0], [0]), ([], []), ([2], [2]), ([3], [3]), ([4], [4]), ([5], [5]), ([1, 6], [1, 6]), ([7, 1], [7]), ([8], [8]), ([9, 8, 8], [8, 9]), ([8], [8]), ([11, 8], [8, 11]), ([12, 8], [8, 12]), ([13, 8], [8, 13]), ([10, 14, 8], [8, 10, 14]), ([8, 15], [8, 15])])
def acts42q.B : List Nat := [0, 1, 0, 4, 12, 28, 60, 127, 255, 511, 1023, 511, 2559, 6655, 14847, 32767, 65535]
theorem acts42q.tab : rtab .any (opsOf Try.f9 42) = acts42q.T := by kernel_rfl
theorem acts42q.bits : waitsOk acts42q.T.2 acts42q.B = true := by kernel_rfl
def acts42s.T : Bool × List (List Nat × List Nat) := (true, [([], []), ([0], [0]), ([], []), ([2], [2]), ([3], [3]), ([4], [4]), ([5], [5]), ([1, 6], [1, 6]), ([7, 1], [7]), ([8], [8]), ([9, 8, 8], [8, 9]), ([8], [8]), ([11, 8], [8, 11]), ([12, 8], [8, 12]), ([13, 8], [8, 13]), ([10, 14, 8], [8, 10, 14]), ([8, 15], [8, 15])])
def acts42s.B : List Nat := [0, 1, 0, 4, 12, 28, 60, 127, 255, 511, 1023, 511, 2559, 6655, 14847, 32767, 65535]
theorem acts42s.tab : rtab .any (opsOf Try.f9 42) = acts42s.T := by kernel_rfl
theorem acts42s.bits : waitsOk acts42s.T.2 acts42s.B = true := by kernel_rfl
def acts29a.T : Bool × List (List Nat × List Nat) := (true, [([], []), ([], []), ([0, 1], [0, 1]), ([2], [2]), ([3], [3]), ([4, 3], [3, 4]), ([5, 3], [3, 5]), ([3], [3]), ([7, 3], [3, 7]), ([6, 8, 3], [3, 6, 8]), ([3, 9], [3, 9]), ([10, 3], [10]), ([11], [11]), ([12, 11], [11, 12]), ([13, 11], [11, 13]), ([11], [11]), ([15, 11], [11, 15]), ([14, 16, 11], [11, 14, 16]), ([11, 17], [11, 17]), ([18, 11], [18]), ([19], [19]), ([20, 19], [19, 20]), ([19], [19]), ([22, 19], [19, 22]), ([21, 23, 19], [19, 21, 23]), ([19, 24], [19, 24]), ([25, 19], [25]), ([26], [26]), ([27, 26], [26, 27]), ([28, 26, 26], [26, 28]), ([29], [29]), ([30, 29, 29], [29, 30]), ([29], [29]), ([32, 29], [29, 32]), ([31, 33, 29], [29, 31, 33]), ([29], [29]), ([34, 35, 29], [29, 34, 35]), ([29, 36, 26], [26, 29, 36]), ([26, 37], [26, 37])])
def acts29a.B : List Nat := [0, 0, 3, 7, 15, 31, 63, 15, 143, 511, 1023, 2047, 4095, 8191, 16383, 4095, 36863, 131071, 262143, 524287, 1048575, 2097151, 1048575, 5242879, 16777215, 33554431, 67108863, 134217727, 268435455, 536870911, 1073741823, 2147483647, 1073741823, 5368709119, 17179869183, 1073741823, 68719476735, 137438953471, 274877906943]
theorem acts29a.tab : rtab .any (opsOf Try.f9 29) = acts29a.T := by kernel_rfl
theorem acts29a.bits : waitsOk acts29a.T.2 acts29a.B = true := by kernel_rfl
def acts29b.T : Bool × List (List Nat × List Nat) := (true, [([], []), ([], []), ([0, 1], [0, 1]), ([2], [2]), ([3], [3]), ([4, 3], [3, 4]), ([5, 3], [3, 5]), ([3], [3]), ([7, 3], [3, 7]), ([6, 8, 3], [3, 6, 8]), ([3, 9], [3, 9]), ([10, 3], [10]), ([11], [11]), ([12, 11], [11, 12]), ([13, 11], [11, 13]), ([11], [11]), ([15, 11], [11, 15]), ([14, 16, 11], [11, 14, 16]), ([11, 17], [11, 17]), ([18, 11], [18]), ([19], [19]), ([20, 19], [19, 20]), ([19], [19]), ([22, 19], [19, 22]), ([21, 23, 19], [19, 21, 23]), ([19, 24], [19, 24]), ([25, 19], [25]), ([26], [26]), ([27, 26], [26, 27]), ([28, 26, 26], [26, 28]), ([29], [29]), ([30, 29, 29], [29, 30]), ([29], [29]), ([32, 29], [29, 32]), ([31, 33, 29], [29, 31, 33]), ([29], [29]), ([34, 35, 29], [29, 34, 35]), ([29, 36, 26], [26, 29, 36]), ([26, 37], [26, 37])])
def acts29b.B : List Nat := [0, 0, 3, 7, 15, 31, 63, 15, 143, 511, 1023, 2047, 4095, 8191, 16383, 4095, 36863, 131071, 262143, 524287, 1048575, 2097151, 1048575, 5242879, 16777215, 33554431, 67108863, 134217727, 268435455, 536870911, 1073741823, 2147483647, 1073741823, 5368709119, 17179869183, 1073741823, 68719476735, 137438953471, 274877906943]
theorem acts29b.tab : rtab .any (opsOf Try.f9 29) = acts29b.T := by kernel_rfl
theorem acts29b.bits : waitsOk acts29b.T.2 acts29b.B = true := by kernel_rfl
def acts42l.T : Bool × List (List Nat × List Nat) := (true, [([], []), ([0], [0]), ([], []), ([2], [2]), ([3], [3]), ([4], [4]), ([5], [5]), ([1, 6], [1, 6]), ([7, 1], [7]), ([8], [8]), ([9, 8, 8], [8, 9]), ([8], [8]), ([11, 8], [8, 11]), ([12, 8], [8, 12]), ([13, 8], [8, 13]), ([10, 14, 8], [8, 10, 14]), ([8, 15], [8, 15])])
def acts42l.B : List Nat := [0, 1, 0, 4, 12, 28, 60, 127, 255, 511, 1023, 511, 2559, 6655, 14847, 32767, 65535]
theorem acts42l.tab : rtab .any (opsOf Try.f9 42) = acts42l.T := by kernel_rfl
theorem acts42l.bits : waitsOk acts42l.T.2 acts42l.B = true := by kernel_rfl
def acts36.T : Bool × List (List Nat × List Nat) := (true, [([], []), ([], []), ([1], [1]), ([0, 2], [0, 2]), ([], []), ([], []), ([5], [5]), ([4, 6, 3], [4, 6]), ([3, 7], [3, 7])])
def acts36.B : List Nat := [0, 0, 2, 7, 0, 0, 32, 127, 255]
theorem acts36.tab : rtab .any (opsOf Try.f9 36) = acts36.T := by kernel_rfl
theorem acts36.bits : waitsOk acts36.T.2 acts36.B = true := by kernel_rfl
def acts40.T : Bool × List (List Nat × List Nat) := (true, [([], []), ([], []), ([1], [1]), ([], []), ([0, 2, 3], [0, 2, 3]), ([], []), ([], []), ([6], [6]), ([], []), ([5, 7, 8, 4], [5, 7, 8]), ([4, 9], [4, 9])])
def acts40.B : List Nat := [0, 0, 2, 0, 15, 0, 0, 64, 0, 511, 1023]
theorem acts40.tab : rtab .any (opsOf Try.f9 40) = acts40.T := by kernel_rfl
theorem acts40.bits : waitsOk acts40.T.2 acts40.B = true := by kernel_rfl
def acts42a.T : Bool × List (List Nat × List Nat) := (true, [([], []), ([0], [0]), ([], []), ([2], [2]), ([3], [3]), ([4], [4]), ([5], [5]), ([1, 6], [1, 6]), ([7, 1], [7]), ([8], [8]), ([9, 8, 8], [8, 9]), ([8], [8]), ([11, 8], [8, 11]), ([12, 8], [8, 12]), ([13, 8], [8, 13]), ([10, 14, 8], [8, 10, 14]), ([8, 15], [8, 15])])
def acts42a.B : List Nat := [0, 1, 0, 4, 12, 28, 60, 127, 255, 511, 1023, 511, 2559, 6655, 14847, 32767, 65535]
theorem acts42a.tab : rtab .any (opsOf Try.f9 42) = acts42a.T := by kernel_rfl
theorem acts42a.bits : waitsOk acts42a.T.2 acts42a.B = true := by kernel_rfl
def acts42b.T : Bool × List (List Nat × List Nat) := (true, [([], []), ([0], [0]), ([], []), ([2], [2]), ([3], [3]), ([4], [4]), ([5], [5]), ([1, 6], [1, 6]), ([7, 1], [7]), ([8], [8]), ([9, 8, 8], [8, 9]), ([8], [8]), ([11, 8], [8, 11]), ([12, 8], [8, 12]), ([13, 8], [8, 13]), ([10, 14, 8], [8, 10, 14]), ([8, 15], [8, 15])])
def acts42b.B : List Nat := [0, 1, 0, 4, 12, 28, 60, 127, 255, 511, 1023, 511, 2559, 6655, 14847, 32767, 65535]
theorem acts42b.tab : rtab .any (opsOf Try.f9 42) = acts42b.T := by kernel_rfl
theorem acts42b.bits : waitsOk acts42b.T.2 acts42b.B = true := by kernel_rfl
def acts42t.T : Bool × List (List Nat × List Nat) := (true, [([], []), ([0], [0]), ([], []), ([2], [2]), ([3], [3]), ([4], [4]), ([5], [5]), ([1, 6], [1, 6]), ([7, 1], [7]), ([8], [8]), ([9, 8, 8], [8, 9]), ([8], [8]), ([11, 8], [8, 11]), ([12, 8], [8, 12]), ([13, 8], [8, 13]), ([10, 14, 8], [8, 10, 14]), ([8, 15], [8, 15])])
def acts42t.B : List Nat := [0, 1, 0, 4, 12, 28, 60, 127, 255, 511, 1023, 511, 2559, 6655, 14847, 32767, 65535]
theorem acts42t.tab : rtab .any (opsOf Try.f9 42) = acts42t.T := by kernel_rfl
theorem acts42t.bits : waitsOk acts42t.T.2 acts42t.B = true := by kernel_rfl
def acts42n.T : Bool × List (List Nat × List Nat) := (true, [([], []), ([0], [0]), ([], []), ([2], [2]), ([3], [3]), ([4], [4]), ([5], [5]), ([1, 6], [1, 6]), ([7, 1], [7]), ([8], [8]), ([9, 8, 8], [8, 9]), ([8], [8]), ([11, 8], [8, 11]), ([12, 8], [8, 12]), ([13, 8], [8, 13]), ([10, 14, 8], [8, 10, 14]), ([8, 15], [8, 15])])
def acts42n.B : List Nat := [0, 1, 0, 4, 12, 28, 60, 127, 255, 511, 1023, 511, 2559, 6655, 14847, 32767, 65535]
theorem acts42n.tab : rtab .any (opsOf Try.f9 42) = acts42n.T := by kernel_rfl
theorem acts42n.bits : waitsOk acts42n.T.2 acts42n.B = true := by kernel_rfl
set_option maxRecDepth 100000 in
set_option maxHeartbeats 16000000 in
theorem acts_calls (a0 : Int) (A1 : Option Addr) (c1 : Nat) (l1 : List Ac) (w : World) (hr1 : kAc.C w A1 l1.length l1) (hc1 : l1.length ≤ c1) (hw1 : ∀ x ∈ l1, ∀ y ∈ x.2.1, 0 ≤ y ∧ y ≤ 255) :
    Calls Try.prog 9 #[.int .i64 a0, .slice A1 l1.length c1] w fun e w' => e = .returned (.bool true) ∧ Below w.heap.size w w' := by
  have HR1 := Aside0.mk hr1
  have HW1 := Aside0.mk hw1
  have HB := Aside0.mk (Below.refl w.heap.size w)
  clear hr1 hw1
  go_enter Try.func9, Try.ntmps9
  go_wp2_with (first
    | (go_at_call 24; refine (none_calls _).mono ?_; rintro e w1 ⟨rfl, rfl⟩)
    | (go_at_call 12; refine (putN_calls _).mono ?_; rintro e w1 ⟨rfl, rfl⟩)
    | (go_at_call 25; refine (takeN_calls _ _).mono ?_; rintro e w2 ⟨rfl, hb⟩; have n0 := Aside0.mk (below_step HB.out hb); clear HB hb; have HB := n0; clear n0)
    | (go_at_call 11; refine (flies_calls _).mono ?_; rintro e w3 ⟨rfl, hb⟩; have n0 := Aside0.mk (below_step (below_step HB.out (below_alloc (Below.refl _ _) _)) hb); clear HB hb; have HB := n0; clear n0)
    | (go_at_call 13; refine (stepN_calls _).mono ?_; rintro e w4 ⟨rfl, hb⟩; have n0 := Aside0.mk (below_step HB.out hb); clear HB hb; have HB := n0; clear n0)
    | (go_at_call 26; refine (loseN_calls _ _).mono ?_; rintro e w5 ⟨rfl, hb⟩; have n0 := Aside0.mk (below_step HB.out hb); clear HB hb; have HB := n0; clear n0)
    | (go_at_call 15; refine (twiceN_calls _ _).mono ?_; rintro e w1 ⟨rfl, rfl⟩)
    | (go_at_call 27; refine (turnN_calls _ _).mono ?_; rintro e w1 ⟨rfl, rfl⟩)
    | (go_at_call 14; refine (lenN_calls _).mono ?_; rintro e w1 ⟨rfl, rfl⟩)
    | (go_at_call 28; refine (nowN_calls _).mono ?_; rintro e w1 ⟨rfl, rfl⟩)
    | (go_at_call 10; refine Aside0.out ?_)
    | fail)
  refine Aside0.mk ?_
  by_cases ha1 : a0 < 1
  · have d1 : decide (a0 < 1) = true := decide_eq_true ha1
    refine (cnew_bad _ a0 (by omega)).mono ?_
    rintro e w6 ⟨rfl, rfl⟩
    go_wp2_with fail
    go_ret
    exact ⟨by simp, HB.out⟩
  by_cases ha2 : 1000 < a0
  · have d1 : decide (a0 < 1) = false := decide_eq_false ha1
    have d2 : decide (a0 > 1000) = true := decide_eq_true ha2
    have d3 : decide (1000 < a0) = true := decide_eq_true ha2
    refine (cnew_bad _ a0 (by omega)).mono ?_
    rintro e w6 ⟨rfl, rfl⟩
    go_wp2_with fail
    go_ret
    exact ⟨by simp, HB.out⟩
  have d1 : decide (a0 < 1) = false := decide_eq_false ha1
  have d2 : decide (a0 > 1000) = false := decide_eq_false ha2
  have d3 : decide (1000 < a0) = false := decide_eq_false ha2
  have ha : 1 ≤ a0 ∧ a0 ≤ 1000 := ⟨by omega, by omega⟩
  refine (cnew_calls w5 w.heap.size a0 HB.out.size ha.1 ha.2).mono ?_
  rintro e w6 ⟨g, rfl, hg, hc, hb⟩
  have HC6 := Aside0.mk hc
  have HB6 := Aside0.mk (below_step HB.out hb)
  clear hg hc hb HB
  go_wp2_with fail
  have hh0 := blk_new w6 (.cells #[.int .i64 a0, .int .i64 0, .slice none 0 0] 57)
  have hba := below_alloc (Below.refl w6.heap.size w6) (.cells #[.int .i64 a0, .int .i64 0, .slice none 0 0] 57)
  obtain ⟨w7, hw7⟩ : ∃ w7, w7 = w6.alloc (.cells #[.int .i64 a0, .int .i64 0, .slice none 0 0] 57) := ⟨_, rfl⟩
  obtain ⟨h, hh⟩ : ∃ h, h = w6.heap.size := ⟨_, rfl⟩
  rw [← hw7, ← hh] at hh0
  rw [← hw7] at hba
  rw [← hw7, ← hh]
  have HCD := Aside0.mk (show CD w w7 g h a0 0 (.slice none 0 0) (.slice none 0 0) [] from ⟨HC6.out.below hba, ⟨hh0, Kd.R_nil _ _ _ _ _, by rw [hh]; exact HB6.out.size⟩, below_step HB6.out hba⟩)
  clear hh0 hba hw7 hh HC6 HB6 d1 d2 d3
  go_loopw [10] (fun v10 wr => ∃ (i : Nat) (now : Int) (v vd : Value) (L : List Fl), v10 = .int .i64 (i : Int) ∧ i ≤ 60 ∧ Aside0 (CD w wr g h a0 now v vd L) ∧ Aside0 (Ok a0 now L) ∧ Aside0 (0 ≤ now ∧ now ≤ (i : Int))) (fun v10 _ => 60 - (intOf v10).toNat)
  case atStart => exact ⟨0, 0, _, _, [], by simp, by omega, HCD, ⟨{ sm := fun f hf => (by cases hf), len := Nat.zero_le _, old := fun f hf => (by cases hf) }⟩, ⟨by simp⟩⟩
  case round =>
    clear HCD
    obtain ⟨i, now, v, vd, L, rfl, hi60, HC, HO, HN⟩ := hrel
    by_cases h1 : i < l1.length
    · have h1b : decide ((i : Int) < (l1.length : Int)) = true := decide_eq_true (by omega)
      by_cases h2 : i < 60
      · have h2b : decide ((i : Int) < 60) = true := decide_eq_true (by omega)
        obtain ⟨ad, x, Ab, cb, At, ct, rfl, hx, hx0, hx1, hx2, hx3, hcb, hrb, hct, hrt⟩ := acts_at HR1.out i h1
        replace hx0 := (HC.out.bel.cell (World.block_lt_of_cell? _ _ hx0)).trans hx0
        replace hx1 := (HC.out.bel.cell (World.block_lt_of_cell? _ _ hx1)).trans hx1
        replace hx2 := (HC.out.bel.cell (World.block_lt_of_cell? _ _ hx2)).trans hx2
        replace hx3 := (HC.out.bel.cell (World.block_lt_of_cell? _ _ hx3)).trans hx3
        have hxm := HW1.out x (List.mem_of_getElem? hx)
        obtain ⟨wh, hwh⟩ : ∃ wh, wh = x.1 := ⟨_, rfl⟩
        obtain ⟨bb, hbb⟩ : ∃ bb, bb = x.2.1 := ⟨_, rfl⟩
        obtain ⟨k, hk⟩ : ∃ k, k = x.2.2.1 := ⟨_, rfl⟩
        obtain ⟨tt, htt⟩ : ∃ tt, tt = x.2.2.2 := ⟨_, rfl⟩
        rw [← hwh] at hx0
        rw [← hbb] at hx1 hcb hrb hxm
        rw [← hk] at hx2
        rw [← htt] at hx3 hct hrt
        obtain ⟨nb, hnb⟩ : ∃ nb, nb = bb.length := ⟨_, rfl⟩
        obtain ⟨nt, hnt⟩ : ∃ nt, nt = tt.length := ⟨_, rfl⟩
        rw [← hnb] at hx1 hcb
        rw [← hnt] at hx3 hct
        have HRB := Aside0.mk hrb
        have HRT := Aside0.mk hrt
        have HXM := Aside0.mk hxm
        have HNB := Aside0.mk hnb
        have HNT := Aside0.mk hnt
        obtain ⟨q, hq, hq7⟩ := modN 7 (by decide) (by decide) wh
        clear hrb hrt hxm hnb hnt hx hwh hbb hk htt
        have hq' : q = 0 ∨ q = 1 ∨ q = 2 ∨ q = 3 ∨ q = 4 ∨ q = 5 ∨ q = 6 := by omega
        have hba8 := below_alloc (Below.refl wr.heap.size wr) (.cells #[.int .i64 wh, .slice Ab nb cb, .int .i64 k, .slice At nt ct] 59)
        have hb8 := blk_new wr (.cells #[.int .i64 wh, .slice Ab nb cb, .int .i64 k, .slice At nt ct] 59)
        obtain ⟨w8, hw8⟩ : ∃ w8, w8 = wr.alloc (.cells #[.int .i64 wh, .slice Ab nb cb, .int .i64 k, .slice At nt ct] 59) := ⟨_, rfl⟩
        rw [← hw8] at hba8 hb8
        have HC8 := Aside0.mk (HC.out.below hba8)
        have HK8 := Aside0.mk hb8
        have HW8 := Aside0.mk hw8
        clear hba8 hb8 hw8
        rcases hq' with rfl | rfl | rfl | rfl | rfl | rfl | rfl
        · have hq : IntKind.i64.wrap ((IntKind.u64.wrap wh).tmod 7) = 0 := hq
          as_aux_lemma =>
            obtain ⟨J, hJ⟩ : ∃ J : Int, (if (30 : Int) < (nb : Int) then (30 : Int) else (nb : Int)) = J := ⟨_, rfl⟩
            have hJa : 0 ≤ J := by rw [← hJ]; split <;> omega
            have hJb : J ≤ (nb : Int) := by rw [← hJ]; split <;> omega
            have hJc : J ≤ 30 := by rw [← hJ]; split <;> omega
            obtain ⟨M, rfl⟩ := Int.eq_ofNat_of_zero_le hJa
            obtain ⟨i5, hi5, hz3, hz4, hz5⟩ := info_parts u8_infoS
            have hla : (bb.take M).length = M := by rw [List.length_take, ← HNB.out]; omega
            obtain ⟨hcut, hA, hCC⟩ := print_take_of (P := Try.prog) (Value.int .u8) 0 31 5 .i64 Try.underlying31 hi5 hz4 Ab cb bb (M : Int) hJa (by rw [← HNB.out]; exact hJb) (by rw [← HNB.out]; exact hcb)
            rw [Int.toNat_natCast] at hcut hA hCC
            have HRA := Aside0.mk (fun w' (hb : Below w.heap.size w w') => (Kd.C_of_reads (h1 := fun _ => rfl) (hA w' (Kd.reads_of_C (Kd.C_below HRB.out hb))) : Kd.C (Kd.int .u8) w' Ab (bb.take M).length (bb.take M)))
            have htx : Txt (bb.take M) := ⟨fun y hy => HXM.out y (List.mem_of_mem_take hy), by omega⟩
            rw [hla] at hcut
            rw [← HNB.out] at hcut
            generalize bb.take M = b at hla HRA htx
            have d0 : ((M : Int) ≤ (nb : Int)) = True := eq_true hJb
            have d0b : decide ((M : Int) ≤ (nb : Int)) = true := decide_eq_true hJb
            have HLA := Aside0.mk hla
            have HTX := Aside0.mk htx
            clear hA hCC hla hz3 hz4 hz5 hi5 hJa htx
            go_wp2_with (first
              | ((with_reducible refine gate_dst (N := 106) rfl ?_); rw [← HW8.out]; refine Kd.R_lit (Kd.int .u8) (w0 := w8) w8.heap.size 5 ?hg (N := 106) ?hd (xs := ([] : List Int)) (inner := []) (ok := fun _ => True) (okp := fun _ => False) ?hr ?hp (fun _ hk => hk.elim) trivial (Below.refl _ _) (Nat.le_refl _) (by simp) ?_; (case hd => rfl); (case hg => rfl); (case hr => first | (go_simp; done) | (go_simp; rfl)); (case hp => exact (Reps.none _ _)); intro v106 w10 ho hb hg hn; have H106 := Aside0.mk ho; have HB1 := Aside0.mk hb; have HN6 := Aside0.mk hn; have hcK := (hb.cell (p := ⟨wr.heap.size, 1, none⟩) (blk_lt HK8.out)).trans (blk_cell HK8.out 1 : _ = some (Value.slice Ab nb cb)); clear ho hb hg hn hq hx0 hx1 hx2 hx3)
              | ((with_reducible refine gate_builtin (b := .append) (xs := #[.tmp 106, .tmp 113]) rfl ?_); at_builtin; refine Kd.R_append_rows (Kd.int .u8) (w0 := w8) w8.heap.size rfl (.tmp 106) (.tmp 113) 31 5 (.int .u8 0) 1 rfl Try.underlying31 u8_infoS rfl (by decide) (by omega) v106 [] b Ab M cb (fun _ => True) (fun _ => False) rfl rfl H106.out (by have hx := HRA.out _ (below_step HC8.out.bel HB1.out); rw [HLA.out] at hx; exact hx) (fun _ _ h => h) (fun _ h => h.elim) (fun k hk => trivial) HB1.out HB1.out.size (by simp only [List.length_nil]; omega) ?_; intro v12 w11 ho hb hg hat; rw [List.nil_append] at ho; have H12 := Aside0.mk ho; have HB2 := Aside0.mk hb; have HN12 := Aside0.mk (show ∃ B, v12.ownBlock = some B ∧ w8.heap.size ≤ B from by
                    obtain ⟨B0, e0, h0⟩ := HN6.out
                    rcases hat with q | ⟨B1, e1, h1⟩
                    · exact ⟨B0, q.trans e0, h0⟩
                    · exact ⟨B1, e1, Nat.le_trans HB1.out.size h1⟩)
                 clear ho hb hg hat HB1 H106 hcK HN6)
              | (go_at_call 12; refine Aside0.out ?_) | fail)
            refine Aside0.mk ?_
            clear hcut hJ hJb d0 d0b
            obtain ⟨B, hB1, hB2⟩ := HN12.out
            obtain ⟨A12, c12, e12⟩ := Kd.R_slice H12.out
            rw [HLA.out] at e12
            subst e12
            have hCD := HC8.out.below HB2.out
            have hap : Kd.R kFl 50 w11 w.heap.size (fun k => k ≠ B) v L := Kd.R_below (Kd.R_mono (Kd.R_bound HC8.out.cs.row) (fun k ok => by have := ok.2.2.1; omega)) HB2.out
            have hB3 : B < w11.heap.size := Kd.R_lt H12.out B hB1
            have hrd := Kd.R_reads' H12.out
            have htl : b.length ≤ 30 := HTX.out.2
            have hMl : M = b.length := HLA.out.symm
            have hpc := putb_calls hCD.cs hap hB3 A12 c12 b hrd.2.2 (by rw [HLA.out]; exact hrd.2.1) (by omega)
            obtain ⟨L9, hL9⟩ : ∃ L9, L9 = putC now b L := ⟨_, rfl⟩
            rw [← hL9, HLA.out] at hpc
            refine hpc.mono ?_
            rintro e w13 ⟨rfl, v9, hc9, hf9, hn9, hap9⟩
            have hds := hCD.ds.far2 hCD.cs hf9
            have hrow := row_far_c hCD.cs hf9 H12.out (fun q hq => by rw [u8_far (α := Int) q hq]; decide)
            have hdp := dput_calls hds A12 c12 b (Kd.R_reads' hrow).2.2
            rw [← hL9, HLA.out] at hdp
            have HDP := Aside0.mk hdp
            have HP := Aside0.mk (And.intro hds (And.intro hrow (And.intro hap9 (And.intro hc9 (bel_c hCD.cs hf9 hCD.bel)))))
            have HOK := Aside0.mk (show Ok a0 now L9 by rw [hL9]; exact HO.out.put HTX.out ha.1 (by have := HN.out; omega))
            have HOB := Aside0.mk (And.intro hB1 (And.intro hB2 HC8.out.bel.size))
            clear hCD hap hB3 hrd htl hMl hpc hL9 hc9 hf9 hn9 hap9 hds hrow hdp hB1 hB2 HN12 H12 HB2 HC8
            go_wp2_with (go_at_call 29; refine HDP.out.mono ?_; rintro e w14 ⟨rfl, vd9, hd9, hfd9, hnd9⟩; have HPB := Aside0.mk (show PB w w14 g h a0 now v9 vd9 L9 B (.slice A12 M c12) M from ⟨⟨HP.out.2.2.2.1.far2 HP.out.1 hfd9, hd9, bel_d HP.out.1 hfd9 HP.out.2.2.2.2⟩, row_far_d HP.out.1 hfd9 HP.out.2.2.1 (fun q hq => by rcases kFl_types q hq with rfl | rfl <;> decide), ⟨b, HLA.out, Kd.R_lower (row_far_d HP.out.1 hfd9 HP.out.2.1 (fun q hq => by rw [u8_far (α := Int) q hq]; decide)) HOB.out.2.2⟩, HOB.out.1⟩); clear hd9 hfd9 hnd9)
            clear HDP HP HC
            go_loopw [13] (fun v13 wq => ∃ j : Nat, v13 = .int .i64 (j : Int) ∧ j ≤ M ∧ Aside0 (PB w wq g h a0 now v9 vd9 L9 B (.slice A12 M c12) M)) (fun v13 _ => M - (intOf v13).toNat)
            case atStart => exact ⟨0, by simp, by omega, HPB⟩
            case round =>
              clear HPB
              obtain ⟨j, rfl, hj, HPB⟩ := hrel
              by_cases hlt : j < M
              · have hlb : decide ((j : Int) < (M : Int)) = true := decide_eq_true (by omega)
                obtain ⟨bs, hbl, hbr⟩ := HPB.out.row
                obtain ⟨gb, cap, eg, _, _, _⟩ := Kd.R_form hbr (by omega)
                injection eg with eA _ eC
                subst eA
                subst eC
                have hgB : gb = B := by have e := HPB.out.own; simp [Value.ownBlock] at e; exact e
                subst hgB
                have hcx := C_cell (Kd.R_reads' hbr).2.2 (j : Int) (by omega) (by omega)
                rw [Int.toNat_natCast, add_plain] at hcx
                obtain ⟨x8, hx8⟩ : ∃ x8, x8 = rdOf 0 bs (j : Int) := ⟨_, rfl⟩
                rw [← hx8] at hcx
                have HBR := Aside0.mk (And.intro hbl hbr)
                clear hbl hbr hx8
                go_wp2_with (first | ((with_reducible refine gate_ (.store 5 (.tmp 132) (.tmp 131)) rfl ?_); refine Aside0.out ?_) | fail)
                refine Aside0.mk ?_
                refine Kd.R_store (Kd.int .u8) (w0 := wr) w.heap.size rfl rfl 5 (.tmp 132) (.tmp 131) rfl 5 (g := gb) (n := M) (cap := c12) (o' := j) (j : Int) 0 bs (Go.bits .xor .u8 x8 1) (.int .u8 (Go.bits .xor .u8 x8 1)) [.int .u8 (Go.bits .xor .u8 x8 1)] [.int .u8 x8] (fun _ => True) (fun _ => False) ?s1 ?s2 ?s3 rfl u8_size ?s4 HBR.out.2 ?s5 ?s6 rfl ?s7 (show 0 + 1 ≤ 1 by omega) rfl (fun _ hk => hk.elim) (Below.refl _ _) ?_
                case s1 => first | rfl | (go_simp; done)
                case s2 => rw [Int.toNat_natCast]; exact (by simp [Kd.int, Kd.scalar])
                case s3 => first | rfl | (go_simp; done)
                case s4 => intro q hq; simp at hq; subst hq; rfl
                case s5 => omega
                case s6 => omega
                case s7 =>
                  intro q u hu
                  match q, hu with
                  | 0, hu =>
                    injection hu with hu
                    subst hu
                    have e : (j : Int).toNat * (Kd.int .u8).sz + 0 = j := by rw [Int.toNat_natCast]; simp [Kd.int, Kd.scalar]
                    rw [e]
                    simpa using hcx
                  | q + 1, hu => simp at hu
                intro w15 ho hb15 hg15
                have HPB2 := Aside0.mk (HPB.out.put hg15 (by rw [List.length_set]; exact HBR.out.1) ho)
                clear ho hb15 hg15 HBR HPB hcx
                go_wp2_with fail
                go_roundw
                case rel => exact ⟨j + 1, by simp, by omega, HPB2⟩
                case measure => simp [intOf]; omega
              · obtain rfl : j = M := by omega
                have hlb : decide ((j : Int) < (j : Int)) = false := decide_eq_false (by omega)
                have HCD := Aside0.mk HPB.out.cd
                have HNN := Aside0.mk (show 0 ≤ now ∧ now ≤ ((i + 1 : Nat) : Int) by have := HN.out; omega)
                obtain ⟨now9, hnow9⟩ : ∃ now9, now9 = now := ⟨_, rfl⟩
                rw [← hnow9] at HCD HNN HOK
                clear hnow9 HPB HN HO HLA HRA HTX HOB
                go_wp2_with fail
                have n0 := Aside0.mk (HCD.out.below (below_drew1 (Below.refl wr.heap.size wr)))
                clear HCD
                have HCD := n0
                clear n0
                obtain ⟨nL9, hnL9⟩ : ∃ nL9, nL9 = L9.length := ⟨_, rfl⟩
                obtain ⟨Ad9, cd9, ed9⟩ := HCD.out.ds.slice
                rw [← hnL9] at ed9
                have hcl9 := clen_calls HCD.out.cs
                rw [← hnL9] at hcl9
                have HCL := Aside0.mk hcl9
                have HCN := Aside0.mk (cnow_calls HCD.out.cs)
                have HS := Aside0.mk (show wr.drew.cell? ⟨h, 2, none⟩ = some (.slice Ad9 nL9 cd9) ∧ wr.drew.cell? ⟨h, 1, none⟩ = some (.int .i64 now9) from ⟨by rw [← ed9]; exact blk_cell HCD.out.ds.blk 2, blk_cell HCD.out.ds.blk 1⟩)
                have HNL := Aside0.mk hnL9
                clear hnL9 ed9 hcl9
                refine start_ (n := 17) (S := (fun w' => w'.cell? ⟨h, 2, none⟩ = some (.slice Ad9 nL9 cd9) ∧ w'.cell? ⟨h, 1, none⟩ = some (.int .i64 now9))) (ds := []) #[false, false, false, false, false, false, false, false, false, false, false, false, false, false, false, false, false] (by kernel_rfl) rfl rfl HS.out (fun hHeld => ?_)
                refine with_tabW acts42p.tab acts42p.bits (fun HT_ HW_ => ?_)
                refine pure_ (i := 0) (N := some 241) (v := ?_) (a' := ?_) #[true, false, false, false, false, false, false, false, false, false, false, false, false, false, false, false, false] rfl rfl (any_of HT_.out (by kernel_rfl)) (fun _ _ _ h => h) (Or.inl ⟨by rfl, ?_⟩) ?_ ?_
                rotate_left
                · intro w'
                  go_simp
                  with_reducible rfl
                rotate_left
                · simp only [Act.put, List.setIfInBounds_toArray, List.set_cons_zero, List.set_cons_succ, i64_w, i32_w]
                  rfl
                refine pure_ (i := 2) (N := some 243) (v := ?_) (a' := ?_) #[true, false, true, false, false, false, false, false, false, false, false, false, false, false, false, false, false] rfl rfl (any_of HT_.out (by kernel_rfl)) (fun _ _ _ h => h) (Or.inl ⟨by rfl, ?_⟩) ?_ ?_
                rotate_left
                · intro w'
                  go_simp
                  with_reducible rfl
                rotate_left
                · simp only [Act.put, List.setIfInBounds_toArray, List.set_cons_zero, List.set_cons_succ, i64_w, i32_w]
                  rfl
                refine pure_ (i := 3) (N := some 244) (v := ?_) (a' := ?_) #[true, false, true, true, false, false, false, false, false, false, false, false, false, false, false, false, false] rfl rfl (any_of HT_.out (by kernel_rfl)) (fun _ _ _ h => h) (Or.inl ⟨by rfl, ?_⟩) ?_ ?_
                rotate_left
                · intro w'
                  go_simp
                  with_reducible rfl
                rotate_left
                · simp only [Act.put, List.setIfInBounds_toArray, List.set_cons_zero, List.set_cons_succ, i64_w, i32_w]
                  rfl
                refine pure_ (i := 4) (N := some 245) (v := ?_) (a' := ?_) #[true, false, true, true, true, false, false, false, false, false, false, false, false, false, false, false, false] rfl rfl (any_of HT_.out (by kernel_rfl)) (fun _ _ _ h => h) (Or.inl ⟨by rfl, ?_⟩) ?_ ?_
                rotate_left
                · intro w'
                  go_simp
                  with_reducible rfl
                rotate_left
                · simp only [Act.put, List.setIfInBounds_toArray, List.set_cons_zero, List.set_cons_succ, i64_w, i32_w]
                  rfl
                refine take_ (i := 5) (N := some 246) (v := ?_) (a' := ?_) #[true, false, true, true, true, true, false, false, false, false, false, false, false, false, false, false, false] rfl rfl (take_ofW HT_.out HW_.out (by kernel_rfl)) (fun _ _ _ h => h) (Or.inl ⟨by rfl, ?_⟩) hHeld ?_ ?_
                rotate_left
                · rintro w' ⟨s0, s1⟩
                  go_simp
                  with_reducible rfl
                rotate_left
                · simp only [Act.put, List.setIfInBounds_toArray, List.set_cons_zero, List.set_cons_succ, i64_w, i32_w]
                  rfl
                refine pure_ (i := 6) (N := some 247) (v := ?_) (a' := ?_) #[true, false, true, true, true, true, true, false, false, false, false, false, false, false, false, false, false] rfl rfl (any_of HT_.out (by kernel_rfl)) (fun _ _ _ h => h) (Or.inl ⟨by rfl, ?_⟩) ?_ ?_
                rotate_left
                · intro w'
                  go_simp
                  with_reducible rfl
                rotate_left
                · simp only [Act.put, List.setIfInBounds_toArray, List.set_cons_zero, List.set_cons_succ, i64_w, i32_w]
                  rfl
                refine one_ (i := 1) (N := some 242) #[true, true, true, true, true, true, true, false, false, false, false, false, false, false, false, false, false] rfl rfl (one_of HT_.out (by kernel_rfl)) (by decide) (fun K hK => ?_)
                refine goes_ Try.func14 (by kernel_rfl) rfl #[.pointer (some ⟨g, 0, none⟩)] (by rfl) rfl rfl (by (try simp only [List.map_toArray, List.map_cons, List.map_nil]); first | done | rfl | (go_simp; done) | simp [Act.eval]) ?_
                refine HCL.out.mono ?_
                rintro e w11 ⟨rfl, rfl⟩
                refine ⟨_, rfl, ?_⟩
                refine hK.out _ _ HS.out (fun hHeld => ?_)
                clear hK K
                refine norm_ (a' := ?_) ?_ ?_
                rotate_left
                · show Act.put _ (some 242) _ = _
                  simp only [Act.put, List.setIfInBounds_toArray, List.set_cons_zero, List.set_cons_succ, i64_w, i32_w]
                  rfl
                refine pure_ (i := 7) (N := some 248) (v := ?_) (a' := ?_) #[true, true, true, true, true, true, true, true, false, false, false, false, false, false, false, false, false] rfl rfl (any_of HT_.out (by kernel_rfl)) (fun _ _ _ h => h) (Or.inl ⟨by rfl, ?_⟩) ?_ ?_
                rotate_left
                · intro w'
                  go_simp
                  with_reducible rfl
                rotate_left
                · simp only [Act.put, List.setIfInBounds_toArray, List.set_cons_zero, List.set_cons_succ, i64_w, i32_w]
                  rfl
                refine pure_ (i := 8) (N := some 249) (v := ?_) (a' := ?_) #[true, true, true, true, true, true, true, true, true, false, false, false, false, false, false, false, false] rfl rfl (any_of HT_.out (by kernel_rfl)) (fun _ _ _ h => h) (Or.inl ⟨by rfl, ?_⟩) ?_ ?_
                rotate_left
                · intro w'
                  go_simp
                  with_reducible rfl
                rotate_left
                · simp only [Act.put, List.setIfInBounds_toArray, List.set_cons_zero, List.set_cons_succ, i64_w, i32_w]
                  rfl
                refine pure_ (i := 9) (N := some 250) (v := ?_) (a' := ?_) #[true, true, true, true, true, true, true, true, true, true, false, false, false, false, false, false, false] rfl rfl (any_of HT_.out (by kernel_rfl)) (fun _ _ _ h => h) (Or.inl ⟨by rfl, ?_⟩) ?_ ?_
                rotate_left
                · intro w'
                  go_simp
                  with_reducible rfl
                rotate_left
                · simp only [Act.put, List.setIfInBounds_toArray, List.set_cons_zero, List.set_cons_succ, i64_w, i32_w]
                  rfl
                refine pure_ (i := 11) (N := some 252) (v := ?_) (a' := ?_) #[true, true, true, true, true, true, true, true, true, true, false, true, false, false, false, false, false] rfl rfl (any_of HT_.out (by kernel_rfl)) (fun _ _ _ h => h) (Or.inl ⟨by rfl, ?_⟩) ?_ ?_
                rotate_left
                · intro w'
                  go_simp
                  with_reducible rfl
                rotate_left
                · simp only [Act.put, List.setIfInBounds_toArray, List.set_cons_zero, List.set_cons_succ, i64_w, i32_w]
                  rfl
                refine pure_ (i := 12) (N := some 253) (v := ?_) (a' := ?_) #[true, true, true, true, true, true, true, true, true, true, false, true, true, false, false, false, false] rfl rfl (any_of HT_.out (by kernel_rfl)) (fun _ _ _ h => h) (Or.inl ⟨by rfl, ?_⟩) ?_ ?_
                rotate_left
                · intro w'
                  go_simp
                  with_reducible rfl
                rotate_left
                · simp only [Act.put, List.setIfInBounds_toArray, List.set_cons_zero, List.set_cons_succ, i64_w, i32_w]
                  rfl
                refine pure_ (i := 13) (N := some 254) (v := ?_) (a' := ?_) #[true, true, true, true, true, true, true, true, true, true, false, true, true, true, false, false, false] rfl rfl (any_of HT_.out (by kernel_rfl)) (fun _ _ _ h => h) (Or.inl ⟨by rfl, ?_⟩) ?_ ?_
                rotate_left
                · intro w'
                  go_simp
                  with_reducible rfl
                rotate_left
                · simp only [Act.put, List.setIfInBounds_toArray, List.set_cons_zero, List.set_cons_succ, i64_w, i32_w]
                  rfl
                refine take_ (i := 14) (N := some 255) (v := ?_) (a' := ?_) #[true, true, true, true, true, true, true, true, true, true, false, true, true, true, true, false, false] rfl rfl (take_ofW HT_.out HW_.out (by kernel_rfl)) (fun _ _ _ h => h) (Or.inl ⟨by rfl, ?_⟩) hHeld ?_ ?_
                rotate_left
                · rintro w' ⟨s0, s1⟩
                  go_simp
                  with_reducible rfl
                rotate_left
                · simp only [Act.put, List.setIfInBounds_toArray, List.set_cons_zero, List.set_cons_succ, i64_w, i32_w]
                  rfl
                refine one_ (i := 10) (N := some 251) #[true, true, true, true, true, true, true, true, true, true, true, true, true, true, true, false, false] rfl rfl (one_of HT_.out (by kernel_rfl)) (by decide) (fun K hK => ?_)
                refine goes_ Try.func28 (by kernel_rfl) rfl #[.pointer (some ⟨g, 0, none⟩)] (by rfl) rfl rfl (by (try simp only [List.map_toArray, List.map_cons, List.map_nil]); first | done | rfl | (go_simp; done) | simp [Act.eval]) ?_
                refine HCN.out.mono ?_
                rintro e w12 ⟨rfl, rfl⟩
                refine ⟨_, rfl, ?_⟩
                refine hK.out _ _ HS.out (fun hHeld => ?_)
                clear hK K
                refine norm_ (a' := ?_) ?_ ?_
                rotate_left
                · show Act.put _ (some 251) _ = _
                  simp only [Act.put, List.setIfInBounds_toArray, List.set_cons_zero, List.set_cons_succ, i64_w, i32_w]
                  rfl
                refine pure_ (i := 15) (N := some 256) (v := ?_) (a' := ?_) #[true, true, true, true, true, true, true, true, true, true, true, true, true, true, true, true, false] rfl rfl (any_of HT_.out (by kernel_rfl)) (fun _ _ _ h => h) (Or.inl ⟨by rfl, ?_⟩) ?_ ?_
                rotate_left
                · intro w'
                  go_simp
                  with_reducible rfl
                rotate_left
                · simp only [Act.put, List.setIfInBounds_toArray, List.set_cons_zero, List.set_cons_succ, i64_w, i32_w]
                  rfl
                refine pure_ (i := 16) (N := some 257) (v := ?_) (a' := ?_) #[true, true, true, true, true, true, true, true, true, true, true, true, true, true, true, true, true] rfl rfl (any_of HT_.out (by kernel_rfl)) (fun _ _ _ h => h) (Or.inl ⟨by rfl, ?_⟩) ?_ ?_
                rotate_left
                · intro w'
                  go_simp
                  with_reducible rfl
                rotate_left
                · simp only [Act.put, List.setIfInBounds_toArray, List.set_cons_zero, List.set_cons_succ, i64_w, i32_w]
                  rfl
                refine done_ (done_of HT_.out (by kernel_rfl)) ?_
                go_wp2
                go_roundw
                case rel => exact ⟨i + 1, now9, v9, vd9, L9, by simp, by omega, HCD, HOK, HNN⟩
                case measure => simp [intOf]; omega
        · have hq : IntKind.i64.wrap ((IntKind.u64.wrap wh).tmod 7) = 1 := hq
          as_aux_lemma =>
            obtain ⟨J, hJ⟩ : ∃ J : Int, (if (30 : Int) < (nb : Int) then (30 : Int) else (nb : Int)) = J := ⟨_, rfl⟩
            have hJa : 0 ≤ J := by rw [← hJ]; split <;> omega
            have hJb : J ≤ (nb : Int) := by rw [← hJ]; split <;> omega
            have hJc : J ≤ 30 := by rw [← hJ]; split <;> omega
            obtain ⟨M, rfl⟩ := Int.eq_ofNat_of_zero_le hJa
            obtain ⟨i5, hi5, hz3, hz4, hz5⟩ := info_parts u8_infoS
            have hla : (bb.take M).length = M := by rw [List.length_take, ← HNB.out]; omega
            obtain ⟨hcut, hA, hCC⟩ := print_take_of (P := Try.prog) (Value.int .u8) 0 31 5 .i64 Try.underlying31 hi5 hz4 Ab cb bb (M : Int) hJa (by rw [← HNB.out]; exact hJb) (by rw [← HNB.out]; exact hcb)
            rw [Int.toNat_natCast] at hcut hA hCC
            have HRA := Aside0.mk (fun w' (hb : Below w.heap.size w w') => (Kd.C_of_reads (h1 := fun _ => rfl) (hA w' (Kd.reads_of_C (Kd.C_below HRB.out hb))) : Kd.C (Kd.int .u8) w' Ab (bb.take M).length (bb.take M)))
            have htx : Txt (bb.take M) := ⟨fun y hy => HXM.out y (List.mem_of_mem_take hy), by omega⟩
            rw [hla] at hcut
            rw [← HNB.out] at hcut
            generalize bb.take M = b at hla HRA htx
            have d0 : ((M : Int) ≤ (nb : Int)) = True := eq_true hJb
            have d0b : decide ((M : Int) ≤ (nb : Int)) = true := decide_eq_true hJb
            have HLA := Aside0.mk hla
            have HTX := Aside0.mk htx
            clear hA hCC hla hz3 hz4 hz5 hi5 hJa htx
            go_wp2_with (first
              | ((with_reducible refine gate_dst (N := 106) rfl ?_); rw [← HW8.out]; refine Kd.R_lit (Kd.int .u8) (w0 := w8) w8.heap.size 5 ?hg (N := 106) ?hd (xs := ([] : List Int)) (inner := []) (ok := fun _ => True) (okp := fun _ => False) ?hr ?hp (fun _ hk => hk.elim) trivial (Below.refl _ _) (Nat.le_refl _) (by simp) ?_; (case hd => rfl); (case hg => rfl); (case hr => first | (go_simp; done) | (go_simp; rfl)); (case hp => exact (Reps.none _ _)); intro v106 w10 ho hb hg hn; have H106 := Aside0.mk ho; have HB1 := Aside0.mk hb; have HN6 := Aside0.mk hn; have hcK := (hb.cell (p := ⟨wr.heap.size, 1, none⟩) (blk_lt HK8.out)).trans (blk_cell HK8.out 1 : _ = some (Value.slice Ab nb cb)); clear ho hb hg hn hq hx0 hx1 hx2 hx3)
              | ((with_reducible refine gate_builtin (b := .append) (xs := #[.tmp 106, .tmp 113]) rfl ?_); at_builtin; refine Kd.R_append_rows (Kd.int .u8) (w0 := w8) w8.heap.size rfl (.tmp 106) (.tmp 113) 31 5 (.int .u8 0) 1 rfl Try.underlying31 u8_infoS rfl (by decide) (by omega) v106 [] b Ab M cb (fun _ => True) (fun _ => False) rfl rfl H106.out (by have hx := HRA.out _ (below_step HC8.out.bel HB1.out); rw [HLA.out] at hx; exact hx) (fun _ _ h => h) (fun _ h => h.elim) (fun k hk => trivial) HB1.out HB1.out.size (by simp only [List.length_nil]; omega) ?_; intro v12 w11 ho hb hg hat; rw [List.nil_append] at ho; have H12 := Aside0.mk ho; have HB2 := Aside0.mk hb; have HN12 := Aside0.mk (show ∃ B, v12.ownBlock = some B ∧ w8.heap.size ≤ B from by
                    obtain ⟨B0, e0, h0⟩ := HN6.out
                    rcases hat with q | ⟨B1, e1, h1⟩
                    · exact ⟨B0, q.trans e0, h0⟩
                    · exact ⟨B1, e1, Nat.le_trans HB1.out.size h1⟩)
                 clear ho hb hg hat HB1 H106 hcK HN6)
              | (go_at_call 12; refine Aside0.out ?_) | fail)
            refine Aside0.mk ?_
            clear hcut hJ hJb d0 d0b
            obtain ⟨B, hB1, hB2⟩ := HN12.out
            obtain ⟨A12, c12, e12⟩ := Kd.R_slice H12.out
            rw [HLA.out] at e12
            subst e12
            have hCD := HC8.out.below HB2.out
            have hap : Kd.R kFl 50 w11 w.heap.size (fun k => k ≠ B) v L := Kd.R_below (Kd.R_mono (Kd.R_bound HC8.out.cs.row) (fun k ok => by have := ok.2.2.1; omega)) HB2.out
            have hB3 : B < w11.heap.size := Kd.R_lt H12.out B hB1
            have hrd := Kd.R_reads' H12.out
            have htl : b.length ≤ 30 := HTX.out.2
            have hMl : M = b.length := HLA.out.symm
            have hpc := putb_calls hCD.cs hap hB3 A12 c12 b hrd.2.2 (by rw [HLA.out]; exact hrd.2.1) (by omega)
            obtain ⟨L9, hL9⟩ : ∃ L9, L9 = putC now b L := ⟨_, rfl⟩
            rw [← hL9, HLA.out] at hpc
            refine hpc.mono ?_
            rintro e w13 ⟨rfl, v9, hc9, hf9, hn9, hap9⟩
            have hds := hCD.ds.far2 hCD.cs hf9
            have hrow := row_far_c hCD.cs hf9 H12.out (fun q hq => by rw [u8_far (α := Int) q hq]; decide)
            have hdp := dput_calls hds A12 c12 b (Kd.R_reads' hrow).2.2
            rw [← hL9, HLA.out] at hdp
            have HDP := Aside0.mk hdp
            have HP := Aside0.mk (And.intro hds (And.intro hrow (And.intro hap9 (And.intro hc9 (bel_c hCD.cs hf9 hCD.bel)))))
            have HOK := Aside0.mk (show Ok a0 now L9 by rw [hL9]; exact HO.out.put HTX.out ha.1 (by have := HN.out; omega))
            have HOB := Aside0.mk (And.intro hB1 (And.intro hB2 HC8.out.bel.size))
            clear hCD hap hB3 hrd htl hMl hpc hL9 hc9 hf9 hn9 hap9 hds hrow hdp hB1 hB2 HN12 H12 HB2 HC8
            go_wp2_with (go_at_call 29; refine HDP.out.mono ?_; rintro e w14 ⟨rfl, vd9, hd9, hfd9, hnd9⟩; have HPB := Aside0.mk (show PB w w14 g h a0 now v9 vd9 L9 B (.slice A12 M c12) M from ⟨⟨HP.out.2.2.2.1.far2 HP.out.1 hfd9, hd9, bel_d HP.out.1 hfd9 HP.out.2.2.2.2⟩, row_far_d HP.out.1 hfd9 HP.out.2.2.1 (fun q hq => by rcases kFl_types q hq with rfl | rfl <;> decide), ⟨b, HLA.out, Kd.R_lower (row_far_d HP.out.1 hfd9 HP.out.2.1 (fun q hq => by rw [u8_far (α := Int) q hq]; decide)) HOB.out.2.2⟩, HOB.out.1⟩); clear hd9 hfd9 hnd9)
            clear HDP HP HC
            go_loopw [13] (fun v13 wq => ∃ j : Nat, v13 = .int .i64 (j : Int) ∧ j ≤ M ∧ Aside0 (PB w wq g h a0 now v9 vd9 L9 B (.slice A12 M c12) M)) (fun v13 _ => M - (intOf v13).toNat)
            case atStart => exact ⟨0, by simp, by omega, HPB⟩
            case round =>
              clear HPB
              obtain ⟨j, rfl, hj, HPB⟩ := hrel
              by_cases hlt : j < M
              · have hlb : decide ((j : Int) < (M : Int)) = true := decide_eq_true (by omega)
                obtain ⟨bs, hbl, hbr⟩ := HPB.out.row
                obtain ⟨gb, cap, eg, _, _, _⟩ := Kd.R_form hbr (by omega)
                injection eg with eA _ eC
                subst eA
                subst eC
                have hgB : gb = B := by have e := HPB.out.own; simp [Value.ownBlock] at e; exact e
                subst hgB
                have hcx := C_cell (Kd.R_reads' hbr).2.2 (j : Int) (by omega) (by omega)
                rw [Int.toNat_natCast, add_plain] at hcx
                obtain ⟨x8, hx8⟩ : ∃ x8, x8 = rdOf 0 bs (j : Int) := ⟨_, rfl⟩
                rw [← hx8] at hcx
                have HBR := Aside0.mk (And.intro hbl hbr)
                clear hbl hbr hx8
                go_wp2_with (first | ((with_reducible refine gate_ (.store 5 (.tmp 132) (.tmp 131)) rfl ?_); refine Aside0.out ?_) | fail)
                refine Aside0.mk ?_
                refine Kd.R_store (Kd.int .u8) (w0 := wr) w.heap.size rfl rfl 5 (.tmp 132) (.tmp 131) rfl 5 (g := gb) (n := M) (cap := c12) (o' := j) (j : Int) 0 bs (Go.bits .xor .u8 x8 1) (.int .u8 (Go.bits .xor .u8 x8 1)) [.int .u8 (Go.bits .xor .u8 x8 1)] [.int .u8 x8] (fun _ => True) (fun _ => False) ?s1 ?s2 ?s3 rfl u8_size ?s4 HBR.out.2 ?s5 ?s6 rfl ?s7 (show 0 + 1 ≤ 1 by omega) rfl (fun _ hk => hk.elim) (Below.refl _ _) ?_
                case s1 => first | rfl | (go_simp; done)
                case s2 => rw [Int.toNat_natCast]; exact (by simp [Kd.int, Kd.scalar])
                case s3 => first | rfl | (go_simp; done)
                case s4 => intro q hq; simp at hq; subst hq; rfl
                case s5 => omega
                case s6 => omega
                case s7 =>
                  intro q u hu
                  match q, hu with
                  | 0, hu =>
                    injection hu with hu
                    subst hu
                    have e : (j : Int).toNat * (Kd.int .u8).sz + 0 = j := by rw [Int.toNat_natCast]; simp [Kd.int, Kd.scalar]
                    rw [e]
                    simpa using hcx
                  | q + 1, hu => simp at hu
                intro w15 ho hb15 hg15
                have HPB2 := Aside0.mk (HPB.out.put hg15 (by rw [List.length_set]; exact HBR.out.1) ho)
                clear ho hb15 hg15 HBR HPB hcx
                go_wp2_with fail
                go_roundw
                case rel => exact ⟨j + 1, by simp, by omega, HPB2⟩
                case measure => simp [intOf]; omega
              · obtain rfl : j = M := by omega
                have hlb : decide ((j : Int) < (j : Int)) = false := decide_eq_false (by omega)
                have HCD := Aside0.mk HPB.out.cd
                have HNN := Aside0.mk (show 0 ≤ now ∧ now ≤ ((i + 1 : Nat) : Int) by have := HN.out; omega)
                obtain ⟨now9, hnow9⟩ : ∃ now9, now9 = now := ⟨_, rfl⟩
                rw [← hnow9] at HCD HNN HOK
                clear hnow9 HPB HN HO HLA HRA HTX HOB
                go_wp2_with fail
                have n0 := Aside0.mk (HCD.out.below (below_drew1 (Below.refl wr.heap.size wr)))
                clear HCD
                have HCD := n0
                clear n0
                obtain ⟨nL9, hnL9⟩ : ∃ nL9, nL9 = L9.length := ⟨_, rfl⟩
                obtain ⟨Ad9, cd9, ed9⟩ := HCD.out.ds.slice
                rw [← hnL9] at ed9
                have hcl9 := clen_calls HCD.out.cs
                rw [← hnL9] at hcl9
                have HCL := Aside0.mk hcl9
                have HCN := Aside0.mk (cnow_calls HCD.out.cs)
                have HS := Aside0.mk (show wr.drew.cell? ⟨h, 2, none⟩ = some (.slice Ad9 nL9 cd9) ∧ wr.drew.cell? ⟨h, 1, none⟩ = some (.int .i64 now9) from ⟨by rw [← ed9]; exact blk_cell HCD.out.ds.blk 2, blk_cell HCD.out.ds.blk 1⟩)
                have HNL := Aside0.mk hnL9
                clear hnL9 ed9 hcl9
                refine start_ (n := 17) (S := (fun w' => w'.cell? ⟨h, 2, none⟩ = some (.slice Ad9 nL9 cd9) ∧ w'.cell? ⟨h, 1, none⟩ = some (.int .i64 now9))) (ds := []) #[false, false, false, false, false, false, false, false, false, false, false, false, false, false, false, false, false] (by kernel_rfl) rfl rfl HS.out (fun hHeld => ?_)
                refine with_tabW acts42q.tab acts42q.bits (fun HT_ HW_ => ?_)
                refine pure_ (i := 0) (N := some 241) (v := ?_) (a' := ?_) #[true, false, false, false, false, false, false, false, false, false, false, false, false, false, false, false, false] rfl rfl (any_of HT_.out (by kernel_rfl)) (fun _ _ _ h => h) (Or.inl ⟨by rfl, ?_⟩) ?_ ?_
                rotate_left
                · intro w'
                  go_simp
                  with_reducible rfl
                rotate_left
                · simp only [Act.put, List.setIfInBounds_toArray, List.set_cons_zero, List.set_cons_succ, i64_w, i32_w]
                  rfl
                refine pure_ (i := 2) (N := some 243) (v := ?_) (a' := ?_) #[true, false, true, false, false, false, false, false, false, false, false, false, false, false, false, false, false] rfl rfl (any_of HT_.out (by kernel_rfl)) (fun _ _ _ h => h) (Or.inl ⟨by rfl, ?_⟩) ?_ ?_
                rotate_left
                · intro w'
                  go_simp
                  with_reducible rfl
                rotate_left
                · simp only [Act.put, List.setIfInBounds_toArray, List.set_cons_zero, List.set_cons_succ, i64_w, i32_w]
                  rfl
                refine pure_ (i := 3) (N := some 244) (v := ?_) (a' := ?_) #[true, false, true, true, false, false, false, false, false, false, false, false, false, false, false, false, false] rfl rfl (any_of HT_.out (by kernel_rfl)) (fun _ _ _ h => h) (Or.inl ⟨by rfl, ?_⟩) ?_ ?_
                rotate_left
                · intro w'
                  go_simp
                  with_reducible rfl
                rotate_left
                · simp only [Act.put, List.setIfInBounds_toArray, List.set_cons_zero, List.set_cons_succ, i64_w, i32_w]
                  rfl
                refine pure_ (i := 4) (N := some 245) (v := ?_) (a' := ?_) #[true, false, true, true, true, false, false, false, false, false, false, false, false, false, false, false, false] rfl rfl (any_of HT_.out (by kernel_rfl)) (fun _ _ _ h => h) (Or.inl ⟨by rfl, ?_⟩) ?_ ?_
                rotate_left
                · intro w'
                  go_simp
                  with_reducible rfl
                rotate_left
                · simp only [Act.put, List.setIfInBounds_toArray, List.set_cons_zero, List.set_cons_succ, i64_w, i32_w]
                  rfl
                refine take_ (i := 5) (N := some 246) (v := ?_) (a' := ?_) #[true, false, true, true, true, true, false, false, false, false, false, false, false, false, false, false, false] rfl rfl (take_ofW HT_.out HW_.out (by kernel_rfl)) (fun _ _ _ h => h) (Or.inl ⟨by rfl, ?_⟩) hHeld ?_ ?_
                rotate_left
                · rintro w' ⟨s0, s1⟩
                  go_simp
                  with_reducible rfl
                rotate_left
                · simp only [Act.put, List.setIfInBounds_toArray, List.set_cons_zero, List.set_cons_succ, i64_w, i32_w]
                  rfl
                refine pure_ (i := 6) (N := some 247) (v := ?_) (a' := ?_) #[true, false, true, true, true, true, true, false, false, false, false, false, false, false, false, false, false] rfl rfl (any_of HT_.out (by kernel_rfl)) (fun _ _ _ h => h) (Or.inl ⟨by rfl, ?_⟩) ?_ ?_
                rotate_left
                · intro w'
                  go_simp
                  with_reducible rfl
                rotate_left
                · simp only [Act.put, List.setIfInBounds_toArray, List.set_cons_zero, List.set_cons_succ, i64_w, i32_w]
                  rfl
                refine one_ (i := 1) (N := some 242) #[true, true, true, true, true, true, true, false, false, false, false, false, false, false, false, false, false] rfl rfl (one_of HT_.out (by kernel_rfl)) (by decide) (fun K hK => ?_)
                refine goes_ Try.func14 (by kernel_rfl) rfl #[.pointer (some ⟨g, 0, none⟩)] (by rfl) rfl rfl (by (try simp only [List.map_toArray, List.map_cons, List.map_nil]); first | done | rfl | (go_simp; done) | simp [Act.eval]) ?_
                refine HCL.out.mono ?_
                rintro e w11 ⟨rfl, rfl⟩
                refine ⟨_, rfl, ?_⟩
                refine hK.out _ _ HS.out (fun hHeld => ?_)
                clear hK K
                refine norm_ (a' := ?_) ?_ ?_
                rotate_left
                · show Act.put _ (some 242) _ = _
                  simp only [Act.put, List.setIfInBounds_toArray, List.set_cons_zero, List.set_cons_succ, i64_w, i32_w]
                  rfl
                refine pure_ (i := 7) (N := some 248) (v := ?_) (a' := ?_) #[true, true, true, true, true, true, true, true, false, false, false, false, false, false, false, false, false] rfl rfl (any_of HT_.out (by kernel_rfl)) (fun _ _ _ h => h) (Or.inl ⟨by rfl, ?_⟩) ?_ ?_
                rotate_left
                · intro w'
                  go_simp
                  with_reducible rfl
                rotate_left
                · simp only [Act.put, List.setIfInBounds_toArray, List.set_cons_zero, List.set_cons_succ, i64_w, i32_w]
                  rfl
                refine pure_ (i := 8) (N := some 249) (v := ?_) (a' := ?_) #[true, true, true, true, true, true, true, true, true, false, false, false, false, false, false, false, false] rfl rfl (any_of HT_.out (by kernel_rfl)) (fun _ _ _ h => h) (Or.inl ⟨by rfl, ?_⟩) ?_ ?_
                rotate_left
                · intro w'
                  go_simp
                  with_reducible rfl
                rotate_left
                · simp only [Act.put, List.setIfInBounds_toArray, List.set_cons_zero, List.set_cons_succ, i64_w, i32_w]
                  rfl
                refine pure_ (i := 9) (N := some 250) (v := ?_) (a' := ?_) #[true, true, true, true, true, true, true, true, true, true, false, false, false, false, false, false, false] rfl rfl (any_of HT_.out (by kernel_rfl)) (fun _ _ _ h => h) (Or.inl ⟨by rfl, ?_⟩) ?_ ?_
                rotate_left
                · intro w'
                  go_simp
                  with_reducible rfl
                rotate_left
                · simp only [Act.put, List.setIfInBounds_toArray, List.set_cons_zero, List.set_cons_succ, i64_w, i32_w]
                  rfl
                refine pure_ (i := 11) (N := some 252) (v := ?_) (a' := ?_) #[true, true, true, true, true, true, true, true, true, true, false, true, false, false, false, false, false] rfl rfl (any_of HT_.out (by kernel_rfl)) (fun _ _ _ h => h) (Or.inl ⟨by rfl, ?_⟩) ?_ ?_
                rotate_left
                · intro w'
                  go_simp
                  with_reducible rfl
                rotate_left
                · simp only [Act.put, List.setIfInBounds_toArray, List.set_cons_zero, List.set_cons_succ, i64_w, i32_w]
                  rfl
                refine pure_ (i := 12) (N := some 253) (v := ?_) (a' := ?_) #[true, true, true, true, true, true, true, true, true, true, false, true, true, false, false, false, false] rfl rfl (any_of HT_.out (by kernel_rfl)) (fun _ _ _ h => h) (Or.inl ⟨by rfl, ?_⟩) ?_ ?_
                rotate_left
                · intro w'
                  go_simp
                  with_reducible rfl
                rotate_left
                · simp only [Act.put, List.setIfInBounds_toArray, List.set_cons_zero, List.set_cons_succ, i64_w, i32_w]
                  rfl
                refine pure_ (i := 13) (N := some 254) (v := ?_) (a' := ?_) #[true, true, true, true, true, true, true, true, true, true, false, true, true, true, false, false, false] rfl rfl (any_of HT_.out (by kernel_rfl)) (fun _ _ _ h => h) (Or.inl ⟨by rfl, ?_⟩) ?_ ?_
                rotate_left
                · intro w'
                  go_simp
                  with_reducible rfl
                rotate_left
                · simp only [Act.put, List.setIfInBounds_toArray, List.set_cons_zero, List.set_cons_succ, i64_w, i32_w]
                  rfl
                refine take_ (i := 14) (N := some 255) (v := ?_) (a' := ?_) #[true, true, true, true, true, true, true, true, true, true, false, true, true, true, true, false, false] rfl rfl (take_ofW HT_.out HW_.out (by kernel_rfl)) (fun _ _ _ h => h) (Or.inl ⟨by rfl, ?_⟩) hHeld ?_ ?_
                rotate_left
                · rintro w' ⟨s0, s1⟩
                  go_simp
                  with_reducible rfl
                rotate_left
                · simp only [Act.put, List.setIfInBounds_toArray, List.set_cons_zero, List.set_cons_succ, i64_w, i32_w]
                  rfl
                refine one_ (i := 10) (N := some 251) #[true, true, true, true, true, true, true, true, true, true, true, true, true, true, true, false, false] rfl rfl (one_of HT_.out (by kernel_rfl)) (by decide) (fun K hK => ?_)
                refine goes_ Try.func28 (by kernel_rfl) rfl #[.pointer (some ⟨g, 0, none⟩)] (by rfl) rfl rfl (by (try simp only [List.map_toArray, List.map_cons, List.map_nil]); first | done | rfl | (go_simp; done) | simp [Act.eval]) ?_
                refine HCN.out.mono ?_
                rintro e w12 ⟨rfl, rfl⟩
                refine ⟨_, rfl, ?_⟩
                refine hK.out _ _ HS.out (fun hHeld => ?_)
                clear hK K
                refine norm_ (a' := ?_) ?_ ?_
                rotate_left
                · show Act.put _ (some 251) _ = _
                  simp only [Act.put, List.setIfInBounds_toArray, List.set_cons_zero, List.set_cons_succ, i64_w, i32_w]
                  rfl
                refine pure_ (i := 15) (N := some 256) (v := ?_) (a' := ?_) #[true, true, true, true, true, true, true, true, true, true, true, true, true, true, true, true, false] rfl rfl (any_of HT_.out (by kernel_rfl)) (fun _ _ _ h => h) (Or.inl ⟨by rfl, ?_⟩) ?_ ?_
                rotate_left
                · intro w'
                  go_simp
                  with_reducible rfl
                rotate_left
                · simp only [Act.put, List.setIfInBounds_toArray, List.set_cons_zero, List.set_cons_succ, i64_w, i32_w]
                  rfl
                refine pure_ (i := 16) (N := some 257) (v := ?_) (a' := ?_) #[true, true, true, true, true, true, true, true, true, true, true, true, true, true, true, true, true] rfl rfl (any_of HT_.out (by kernel_rfl)) (fun _ _ _ h => h) (Or.inl ⟨by rfl, ?_⟩) ?_ ?_
                rotate_left
                · intro w'
                  go_simp
                  with_reducible rfl
                rotate_left
                · simp only [Act.put, List.setIfInBounds_toArray, List.set_cons_zero, List.set_cons_succ, i64_w, i32_w]
                  rfl
                refine done_ (done_of HT_.out (by kernel_rfl)) ?_
                go_wp2
                go_roundw
                case rel => exact ⟨i + 1, now9, v9, vd9, L9, by simp, by omega, HCD, HOK, HNN⟩
                case measure => simp [intOf]; omega
        · have hq : IntKind.i64.wrap ((IntKind.u64.wrap wh).tmod 7) = 2 := hq
          as_aux_lemma =>
            go_wp2_with (first | (go_at_call 13; refine Aside0.out ?_) | fail)
            refine Aside0.mk ?_
            clear hx0 hx1 hx2 hx3 hq
            rw [← HW8.out]
            have hst := step_calls HC8.out.cs (by have := HO.out.len; omega) ⟨HN.out.1, by have := HN.out.2; omega⟩ HO.out.since
            obtain ⟨D, hD⟩ : ∃ D : Int, D = (L.length : Int) - ((keepL a0 (now + 1) L).length : Int) := ⟨_, rfl⟩
            obtain ⟨L9, hL9⟩ : ∃ L9, L9 = keepL a0 (now + 1) L := ⟨_, rfl⟩
            rw [← hD, ← hL9] at hst
            refine hst.mono ?_
            rintro e w10 ⟨rfl, v9, hc9, hf9, hn9⟩
            have hdst := dstep_calls (HC8.out.ds.far2 HC8.out.cs hf9) (by have := HO.out.len; omega) ⟨HN.out.1, by have := HN.out.2; omega⟩ HO.out.since
            rw [← hD, ← hL9] at hdst
            have HDST := Aside0.mk hdst
            have H9 := Aside0.mk (And.intro hc9 hf9)
            have HOK := Aside0.mk (show Ok a0 (now + 1) L9 by rw [hL9]; exact HO.out.step)
            obtain ⟨now9, hnow9⟩ : ∃ now9, now9 = now + 1 := ⟨_, rfl⟩
            rw [← hnow9] at HDST H9 HOK
            have HNN := Aside0.mk (show 0 ≤ now9 ∧ now9 ≤ ((i + 1 : Nat) : Int) by have := HN.out; omega)
            clear hst hc9 hf9 hn9 hdst hD hL9 hnow9
            go_wp2_with (go_at_call 30; refine HDST.out.mono ?_; rintro e w9 ⟨rfl, vd9, hd9, hfd9, hnd9⟩; have HCD := Aside0.mk (HC8.out.both H9.out.1 H9.out.2 hd9 hfd9); clear hd9 hfd9 hnd9)
            clear HC8 H9 HDST HO HN HC
            have n0 := Aside0.mk (HCD.out.below (below_drew1 (Below.refl w9.heap.size w9)))
            clear HCD
            have HCD := n0
            clear n0
            obtain ⟨nL9, hnL9⟩ : ∃ nL9, nL9 = L9.length := ⟨_, rfl⟩
            obtain ⟨Ad9, cd9, ed9⟩ := HCD.out.ds.slice
            rw [← hnL9] at ed9
            have hcl9 := clen_calls HCD.out.cs
            rw [← hnL9] at hcl9
            have HCL := Aside0.mk hcl9
            have HCN := Aside0.mk (cnow_calls HCD.out.cs)
            have HS := Aside0.mk (show w9.drew.cell? ⟨h, 2, none⟩ = some (.slice Ad9 nL9 cd9) ∧ w9.drew.cell? ⟨h, 1, none⟩ = some (.int .i64 now9) from ⟨by rw [← ed9]; exact blk_cell HCD.out.ds.blk 2, blk_cell HCD.out.ds.blk 1⟩)
            have HNL := Aside0.mk hnL9
            clear hnL9 ed9 hcl9
            refine start_ (n := 17) (S := (fun w' => w'.cell? ⟨h, 2, none⟩ = some (.slice Ad9 nL9 cd9) ∧ w'.cell? ⟨h, 1, none⟩ = some (.int .i64 now9))) (ds := []) #[false, false, false, false, false, false, false, false, false, false, false, false, false, false, false, false, false] (by kernel_rfl) rfl rfl HS.out (fun hHeld => ?_)
            refine with_tabW acts42s.tab acts42s.bits (fun HT_ HW_ => ?_)
            refine pure_ (i := 0) (N := some 241) (v := ?_) (a' := ?_) #[true, false, false, false, false, false, false, false, false, false, false, false, false, false, false, false, false] rfl rfl (any_of HT_.out (by kernel_rfl)) (fun _ _ _ h => h) (Or.inl ⟨by rfl, ?_⟩) ?_ ?_
            rotate_left
            · intro w'
              go_simp
              with_reducible rfl
            rotate_left
            · simp only [Act.put, List.setIfInBounds_toArray, List.set_cons_zero, List.set_cons_succ, i64_w, i32_w]
              rfl
            refine pure_ (i := 2) (N := some 243) (v := ?_) (a' := ?_) #[true, false, true, false, false, false, false, false, false, false, false, false, false, false, false, false, false] rfl rfl (any_of HT_.out (by kernel_rfl)) (fun _ _ _ h => h) (Or.inl ⟨by rfl, ?_⟩) ?_ ?_
            rotate_left
            · intro w'
              go_simp
              with_reducible rfl
            rotate_left
            · simp only [Act.put, List.setIfInBounds_toArray, List.set_cons_zero, List.set_cons_succ, i64_w, i32_w]
              rfl
            refine pure_ (i := 3) (N := some 244) (v := ?_) (a' := ?_) #[true, false, true, true, false, false, false, false, false, false, false, false, false, false, false, false, false] rfl rfl (any_of HT_.out (by kernel_rfl)) (fun _ _ _ h => h) (Or.inl ⟨by rfl, ?_⟩) ?_ ?_
            rotate_left
            · intro w'
              go_simp
              with_reducible rfl
            rotate_left
            · simp only [Act.put, List.setIfInBounds_toArray, List.set_cons_zero, List.set_cons_succ, i64_w, i32_w]
              rfl
            refine pure_ (i := 4) (N := some 245) (v := ?_) (a' := ?_) #[true, false, true, true, true, false, false, false, false, false, false, false, false, false, false, false, false] rfl rfl (any_of HT_.out (by kernel_rfl)) (fun _ _ _ h => h) (Or.inl ⟨by rfl, ?_⟩) ?_ ?_
            rotate_left
            · intro w'
              go_simp
              with_reducible rfl
            rotate_left
            · simp only [Act.put, List.setIfInBounds_toArray, List.set_cons_zero, List.set_cons_succ, i64_w, i32_w]
              rfl
            refine take_ (i := 5) (N := some 246) (v := ?_) (a' := ?_) #[true, false, true, true, true, true, false, false, false, false, false, false, false, false, false, false, false] rfl rfl (take_ofW HT_.out HW_.out (by kernel_rfl)) (fun _ _ _ h => h) (Or.inl ⟨by rfl, ?_⟩) hHeld ?_ ?_
            rotate_left
            · rintro w' ⟨s0, s1⟩
              go_simp
              with_reducible rfl
            rotate_left
            · simp only [Act.put, List.setIfInBounds_toArray, List.set_cons_zero, List.set_cons_succ, i64_w, i32_w]
              rfl
            refine pure_ (i := 6) (N := some 247) (v := ?_) (a' := ?_) #[true, false, true, true, true, true, true, false, false, false, false, false, false, false, false, false, false] rfl rfl (any_of HT_.out (by kernel_rfl)) (fun _ _ _ h => h) (Or.inl ⟨by rfl, ?_⟩) ?_ ?_
            rotate_left
            · intro w'
              go_simp
              with_reducible rfl
            rotate_left
            · simp only [Act.put, List.setIfInBounds_toArray, List.set_cons_zero, List.set_cons_succ, i64_w, i32_w]
              rfl
            refine one_ (i := 1) (N := some 242) #[true, true, true, true, true, true, true, false, false, false, false, false, false, false, false, false, false] rfl rfl (one_of HT_.out (by kernel_rfl)) (by decide) (fun K hK => ?_)
            refine goes_ Try.func14 (by kernel_rfl) rfl #[.pointer (some ⟨g, 0, none⟩)] (by rfl) rfl rfl (by (try simp only [List.map_toArray, List.map_cons, List.map_nil]); first | done | rfl | (go_simp; done) | simp [Act.eval]) ?_
            refine HCL.out.mono ?_
            rintro e w11 ⟨rfl, rfl⟩
            refine ⟨_, rfl, ?_⟩
            refine hK.out _ _ HS.out (fun hHeld => ?_)
            clear hK K
            refine norm_ (a' := ?_) ?_ ?_
            rotate_left
            · show Act.put _ (some 242) _ = _
              simp only [Act.put, List.setIfInBounds_toArray, List.set_cons_zero, List.set_cons_succ, i64_w, i32_w]
              rfl
            refine pure_ (i := 7) (N := some 248) (v := ?_) (a' := ?_) #[true, true, true, true, true, true, true, true, false, false, false, false, false, false, false, false, false] rfl rfl (any_of HT_.out (by kernel_rfl)) (fun _ _ _ h => h) (Or.inl ⟨by rfl, ?_⟩) ?_ ?_
            rotate_left
            · intro w'
              go_simp
              with_reducible rfl
            rotate_left
            · simp only [Act.put, List.setIfInBounds_toArray, List.set_cons_zero, List.set_cons_succ, i64_w, i32_w]
              rfl
            refine pure_ (i := 8) (N := some 249) (v := ?_) (a' := ?_) #[true, true, true, true, true, true, true, true, true, false, false, false, false, false, false, false, false] rfl rfl (any_of HT_.out (by kernel_rfl)) (fun _ _ _ h => h) (Or.inl ⟨by rfl, ?_⟩) ?_ ?_
            rotate_left
            · intro w'
              go_simp
              with_reducible rfl
            rotate_left
            · simp only [Act.put, List.setIfInBounds_toArray, List.set_cons_zero, List.set_cons_succ, i64_w, i32_w]
              rfl
            refine pure_ (i := 9) (N := some 250) (v := ?_) (a' := ?_) #[true, true, true, true, true, true, true, true, true, true, false, false, false, false, false, false, false] rfl rfl (any_of HT_.out (by kernel_rfl)) (fun _ _ _ h => h) (Or.inl ⟨by rfl, ?_⟩) ?_ ?_
            rotate_left
            · intro w'
              go_simp
              with_reducible rfl
            rotate_left
            · simp only [Act.put, List.setIfInBounds_toArray, List.set_cons_zero, List.set_cons_succ, i64_w, i32_w]
              rfl
            refine pure_ (i := 11) (N := some 252) (v := ?_) (a' := ?_) #[true, true, true, true, true, true, true, true, true, true, false, true, false, false, false, false, false] rfl rfl (any_of HT_.out (by kernel_rfl)) (fun _ _ _ h => h) (Or.inl ⟨by rfl, ?_⟩) ?_ ?_
            rotate_left
            · intro w'
              go_simp
              with_reducible rfl
            rotate_left
            · simp only [Act.put, List.setIfInBounds_toArray, List.set_cons_zero, List.set_cons_succ, i64_w, i32_w]
              rfl
            refine pure_ (i := 12) (N := some 253) (v := ?_) (a' := ?_) #[true, true, true, true, true, true, true, true, true, true, false, true, true, false, false, false, false] rfl rfl (any_of HT_.out (by kernel_rfl)) (fun _ _ _ h => h) (Or.inl ⟨by rfl, ?_⟩) ?_ ?_
            rotate_left
            · intro w'
              go_simp
              with_reducible rfl
            rotate_left
            · simp only [Act.put, List.setIfInBounds_toArray, List.set_cons_zero, List.set_cons_succ, i64_w, i32_w]
              rfl
            refine pure_ (i := 13) (N := some 254) (v := ?_) (a' := ?_) #[true, true, true, true, true, true, true, true, true, true, false, true, true, true, false, false, false] rfl rfl (any_of HT_.out (by kernel_rfl)) (fun _ _ _ h => h) (Or.inl ⟨by rfl, ?_⟩) ?_ ?_
            rotate_left
            · intro w'
              go_simp
              with_reducible rfl
            rotate_left
            · simp only [Act.put, List.setIfInBounds_toArray, List.set_cons_zero, List.set_cons_succ, i64_w, i32_w]
              rfl
            refine take_ (i := 14) (N := some 255) (v := ?_) (a' := ?_) #[true, true, true, true, true, true, true, true, true, true, false, true, true, true, true, false, false] rfl rfl (take_ofW HT_.out HW_.out (by kernel_rfl)) (fun _ _ _ h => h) (Or.inl ⟨by rfl, ?_⟩) hHeld ?_ ?_
            rotate_left
            · rintro w' ⟨s0, s1⟩
              go_simp
              with_reducible rfl
            rotate_left
            · simp only [Act.put, List.setIfInBounds_toArray, List.set_cons_zero, List.set_cons_succ, i64_w, i32_w]
              rfl
            refine one_ (i := 10) (N := some 251) #[true, true, true, true, true, true, true, true, true, true, true, true, true, true, true, false, false] rfl rfl (one_of HT_.out (by kernel_rfl)) (by decide) (fun K hK => ?_)
            refine goes_ Try.func28 (by kernel_rfl) rfl #[.pointer (some ⟨g, 0, none⟩)] (by rfl) rfl rfl (by (try simp only [List.map_toArray, List.map_cons, List.map_nil]); first | done | rfl | (go_simp; done) | simp [Act.eval]) ?_
            refine HCN.out.mono ?_
            rintro e w12 ⟨rfl, rfl⟩
            refine ⟨_, rfl, ?_⟩
            refine hK.out _ _ HS.out (fun hHeld => ?_)
            clear hK K
            refine norm_ (a' := ?_) ?_ ?_
            rotate_left
            · show Act.put _ (some 251) _ = _
              simp only [Act.put, List.setIfInBounds_toArray, List.set_cons_zero, List.set_cons_succ, i64_w, i32_w]
              rfl
            refine pure_ (i := 15) (N := some 256) (v := ?_) (a' := ?_) #[true, true, true, true, true, true, true, true, true, true, true, true, true, true, true, true, false] rfl rfl (any_of HT_.out (by kernel_rfl)) (fun _ _ _ h => h) (Or.inl ⟨by rfl, ?_⟩) ?_ ?_
            rotate_left
            · intro w'
              go_simp
              with_reducible rfl
            rotate_left
            · simp only [Act.put, List.setIfInBounds_toArray, List.set_cons_zero, List.set_cons_succ, i64_w, i32_w]
              rfl
            refine pure_ (i := 16) (N := some 257) (v := ?_) (a' := ?_) #[true, true, true, true, true, true, true, true, true, true, true, true, true, true, true, true, true] rfl rfl (any_of HT_.out (by kernel_rfl)) (fun _ _ _ h => h) (Or.inl ⟨by rfl, ?_⟩) ?_ ?_
            rotate_left
            · intro w'
              go_simp
              with_reducible rfl
            rotate_left
            · simp only [Act.put, List.setIfInBounds_toArray, List.set_cons_zero, List.set_cons_succ, i64_w, i32_w]
              rfl
            refine done_ (done_of HT_.out (by kernel_rfl)) ?_
            go_wp2
            go_roundw
            case rel => exact ⟨i + 1, now9, v9, vd9, L9, by simp, by omega, HCD, HOK, HNN⟩
            case measure => simp [intOf]; omega
        · have hq : IntKind.i64.wrap ((IntKind.u64.wrap wh).tmod 7) = 3 := hq
          as_aux_lemma =>
            go_wp2_with (first | (go_at_call 25; refine Aside0.out ?_) | fail)
            refine Aside0.mk ?_
            clear hq hx0 hx1 hx2 hx3
            rw [← HW8.out]
            obtain ⟨E, hE⟩ : ∃ E, E = hasE L.length k := ⟨_, rfl⟩
            obtain ⟨L9, hL9⟩ : ∃ L9, L9 = tkL k L := ⟨_, rfl⟩
            have HOK := Aside0.mk (show Ok a0 now L9 by rw [hL9]; exact HO.out.take k)
            obtain ⟨f, hf⟩ : ∃ f, f = tkF k L := ⟨_, rfl⟩
            have hold : E = 0 → now - f.2.2 < a0 ∧ 0 ≤ f.2.2 ∧ f.2.2 ≤ 100000 := fun e => by rw [hE] at e; rw [hf]; have := HO.out.old _ (HO.out.taken e); omega
            have hE09 : E = 0 ∨ E = 9 := by rw [hE]; unfold hasE; split <;> simp
            obtain ⟨s1, hs1⟩ : ∃ s1, s1 = strOfNums f.1 := ⟨_, rfl⟩
            obtain ⟨s2, hs2⟩ : ∃ s2, s2 = strOfNums f.2.1 := ⟨_, rfl⟩
            obtain ⟨s3, hs3⟩ : ∃ s3, s3 = f.2.2 := ⟨_, rfl⟩
            obtain ⟨n1, hn1⟩ : ∃ n1, n1 = f.1.length := ⟨_, rfl⟩
            obtain ⟨n2, hn2⟩ : ∃ n2, n2 = f.2.1.length := ⟨_, rfl⟩
            rw [← hs3] at hold
            refine (ctake_calls HC8.out.cs k HO.out.sm.short (by have := HO.out.len; omega)).mono ?_
            rintro e w10 ⟨u1, u2, v9, rfl, hr1, hr2, hc9, hf9, hn9⟩
            rw [← hf] at hr1 hr2 ⊢
            rw [← hE, ← hs3]
            rw [← hL9] at hc9
            obtain ⟨B1, d1, q1⟩ := Kd.R_slice hr1
            obtain ⟨B2, d2, q2⟩ := Kd.R_slice hr2
            rw [← hn1] at q1
            rw [← hn2] at q2
            subst q1
            subst q2
            have hK10 := (far_c HC8.out.cs hf9 HK8.out (by decide) (by decide)).trans HK8.out
            have hba := below_alloc (Below.refl w10.heap.size w10) (.cells #[.slice B1 n1 d1, .slice B2 n2 d2, .int .i64 s3] 50)
            have hb14 := blk_new w10 (.cells #[.slice B1 n1 d1, .slice B2 n2 d2, .int .i64 s3] 50)
            have hcK : (w10.alloc (.cells #[.slice B1 n1 d1, .slice B2 n2 d2, .int .i64 s3] 50)).cell? ⟨wr.heap.size, 2, none⟩ = some (.int .i64 k) := (hba.cell (p := ⟨wr.heap.size, 2, none⟩) (blk_lt hK10)).trans (blk_cell hK10 2)
            have HW11 := Aside0.mk (show w10.alloc (.cells #[.slice B1 n1 d1, .slice B2 n2 d2, .int .i64 s3] 50) = w10.alloc (.cells #[.slice B1 n1 d1, .slice B2 n2 d2, .int .i64 s3] 50) from rfl)
            have H9 := Aside0.mk (And.intro (hc9.below hba) (And.intro ((HC8.out.ds.far2 HC8.out.cs hf9).below hba) (below_step (bel_c HC8.out.cs hf9 HC8.out.bel) hba)))
            have HR := Aside0.mk (And.intro (Kd.R_below hr1 hba) (Kd.R_below hr2 hba))
            have H14 := Aside0.mk hb14
            have HEQ := Aside0.mk (And.intro hE (And.intro hL9 (And.intro hf (And.intro hs1 (And.intro hs2 (And.intro hs3 (And.intro hn1 hn2)))))))
            have HOLD := Aside0.mk (And.intro hold hE09)
            clear hr1 hr2 hc9 hf9 hn9 hK10 hba hb14 HW11 hE hL9 hf hs1 hs2 hs3 hn1 hn2 hold hE09
            go_wp2_with (first | (go_at_call 31; refine Aside0.out ?_) | fail)
            refine Aside0.mk ?_
            obtain ⟨hE, hL9, hf, hs1, hs2, hs3, hn1, hn2⟩ := HEQ.out
            obtain ⟨w11, hw11⟩ : ∃ w11, w11 = w10.alloc (.cells #[.slice B1 n1 d1, .slice B2 n2 d2, .int .i64 s3] 50) := ⟨_, rfl⟩
            rw [← hw11] at H9 HR H14 ⊢
            have hdt := dtake_calls H9.out.2.1 k (by have := HO.out.len; omega)
            unfold DTakePost at hdt
            rw [← hf, ← hE, ← hs1, ← hs2, ← hs3, ← hL9] at hdt
            refine hdt.mono ?_
            rintro e w12 ⟨rfl, vd9, hd9, hfd9, hnd9⟩
            have h14 := (far_d H9.out.2.1 hfd9 H14.out (by decide) (by decide)).trans H14.out
            have hba := below_alloc (Below.refl w12.heap.size w12) (.cells #[.string s1, .string s2, .int .i64 s3] 61)
            have hb16 := blk_new w12 (.cells #[.string s1, .string s2, .int .i64 s3] 61)
            have HCX := Aside0.mk (show CD w ((w12.alloc (.cells #[.string s1, .string s2, .int .i64 s3] 61))) g h a0 now v9 vd9 L9 from ⟨(H9.out.1.far2 H9.out.2.1 hfd9).below hba, hd9.below hba, below_step (bel_d H9.out.2.1 hfd9 H9.out.2.2) hba⟩)
            have H16 := Aside0.mk (And.intro ((hba.block w10.heap.size (blk_lt h14)).trans h14) hb16)
            have HR9 := Aside0.mk (And.intro (Kd.R_below (row_far_d H9.out.2.1 hfd9 HR.out.1 (fun q hq => by rw [u8_far (α := Int) q hq]; decide)) hba) (Kd.R_below (row_far_d H9.out.2.1 hfd9 HR.out.2 (fun q hq => by rw [u8_far (α := Int) q hq]; decide)) hba))
            have HSS := Aside0.mk (And.intro hs1 (And.intro hs2 (And.intro hn1 hn2)))
            clear HEQ hdt hE hL9 hf hs1 hs2 hs3 hn1 hn2 hd9 hfd9 hnd9 h14 hba hb16 H9 HR H14 hcK hw11 HC8
            go_wp2_with fail
            obtain ⟨w9, hw9⟩ : ∃ w9, w9 = w12.alloc (.cells #[.string s1, .string s2, .int .i64 s3] 61) := ⟨_, rfl⟩
            rw [← hw9] at HCX H16 HR9 ⊢
            have hbd := below_drew1 (Below.refl w9.heap.size w9)
            have h14 := (hbd.block _ (blk_lt H16.out.1)).trans H16.out.1
            have h16 := (hbd.block _ (blk_lt H16.out.2)).trans H16.out.2
            have HS := Aside0.mk (show w9.drew.cell? ⟨w10.heap.size, 0, none⟩ = some (.slice B1 n1 d1) ∧ w9.drew.cell? ⟨w10.heap.size, 1, none⟩ = some (.slice B2 n2 d2) ∧ w9.drew.cell? ⟨w10.heap.size, 2, none⟩ = some (.int .i64 s3) ∧ w9.drew.cell? ⟨w12.heap.size, 0, none⟩ = some (.string s1) ∧ w9.drew.cell? ⟨w12.heap.size, 1, none⟩ = some (.string s2) ∧ w9.drew.cell? ⟨w12.heap.size, 2, none⟩ = some (.int .i64 s3) from
              ⟨blk_cell h14 0, blk_cell h14 1, blk_cell h14 2, blk_cell h16 0, blk_cell h16 1, blk_cell h16 2⟩)
            have hcv1 := Kd.C_string (P := Try.prog) (src := 31) (dst := 9) (e := 5) (c := d1) Try.underlying31 Try.underlying5 Try.underlying9 (Kd.R_reads' (Kd.R_below HR9.out.1 hbd)).2.2
            rw [← HSS.out.2.2.1, ← HSS.out.1] at hcv1
            have hcv2 := Kd.C_string (P := Try.prog) (src := 31) (dst := 9) (e := 5) (c := d2) Try.underlying31 Try.underlying5 Try.underlying9 (Kd.R_reads' (Kd.R_below HR9.out.2 hbd)).2.2
            rw [← HSS.out.2.2.2, ← HSS.out.2.1] at hcv2
            have HCV1 := Aside0.mk hcv1
            have HCV2 := Aside0.mk hcv2
            have hss1 : (s1.toList == s1.toList) = true := beq_self_eq_true _
            have hss2 : (s2.toList == s2.toList) = true := beq_self_eq_true _
            have n0 := Aside0.mk (HCX.out.below hbd)
            have HCN := Aside0.mk (cnow_calls n0.out.cs)
            clear HCX
            have HCX := n0
            clear n0
            obtain ⟨now9, hnow9⟩ : ∃ now9, now9 = now := ⟨_, rfl⟩
            have HNN := Aside0.mk (show 0 ≤ now9 ∧ now9 ≤ ((i + 1 : Nat) : Int) by have := HN.out; omega)
            rw [← hnow9] at HCN HCX HOK
            have hnw := HNN.out
            clear hbd h14 h16 hcv1 hcv2 hw9 H16 HR9 HSS HO HN HC
            obtain ⟨hold, hE09⟩ := HOLD.out
            clear HOLD
            rw [← hnow9] at hold
            clear hnow9
            rcases hE09 with rfl | rfl
            · obtain ⟨hold1, hold2, hold3⟩ := hold rfl
              have hwr : wrap64 (now9 - s3) = now9 - s3 := by unfold wrap64; omega
              have hwi : IntKind.i64.wrap (now9 - s3) = now9 - s3 := by rw [IntKind.wrap_i64]; omega
              have hge : decide (now9 - s3 ≥ a0) = false := decide_eq_false (by omega)
              have hge2 : decide (a0 ≤ now9 - s3) = false := decide_eq_false (by omega)
              clear hold hold1 hold2 hold3 hnw
              refine start_ (n := 39) (S := (fun w' => w'.cell? ⟨w10.heap.size, 0, none⟩ = some (.slice B1 n1 d1) ∧ w'.cell? ⟨w10.heap.size, 1, none⟩ = some (.slice B2 n2 d2) ∧ w'.cell? ⟨w10.heap.size, 2, none⟩ = some (.int .i64 s3) ∧ w'.cell? ⟨w12.heap.size, 0, none⟩ = some (.string s1) ∧ w'.cell? ⟨w12.heap.size, 1, none⟩ = some (.string s2) ∧ w'.cell? ⟨w12.heap.size, 2, none⟩ = some (.int .i64 s3))) (ds := []) #[false, false, false, false, false, false, false, false, false, false, false, false, false, false, false, false, false, false, false, false, false, false, false, false, false, false, false, false, false, false, false, false, false, false, false, false, false, false, false] (by kernel_rfl) rfl rfl HS.out (fun hHeld => ?_)
              refine with_tabW acts29a.tab acts29a.bits (fun HT_ HW_ => ?_)
              refine pure_ (i := 0) (N := some 156) (v := ?_) (a' := ?_) #[true, false, false, false, false, false, false, false, false, false, false, false, false, false, false, false, false, false, false, false, false, false, false, false, false, false, false, false, false, false, false, false, false, false, false, false, false, false, false] rfl rfl (any_of HT_.out (by kernel_rfl)) (fun _ _ _ h => h) (Or.inl ⟨by rfl, ?_⟩) ?_ ?_
              rotate_left
              · intro w'
                go_simp
                with_reducible rfl
              rotate_left
              · simp only [Act.put, List.setIfInBounds_toArray, List.set_cons_zero, List.set_cons_succ, i64_w, i32_w]
                rfl
              refine pure_ (i := 1) (N := some 157) (v := ?_) (a' := ?_) #[true, true, false, false, false, false, false, false, false, false, false, false, false, false, false, false, false, false, false, false, false, false, false, false, false, false, false, false, false, false, false, false, false, false, false, false, false, false, false] rfl rfl (any_of HT_.out (by kernel_rfl)) (fun _ _ _ h => h) (Or.inl ⟨by rfl, ?_⟩) ?_ ?_
              rotate_left
              · intro w'
                go_simp
                with_reducible rfl
              rotate_left
              · simp only [Act.put, List.setIfInBounds_toArray, List.set_cons_zero, List.set_cons_succ, i64_w, i32_w]
                rfl
              refine pure_ (i := 2) (N := some 158) (v := ?_) (a' := ?_) #[true, true, true, false, false, false, false, false, false, false, false, false, false, false, false, false, false, false, false, false, false, false, false, false, false, false, false, false, false, false, false, false, false, false, false, false, false, false, false] rfl rfl (any_of HT_.out (by kernel_rfl)) (fun _ _ _ h => h) (Or.inl ⟨by rfl, ?_⟩) ?_ ?_
              rotate_left
              · intro w'
                go_simp
                with_reducible rfl
              rotate_left
              · simp only [Act.put, List.setIfInBounds_toArray, List.set_cons_zero, List.set_cons_succ, i64_w, i32_w]
                rfl
              refine pure_ (i := 3) (N := some 159) (v := ?_) (a' := ?_) #[true, true, true, true, false, false, false, false, false, false, false, false, false, false, false, false, false, false, false, false, false, false, false, false, false, false, false, false, false, false, false, false, false, false, false, false, false, false, false] rfl rfl (any_of HT_.out (by kernel_rfl)) (fun _ _ _ h => h) (Or.inl ⟨by rfl, ?_⟩) ?_ ?_
              rotate_left
              · intro w'
                go_simp
                with_reducible rfl
              rotate_left
              · simp only [Act.put, List.setIfInBounds_toArray, List.set_cons_zero, List.set_cons_succ, i64_w, i32_w]
                rfl
              refine pure_ (i := 4) (N := some 160) (v := ?_) (a' := ?_) #[true, true, true, true, true, false, false, false, false, false, false, false, false, false, false, false, false, false, false, false, false, false, false, false, false, false, false, false, false, false, false, false, false, false, false, false, false, false, false] rfl rfl (any_of HT_.out (by kernel_rfl)) (fun _ _ _ h => h) (Or.inl ⟨by rfl, ?_⟩) ?_ ?_
              rotate_left
              · intro w'
                go_simp
                with_reducible rfl
              rotate_left
              · simp only [Act.put, List.setIfInBounds_toArray, List.set_cons_zero, List.set_cons_succ, i64_w, i32_w]
                rfl
              refine take_ (i := 5) (N := some 161) (v := ?_) (a' := ?_) #[true, true, true, true, true, true, false, false, false, false, false, false, false, false, false, false, false, false, false, false, false, false, false, false, false, false, false, false, false, false, false, false, false, false, false, false, false, false, false] rfl rfl (take_ofW HT_.out HW_.out (by kernel_rfl)) (fun _ _ _ h => h) (Or.inl ⟨by rfl, ?_⟩) hHeld ?_ ?_
              rotate_left
              · rintro w' ⟨s0, s1, s2, s3, s4, s5⟩
                go_simp
                with_reducible rfl
              rotate_left
              · simp only [Act.put, List.setIfInBounds_toArray, List.set_cons_zero, List.set_cons_succ, i64_w, i32_w]
                rfl
              refine pure_ (i := 7) (N := some 163) (v := ?_) (a' := ?_) #[true, true, true, true, true, true, false, true, false, false, false, false, false, false, false, false, false, false, false, false, false, false, false, false, false, false, false, false, false, false, false, false, false, false, false, false, false, false, false] rfl rfl (any_of HT_.out (by kernel_rfl)) (fun _ _ _ h => h) (Or.inl ⟨by rfl, ?_⟩) ?_ ?_
              rotate_left
              · intro w'
                go_simp
                with_reducible rfl
              rotate_left
              · simp only [Act.put, List.setIfInBounds_toArray, List.set_cons_zero, List.set_cons_succ, i64_w, i32_w]
                rfl
              refine take_ (i := 8) (N := some 164) (v := ?_) (a' := ?_) #[true, true, true, true, true, true, false, true, true, false, false, false, false, false, false, false, false, false, false, false, false, false, false, false, false, false, false, false, false, false, false, false, false, false, false, false, false, false, false] rfl rfl (take_ofW HT_.out HW_.out (by kernel_rfl)) (fun _ _ _ h => h) (Or.inl ⟨by rfl, ?_⟩) hHeld ?_ ?_
              rotate_left
              · rintro w' ⟨s0, s1, s2, s3, s4, s5⟩
                go_simp
                with_reducible rfl
              rotate_left
              · simp only [Act.put, List.setIfInBounds_toArray, List.set_cons_zero, List.set_cons_succ, i64_w, i32_w]
                rfl
              refine one_ (i := 6) (N := some 162) #[true, true, true, true, true, true, true, true, true, false, false, false, false, false, false, false, false, false, false, false, false, false, false, false, false, false, false, false, false, false, false, false, false, false, false, false, false, false, false] rfl rfl (one_of HT_.out (by kernel_rfl)) (by decide) (fun K hK => ?_)
              have hcv := HCV1.out
              refine value_ (w1 := ?_) (v := ?_) (by rfl) rfl ?_ ?_
              rotate_left 2
              · go_simp
                constructor
                · rfl
                · rfl
              refine hK.out _ _ HS.out (fun hHeld => ?_)
              clear hK K
              refine norm_ (a' := ?_) ?_ ?_
              rotate_left
              · show Act.put _ (some 162) _ = _
                simp only [Act.put, List.setIfInBounds_toArray, List.set_cons_zero, List.set_cons_succ, i64_w, i32_w]
                rfl
              refine pure_ (i := 9) (N := some 165) (v := ?_) (a' := ?_) #[true, true, true, true, true, true, true, true, true, true, false, false, false, false, false, false, false, false, false, false, false, false, false, false, false, false, false, false, false, false, false, false, false, false, false, false, false, false, false] rfl rfl (any_of HT_.out (by kernel_rfl)) (fun _ _ _ h => h) (Or.inl ⟨by rfl, ?_⟩) ?_ ?_
              rotate_left
              · intro w'
                go_simp
                with_reducible rfl
              rotate_left
              · simp only [Act.put, List.setIfInBounds_toArray, List.set_cons_zero, List.set_cons_succ, i64_w, i32_w]
                rfl
              refine pure_ (i := 10) (N := some 166) (v := ?_) (a' := ?_) #[true, true, true, true, true, true, true, true, true, true, true, false, false, false, false, false, false, false, false, false, false, false, false, false, false, false, false, false, false, false, false, false, false, false, false, false, false, false, false] rfl rfl (any_of HT_.out (by kernel_rfl)) (fun _ _ _ h => h) (Or.inl ⟨by rfl, ?_⟩) ?_ ?_
              rotate_left
              · intro w'
                go_simp
                with_reducible rfl
              rotate_left
              · simp only [Act.put, List.setIfInBounds_toArray, List.set_cons_zero, List.set_cons_succ, i64_w, i32_w]
                rfl
              refine pure_ (i := 11) (N := some 167) (v := ?_) (a' := ?_) #[true, true, true, true, true, true, true, true, true, true, true, true, false, false, false, false, false, false, false, false, false, false, false, false, false, false, false, false, false, false, false, false, false, false, false, false, false, false, false] rfl rfl (any_of HT_.out (by kernel_rfl)) (fun _ _ _ h => h) (Or.inl ⟨by rfl, ?_⟩) ?_ ?_
              rotate_left
              · intro w'
                go_simp
                with_reducible rfl
              rotate_left
              · simp only [Act.put, List.setIfInBounds_toArray, List.set_cons_zero, List.set_cons_succ, i64_w, i32_w]
                rfl
              refine pure_ (i := 12) (N := some 168) (v := ?_) (a' := ?_) #[true, true, true, true, true, true, true, true, true, true, true, true, true, false, false, false, false, false, false, false, false, false, false, false, false, false, false, false, false, false, false, false, false, false, false, false, false, false, false] rfl rfl (any_of HT_.out (by kernel_rfl)) (fun _ _ _ h => h) (Or.inl ⟨by rfl, ?_⟩) ?_ ?_
              rotate_left
              · intro w'
                go_simp
                with_reducible rfl
              rotate_left
              · simp only [Act.put, List.setIfInBounds_toArray, List.set_cons_zero, List.set_cons_succ, i64_w, i32_w]
                rfl
              refine take_ (i := 13) (N := some 169) (v := ?_) (a' := ?_) #[true, true, true, true, true, true, true, true, true, true, true, true, true, true, false, false, false, false, false, false, false, false, false, false, false, false, false, false, false, false, false, false, false, false, false, false, false, false, false] rfl rfl (take_ofW HT_.out HW_.out (by kernel_rfl)) (fun _ _ _ h => h) (Or.inl ⟨by rfl, ?_⟩) hHeld ?_ ?_
              rotate_left
              · rintro w' ⟨s0, s1, s2, s3, s4, s5⟩
                go_simp
                with_reducible rfl
              rotate_left
              · simp only [Act.put, List.setIfInBounds_toArray, List.set_cons_zero, List.set_cons_succ, i64_w, i32_w]
                rfl
              refine pure_ (i := 15) (N := some 171) (v := ?_) (a' := ?_) #[true, true, true, true, true, true, true, true, true, true, true, true, true, true, false, true, false, false, false, false, false, false, false, false, false, false, false, false, false, false, false, false, false, false, false, false, false, false, false] rfl rfl (any_of HT_.out (by kernel_rfl)) (fun _ _ _ h => h) (Or.inl ⟨by rfl, ?_⟩) ?_ ?_
              rotate_left
              · intro w'
                go_simp
                with_reducible rfl
              rotate_left
              · simp only [Act.put, List.setIfInBounds_toArray, List.set_cons_zero, List.set_cons_succ, i64_w, i32_w]
                rfl
              refine take_ (i := 16) (N := some 172) (v := ?_) (a' := ?_) #[true, true, true, true, true, true, true, true, true, true, true, true, true, true, false, true, true, false, false, false, false, false, false, false, false, false, false, false, false, false, false, false, false, false, false, false, false, false, false] rfl rfl (take_ofW HT_.out HW_.out (by kernel_rfl)) (fun _ _ _ h => h) (Or.inl ⟨by rfl, ?_⟩) hHeld ?_ ?_
              rotate_left
              · rintro w' ⟨s0, s1, s2, s3, s4, s5⟩
                go_simp
                with_reducible rfl
              rotate_left
              · simp only [Act.put, List.setIfInBounds_toArray, List.set_cons_zero, List.set_cons_succ, i64_w, i32_w]
                rfl
              refine one_ (i := 14) (N := some 170) #[true, true, true, true, true, true, true, true, true, true, true, true, true, true, true, true, true, false, false, false, false, false, false, false, false, false, false, false, false, false, false, false, false, false, false, false, false, false, false] rfl rfl (one_of HT_.out (by kernel_rfl)) (by decide) (fun K hK => ?_)
              have hcv := HCV2.out
              refine value_ (w1 := ?_) (v := ?_) (by rfl) rfl ?_ ?_
              rotate_left 2
              · go_simp
                constructor
                · rfl
                · rfl
              refine hK.out _ _ HS.out (fun hHeld => ?_)
              clear hK K
              refine norm_ (a' := ?_) ?_ ?_
              rotate_left
              · show Act.put _ (some 170) _ = _
                simp only [Act.put, List.setIfInBounds_toArray, List.set_cons_zero, List.set_cons_succ, i64_w, i32_w]
                rfl
              refine pure_ (i := 17) (N := some 173) (v := ?_) (a' := ?_) #[true, true, true, true, true, true, true, true, true, true, true, true, true, true, true, true, true, true, false, false, false, false, false, false, false, false, false, false, false, false, false, false, false, false, false, false, false, false, false] rfl rfl (any_of HT_.out (by kernel_rfl)) (fun _ _ _ h => h) (Or.inl ⟨by rfl, ?_⟩) ?_ ?_
              rotate_left
              · intro w'
                go_simp
                with_reducible rfl
              rotate_left
              · simp only [Act.put, List.setIfInBounds_toArray, List.set_cons_zero, List.set_cons_succ, i64_w, i32_w]
                rfl
              refine pure_ (i := 18) (N := some 174) (v := ?_) (a' := ?_) #[true, true, true, true, true, true, true, true, true, true, true, true, true, true, true, true, true, true, true, false, false, false, false, false, false, false, false, false, false, false, false, false, false, false, false, false, false, false, false] rfl rfl (any_of HT_.out (by kernel_rfl)) (fun _ _ _ h => h) (Or.inl ⟨by rfl, ?_⟩) ?_ ?_
              rotate_left
              · intro w'
                go_simp
                with_reducible rfl
              rotate_left
              · simp only [Act.put, List.setIfInBounds_toArray, List.set_cons_zero, List.set_cons_succ, i64_w, i32_w]
                rfl
              refine pure_ (i := 19) (N := some 175) (v := ?_) (a' := ?_) #[true, true, true, true, true, true, true, true, true, true, true, true, true, true, true, true, true, true, true, true, false, false, false, false, false, false, false, false, false, false, false, false, false, false, false, false, false, false, false] rfl rfl (any_of HT_.out (by kernel_rfl)) (fun _ _ _ h => h) (Or.inl ⟨by rfl, ?_⟩) ?_ ?_
              rotate_left
              · intro w'
                go_simp
                with_reducible rfl
              rotate_left
              · simp only [Act.put, List.setIfInBounds_toArray, List.set_cons_zero, List.set_cons_succ, i64_w, i32_w]
                rfl
              refine pure_ (i := 20) (N := some 176) (v := ?_) (a' := ?_) #[true, true, true, true, true, true, true, true, true, true, true, true, true, true, true, true, true, true, true, true, true, false, false, false, false, false, false, false, false, false, false, false, false, false, false, false, false, false, false] rfl rfl (any_of HT_.out (by kernel_rfl)) (fun _ _ _ h => h) (Or.inl ⟨by rfl, ?_⟩) ?_ ?_
              rotate_left
              · intro w'
                go_simp
                with_reducible rfl
              rotate_left
              · simp only [Act.put, List.setIfInBounds_toArray, List.set_cons_zero, List.set_cons_succ, i64_w, i32_w]
                rfl
              refine take_ (i := 21) (N := some 177) (v := ?_) (a' := ?_) #[true, true, true, true, true, true, true, true, true, true, true, true, true, true, true, true, true, true, true, true, true, true, false, false, false, false, false, false, false, false, false, false, false, false, false, false, false, false, false] rfl rfl (take_ofW HT_.out HW_.out (by kernel_rfl)) (fun _ _ _ h => h) (Or.inl ⟨by rfl, ?_⟩) hHeld ?_ ?_
              rotate_left
              · rintro w' ⟨s0, s1, s2, s3, s4, s5⟩
                go_simp
                with_reducible rfl
              rotate_left
              · simp only [Act.put, List.setIfInBounds_toArray, List.set_cons_zero, List.set_cons_succ, i64_w, i32_w]
                rfl
              refine pure_ (i := 22) (N := some 178) (v := ?_) (a' := ?_) #[true, true, true, true, true, true, true, true, true, true, true, true, true, true, true, true, true, true, true, true, true, true, true, false, false, false, false, false, false, false, false, false, false, false, false, false, false, false, false] rfl rfl (any_of HT_.out (by kernel_rfl)) (fun _ _ _ h => h) (Or.inl ⟨by rfl, ?_⟩) ?_ ?_
              rotate_left
              · intro w'
                go_simp
                with_reducible rfl
              rotate_left
              · simp only [Act.put, List.setIfInBounds_toArray, List.set_cons_zero, List.set_cons_succ, i64_w, i32_w]
                rfl
              refine take_ (i := 23) (N := some 179) (v := ?_) (a' := ?_) #[true, true, true, true, true, true, true, true, true, true, true, true, true, true, true, true, true, true, true, true, true, true, true, true, false, false, false, false, false, false, false, false, false, false, false, false, false, false, false] rfl rfl (take_ofW HT_.out HW_.out (by kernel_rfl)) (fun _ _ _ h => h) (Or.inl ⟨by rfl, ?_⟩) hHeld ?_ ?_
              rotate_left
              · rintro w' ⟨s0, s1, s2, s3, s4, s5⟩
                go_simp
                with_reducible rfl
              rotate_left
              · simp only [Act.put, List.setIfInBounds_toArray, List.set_cons_zero, List.set_cons_succ, i64_w, i32_w]
                rfl
              refine pure_ (i := 24) (N := some 180) (v := ?_) (a' := ?_) #[true, true, true, true, true, true, true, true, true, true, true, true, true, true, true, true, true, true, true, true, true, true, true, true, true, false, false, false, false, false, false, false, false, false, false, false, false, false, false] rfl rfl (any_of HT_.out (by kernel_rfl)) (fun _ _ _ h => h) (Or.inl ⟨by rfl, ?_⟩) ?_ ?_
              rotate_left
              · intro w'
                go_simp
                with_reducible rfl
              rotate_left
              · simp only [Act.put, List.setIfInBounds_toArray, List.set_cons_zero, List.set_cons_succ, i64_w, i32_w]
                rfl
              refine pure_ (i := 25) (N := some 181) (v := ?_) (a' := ?_) #[true, true, true, true, true, true, true, true, true, true, true, true, true, true, true, true, true, true, true, true, true, true, true, true, true, true, false, false, false, false, false, false, false, false, false, false, false, false, false] rfl rfl (any_of HT_.out (by kernel_rfl)) (fun _ _ _ h => h) (Or.inl ⟨by rfl, ?_⟩) ?_ ?_
              rotate_left
              · intro w'
                go_simp
                with_reducible rfl
              rotate_left
              · simp only [Act.put, List.setIfInBounds_toArray, List.set_cons_zero, List.set_cons_succ, i64_w, i32_w]
                rfl
              refine pure_ (i := 26) (N := some 182) (v := ?_) (a' := ?_) #[true, true, true, true, true, true, true, true, true, true, true, true, true, true, true, true, true, true, true, true, true, true, true, true, true, true, true, false, false, false, false, false, false, false, false, false, false, false, false] rfl rfl (any_of HT_.out (by kernel_rfl)) (fun _ _ _ h => h) (Or.inl ⟨by rfl, ?_⟩) ?_ ?_
              rotate_left
              · intro w'
                go_simp
                with_reducible rfl
              rotate_left
              · simp only [Act.put, List.setIfInBounds_toArray, List.set_cons_zero, List.set_cons_succ, i64_w, i32_w]
                rfl
              refine pure_ (i := 27) (N := some 183) (v := ?_) (a' := ?_) #[true, true, true, true, true, true, true, true, true, true, true, true, true, true, true, true, true, true, true, true, true, true, true, true, true, true, true, true, false, false, false, false, false, false, false, false, false, false, false] rfl rfl (any_of HT_.out (by kernel_rfl)) (fun _ _ _ h => h) (Or.inl ⟨by rfl, ?_⟩) ?_ ?_
              rotate_left
              · intro w'
                go_simp
                with_reducible rfl
              rotate_left
              · simp only [Act.put, List.setIfInBounds_toArray, List.set_cons_zero, List.set_cons_succ, i64_w, i32_w]
                rfl
              refine pure_ (i := 28) (N := some 184) (v := ?_) (a' := ?_) #[true, true, true, true, true, true, true, true, true, true, true, true, true, true, true, true, true, true, true, true, true, true, true, true, true, true, true, true, true, false, false, false, false, false, false, false, false, false, false] rfl rfl (any_of HT_.out (by kernel_rfl)) (fun _ _ _ h => h) (Or.inl ⟨by rfl, ?_⟩) ?_ ?_
              rotate_left
              · intro w'
                go_simp
                with_reducible rfl
              rotate_left
              · simp only [Act.put, List.setIfInBounds_toArray, List.set_cons_zero, List.set_cons_succ, i64_w, i32_w]
                rfl
              refine pure_ (i := 29) (N := some 185) (v := ?_) (a' := ?_) #[true, true, true, true, true, true, true, true, true, true, true, true, true, true, true, true, true, true, true, true, true, true, true, true, true, true, true, true, true, true, false, false, false, false, false, false, false, false, false] rfl rfl (any_of HT_.out (by kernel_rfl)) (fun _ _ _ h => h) (Or.inl ⟨by rfl, ?_⟩) ?_ ?_
              rotate_left
              · intro w'
                go_simp
                with_reducible rfl
              rotate_left
              · simp only [Act.put, List.setIfInBounds_toArray, List.set_cons_zero, List.set_cons_succ, i64_w, i32_w]
                rfl
              refine pure_ (i := 30) (N := some 186) (v := ?_) (a' := ?_) #[true, true, true, true, true, true, true, true, true, true, true, true, true, true, true, true, true, true, true, true, true, true, true, true, true, true, true, true, true, true, true, false, false, false, false, false, false, false, false] rfl rfl (any_of HT_.out (by kernel_rfl)) (fun _ _ _ h => h) (Or.inl ⟨by rfl, ?_⟩) ?_ ?_
              rotate_left
              · intro w'
                go_simp
                with_reducible rfl
              rotate_left
              · simp only [Act.put, List.setIfInBounds_toArray, List.set_cons_zero, List.set_cons_succ, i64_w, i32_w]
                rfl
              refine pure_ (i := 32) (N := some 188) (v := ?_) (a' := ?_) #[true, true, true, true, true, true, true, true, true, true, true, true, true, true, true, true, true, true, true, true, true, true, true, true, true, true, true, true, true, true, true, false, true, false, false, false, false, false, false] rfl rfl (any_of HT_.out (by kernel_rfl)) (fun _ _ _ h => h) (Or.inl ⟨by rfl, ?_⟩) ?_ ?_
              rotate_left
              · intro w'
                go_simp
                with_reducible rfl
              rotate_left
              · simp only [Act.put, List.setIfInBounds_toArray, List.set_cons_zero, List.set_cons_succ, i64_w, i32_w]
                rfl
              refine take_ (i := 33) (N := some 189) (v := ?_) (a' := ?_) #[true, true, true, true, true, true, true, true, true, true, true, true, true, true, true, true, true, true, true, true, true, true, true, true, true, true, true, true, true, true, true, false, true, true, false, false, false, false, false] rfl rfl (take_ofW HT_.out HW_.out (by kernel_rfl)) (fun _ _ _ h => h) (Or.inl ⟨by rfl, ?_⟩) hHeld ?_ ?_
              rotate_left
              · rintro w' ⟨s0, s1, s2, s3, s4, s5⟩
                go_simp
                with_reducible rfl
              rotate_left
              · simp only [Act.put, List.setIfInBounds_toArray, List.set_cons_zero, List.set_cons_succ, i64_w, i32_w]
                rfl
              refine pure_ (i := 35) (N := some 191) (v := ?_) (a' := ?_) #[true, true, true, true, true, true, true, true, true, true, true, true, true, true, true, true, true, true, true, true, true, true, true, true, true, true, true, true, true, true, true, false, true, true, false, true, false, false, false] rfl rfl (any_of HT_.out (by kernel_rfl)) (fun _ _ _ h => h) (Or.inl ⟨by rfl, ?_⟩) ?_ ?_
              rotate_left
              · intro w'
                go_simp
                with_reducible rfl
              rotate_left
              · simp only [Act.put, List.setIfInBounds_toArray, List.set_cons_zero, List.set_cons_succ, i64_w, i32_w]
                rfl
              refine one_ (i := 31) (N := some 187) #[true, true, true, true, true, true, true, true, true, true, true, true, true, true, true, true, true, true, true, true, true, true, true, true, true, true, true, true, true, true, true, true, true, true, false, true, false, false, false] rfl rfl (one_of HT_.out (by kernel_rfl)) (by decide) (fun K hK => ?_)
              refine goes_ Try.func28 (by kernel_rfl) rfl #[.pointer (some ⟨g, 0, none⟩)] (by rfl) rfl rfl (by (try simp only [List.map_toArray, List.map_cons, List.map_nil]); first | done | rfl | (go_simp; done) | simp [Act.eval]) ?_
              refine HCN.out.mono ?_
              rintro e w13 ⟨rfl, rfl⟩
              refine ⟨_, rfl, ?_⟩
              refine hK.out _ _ HS.out (fun hHeld => ?_)
              clear hK K
              refine norm_ (a' := ?_) ?_ ?_
              rotate_left
              · show Act.put _ (some 187) _ = _
                simp only [Act.put, List.setIfInBounds_toArray, List.set_cons_zero, List.set_cons_succ, i64_w, i32_w]
                rfl
              refine pure_ (i := 34) (N := some 190) (v := ?_) (a' := ?_) #[true, true, true, true, true, true, true, true, true, true, true, true, true, true, true, true, true, true, true, true, true, true, true, true, true, true, true, true, true, true, true, true, true, true, true, true, false, false, false] rfl rfl (any_of HT_.out (by kernel_rfl)) (fun _ _ _ h => h) (Or.inl ⟨by rfl, ?_⟩) ?_ ?_
              rotate_left
              · intro w'
                go_simp
                with_reducible rfl
              rotate_left
              · simp only [Act.put, List.setIfInBounds_toArray, List.set_cons_zero, List.set_cons_succ, i64_w, i32_w]
                rfl
              refine pure_ (i := 36) (N := some 192) (v := ?_) (a' := ?_) #[true, true, true, true, true, true, true, true, true, true, true, true, true, true, true, true, true, true, true, true, true, true, true, true, true, true, true, true, true, true, true, true, true, true, true, true, true, false, false] rfl rfl (any_of HT_.out (by kernel_rfl)) (fun _ _ _ h => h) (Or.inl ⟨by rfl, ?_⟩) ?_ ?_
              rotate_left
              · intro w'
                go_simp
                with_reducible rfl
              rotate_left
              · simp only [Act.put, List.setIfInBounds_toArray, List.set_cons_zero, List.set_cons_succ, i64_w, i32_w]
                rfl
              refine pure_ (i := 37) (N := some 193) (v := ?_) (a' := ?_) #[true, true, true, true, true, true, true, true, true, true, true, true, true, true, true, true, true, true, true, true, true, true, true, true, true, true, true, true, true, true, true, true, true, true, true, true, true, true, false] rfl rfl (any_of HT_.out (by kernel_rfl)) (fun _ _ _ h => h) (Or.inl ⟨by rfl, ?_⟩) ?_ ?_
              rotate_left
              · intro w'
                go_simp
                with_reducible rfl
              rotate_left
              · simp only [Act.put, List.setIfInBounds_toArray, List.set_cons_zero, List.set_cons_succ, i64_w, i32_w]
                rfl
              refine pure_ (i := 38) (N := some 194) (v := ?_) (a' := ?_) #[true, true, true, true, true, true, true, true, true, true, true, true, true, true, true, true, true, true, true, true, true, true, true, true, true, true, true, true, true, true, true, true, true, true, true, true, true, true, true] rfl rfl (any_of HT_.out (by kernel_rfl)) (fun _ _ _ h => h) (Or.inl ⟨by rfl, ?_⟩) ?_ ?_
              rotate_left
              · intro w'
                go_simp
                with_reducible rfl
              rotate_left
              · simp only [Act.put, List.setIfInBounds_toArray, List.set_cons_zero, List.set_cons_succ, i64_w, i32_w]
                rfl
              refine done_ (done_of HT_.out (by kernel_rfl)) ?_
              go_wp2_with fail
              have HCD := HCX
              clear HCX HS HCV1 HCV2 HCN
              generalize w9.drew = wz at HCD ⊢
              have n0 := Aside0.mk (HCD.out.below (below_drew1 (Below.refl wz.heap.size wz)))
              clear HCD
              have HCD := n0
              clear n0
              obtain ⟨nL9, hnL9⟩ : ∃ nL9, nL9 = L9.length := ⟨_, rfl⟩
              obtain ⟨Ad9, cd9, ed9⟩ := HCD.out.ds.slice
              rw [← hnL9] at ed9
              have hcl9 := clen_calls HCD.out.cs
              rw [← hnL9] at hcl9
              have HCL := Aside0.mk hcl9
              have HCN := Aside0.mk (cnow_calls HCD.out.cs)
              have HS := Aside0.mk (show wz.drew.cell? ⟨h, 2, none⟩ = some (.slice Ad9 nL9 cd9) ∧ wz.drew.cell? ⟨h, 1, none⟩ = some (.int .i64 now9) from ⟨by rw [← ed9]; exact blk_cell HCD.out.ds.blk 2, blk_cell HCD.out.ds.blk 1⟩)
              have HNL := Aside0.mk hnL9
              clear hnL9 ed9 hcl9
              refine start_ (n := 17) (S := (fun w' => w'.cell? ⟨h, 2, none⟩ = some (.slice Ad9 nL9 cd9) ∧ w'.cell? ⟨h, 1, none⟩ = some (.int .i64 now9))) (ds := []) #[false, false, false, false, false, false, false, false, false, false, false, false, false, false, false, false, false] (by kernel_rfl) rfl rfl HS.out (fun hHeld => ?_)
              refine with_tabW acts42a.tab acts42a.bits (fun HT_ HW_ => ?_)
              refine pure_ (i := 0) (N := some 241) (v := ?_) (a' := ?_) #[true, false, false, false, false, false, false, false, false, false, false, false, false, false, false, false, false] rfl rfl (any_of HT_.out (by kernel_rfl)) (fun _ _ _ h => h) (Or.inl ⟨by rfl, ?_⟩) ?_ ?_
              rotate_left
              · intro w'
                go_simp
                with_reducible rfl
              rotate_left
              · simp only [Act.put, List.setIfInBounds_toArray, List.set_cons_zero, List.set_cons_succ, i64_w, i32_w]
                rfl
              refine pure_ (i := 2) (N := some 243) (v := ?_) (a' := ?_) #[true, false, true, false, false, false, false, false, false, false, false, false, false, false, false, false, false] rfl rfl (any_of HT_.out (by kernel_rfl)) (fun _ _ _ h => h) (Or.inl ⟨by rfl, ?_⟩) ?_ ?_
              rotate_left
              · intro w'
                go_simp
                with_reducible rfl
              rotate_left
              · simp only [Act.put, List.setIfInBounds_toArray, List.set_cons_zero, List.set_cons_succ, i64_w, i32_w]
                rfl
              refine pure_ (i := 3) (N := some 244) (v := ?_) (a' := ?_) #[true, false, true, true, false, false, false, false, false, false, false, false, false, false, false, false, false] rfl rfl (any_of HT_.out (by kernel_rfl)) (fun _ _ _ h => h) (Or.inl ⟨by rfl, ?_⟩) ?_ ?_
              rotate_left
              · intro w'
                go_simp
                with_reducible rfl
              rotate_left
              · simp only [Act.put, List.setIfInBounds_toArray, List.set_cons_zero, List.set_cons_succ, i64_w, i32_w]
                rfl
              refine pure_ (i := 4) (N := some 245) (v := ?_) (a' := ?_) #[true, false, true, true, true, false, false, false, false, false, false, false, false, false, false, false, false] rfl rfl (any_of HT_.out (by kernel_rfl)) (fun _ _ _ h => h) (Or.inl ⟨by rfl, ?_⟩) ?_ ?_
              rotate_left
              · intro w'
                go_simp
                with_reducible rfl
              rotate_left
              · simp only [Act.put, List.setIfInBounds_toArray, List.set_cons_zero, List.set_cons_succ, i64_w, i32_w]
                rfl
              refine take_ (i := 5) (N := some 246) (v := ?_) (a' := ?_) #[true, false, true, true, true, true, false, false, false, false, false, false, false, false, false, false, false] rfl rfl (take_ofW HT_.out HW_.out (by kernel_rfl)) (fun _ _ _ h => h) (Or.inl ⟨by rfl, ?_⟩) hHeld ?_ ?_
              rotate_left
              · rintro w' ⟨s0, s1⟩
                go_simp
                with_reducible rfl
              rotate_left
              · simp only [Act.put, List.setIfInBounds_toArray, List.set_cons_zero, List.set_cons_succ, i64_w, i32_w]
                rfl
              refine pure_ (i := 6) (N := some 247) (v := ?_) (a' := ?_) #[true, false, true, true, true, true, true, false, false, false, false, false, false, false, false, false, false] rfl rfl (any_of HT_.out (by kernel_rfl)) (fun _ _ _ h => h) (Or.inl ⟨by rfl, ?_⟩) ?_ ?_
              rotate_left
              · intro w'
                go_simp
                with_reducible rfl
              rotate_left
              · simp only [Act.put, List.setIfInBounds_toArray, List.set_cons_zero, List.set_cons_succ, i64_w, i32_w]
                rfl
              refine one_ (i := 1) (N := some 242) #[true, true, true, true, true, true, true, false, false, false, false, false, false, false, false, false, false] rfl rfl (one_of HT_.out (by kernel_rfl)) (by decide) (fun K hK => ?_)
              refine goes_ Try.func14 (by kernel_rfl) rfl #[.pointer (some ⟨g, 0, none⟩)] (by rfl) rfl rfl (by (try simp only [List.map_toArray, List.map_cons, List.map_nil]); first | done | rfl | (go_simp; done) | simp [Act.eval]) ?_
              refine HCL.out.mono ?_
              rintro e w11 ⟨rfl, rfl⟩
              refine ⟨_, rfl, ?_⟩
              refine hK.out _ _ HS.out (fun hHeld => ?_)
              clear hK K
              refine norm_ (a' := ?_) ?_ ?_
              rotate_left
              · show Act.put _ (some 242) _ = _
                simp only [Act.put, List.setIfInBounds_toArray, List.set_cons_zero, List.set_cons_succ, i64_w, i32_w]
                rfl
              refine pure_ (i := 7) (N := some 248) (v := ?_) (a' := ?_) #[true, true, true, true, true, true, true, true, false, false, false, false, false, false, false, false, false] rfl rfl (any_of HT_.out (by kernel_rfl)) (fun _ _ _ h => h) (Or.inl ⟨by rfl, ?_⟩) ?_ ?_
              rotate_left
              · intro w'
                go_simp
                with_reducible rfl
              rotate_left
              · simp only [Act.put, List.setIfInBounds_toArray, List.set_cons_zero, List.set_cons_succ, i64_w, i32_w]
                rfl
              refine pure_ (i := 8) (N := some 249) (v := ?_) (a' := ?_) #[true, true, true, true, true, true, true, true, true, false, false, false, false, false, false, false, false] rfl rfl (any_of HT_.out (by kernel_rfl)) (fun _ _ _ h => h) (Or.inl ⟨by rfl, ?_⟩) ?_ ?_
              rotate_left
              · intro w'
                go_simp
                with_reducible rfl
              rotate_left
              · simp only [Act.put, List.setIfInBounds_toArray, List.set_cons_zero, List.set_cons_succ, i64_w, i32_w]
                rfl
              refine pure_ (i := 9) (N := some 250) (v := ?_) (a' := ?_) #[true, true, true, true, true, true, true, true, true, true, false, false, false, false, false, false, false] rfl rfl (any_of HT_.out (by kernel_rfl)) (fun _ _ _ h => h) (Or.inl ⟨by rfl, ?_⟩) ?_ ?_
              rotate_left
              · intro w'
                go_simp
                with_reducible rfl
              rotate_left
              · simp only [Act.put, List.setIfInBounds_toArray, List.set_cons_zero, List.set_cons_succ, i64_w, i32_w]
                rfl
              refine pure_ (i := 11) (N := some 252) (v := ?_) (a' := ?_) #[true, true, true, true, true, true, true, true, true, true, false, true, false, false, false, false, false] rfl rfl (any_of HT_.out (by kernel_rfl)) (fun _ _ _ h => h) (Or.inl ⟨by rfl, ?_⟩) ?_ ?_
              rotate_left
              · intro w'
                go_simp
                with_reducible rfl
              rotate_left
              · simp only [Act.put, List.setIfInBounds_toArray, List.set_cons_zero, List.set_cons_succ, i64_w, i32_w]
                rfl
              refine pure_ (i := 12) (N := some 253) (v := ?_) (a' := ?_) #[true, true, true, true, true, true, true, true, true, true, false, true, true, false, false, false, false] rfl rfl (any_of HT_.out (by kernel_rfl)) (fun _ _ _ h => h) (Or.inl ⟨by rfl, ?_⟩) ?_ ?_
              rotate_left
              · intro w'
                go_simp
                with_reducible rfl
              rotate_left
              · simp only [Act.put, List.setIfInBounds_toArray, List.set_cons_zero, List.set_cons_succ, i64_w, i32_w]
                rfl
              refine pure_ (i := 13) (N := some 254) (v := ?_) (a' := ?_) #[true, true, true, true, true, true, true, true, true, true, false, true, true, true, false, false, false] rfl rfl (any_of HT_.out (by kernel_rfl)) (fun _ _ _ h => h) (Or.inl ⟨by rfl, ?_⟩) ?_ ?_
              rotate_left
              · intro w'
                go_simp
                with_reducible rfl
              rotate_left
              · simp only [Act.put, List.setIfInBounds_toArray, List.set_cons_zero, List.set_cons_succ, i64_w, i32_w]
                rfl
              refine take_ (i := 14) (N := some 255) (v := ?_) (a' := ?_) #[true, true, true, true, true, true, true, true, true, true, false, true, true, true, true, false, false] rfl rfl (take_ofW HT_.out HW_.out (by kernel_rfl)) (fun _ _ _ h => h) (Or.inl ⟨by rfl, ?_⟩) hHeld ?_ ?_
              rotate_left
              · rintro w' ⟨s0, s1⟩
                go_simp
                with_reducible rfl
              rotate_left
              · simp only [Act.put, List.setIfInBounds_toArray, List.set_cons_zero, List.set_cons_succ, i64_w, i32_w]
                rfl
              refine one_ (i := 10) (N := some 251) #[true, true, true, true, true, true, true, true, true, true, true, true, true, true, true, false, false] rfl rfl (one_of HT_.out (by kernel_rfl)) (by decide) (fun K hK => ?_)
              refine goes_ Try.func28 (by kernel_rfl) rfl #[.pointer (some ⟨g, 0, none⟩)] (by rfl) rfl rfl (by (try simp only [List.map_toArray, List.map_cons, List.map_nil]); first | done | rfl | (go_simp; done) | simp [Act.eval]) ?_
              refine HCN.out.mono ?_
              rintro e w12 ⟨rfl, rfl⟩
              refine ⟨_, rfl, ?_⟩
              refine hK.out _ _ HS.out (fun hHeld => ?_)
              clear hK K
              refine norm_ (a' := ?_) ?_ ?_
              rotate_left
              · show Act.put _ (some 251) _ = _
                simp only [Act.put, List.setIfInBounds_toArray, List.set_cons_zero, List.set_cons_succ, i64_w, i32_w]
                rfl
              refine pure_ (i := 15) (N := some 256) (v := ?_) (a' := ?_) #[true, true, true, true, true, true, true, true, true, true, true, true, true, true, true, true, false] rfl rfl (any_of HT_.out (by kernel_rfl)) (fun _ _ _ h => h) (Or.inl ⟨by rfl, ?_⟩) ?_ ?_
              rotate_left
              · intro w'
                go_simp
                with_reducible rfl
              rotate_left
              · simp only [Act.put, List.setIfInBounds_toArray, List.set_cons_zero, List.set_cons_succ, i64_w, i32_w]
                rfl
              refine pure_ (i := 16) (N := some 257) (v := ?_) (a' := ?_) #[true, true, true, true, true, true, true, true, true, true, true, true, true, true, true, true, true] rfl rfl (any_of HT_.out (by kernel_rfl)) (fun _ _ _ h => h) (Or.inl ⟨by rfl, ?_⟩) ?_ ?_
              rotate_left
              · intro w'
                go_simp
                with_reducible rfl
              rotate_left
              · simp only [Act.put, List.setIfInBounds_toArray, List.set_cons_zero, List.set_cons_succ, i64_w, i32_w]
                rfl
              refine done_ (done_of HT_.out (by kernel_rfl)) ?_
              go_wp2
              go_roundw
              case rel => exact ⟨i + 1, now9, v9, vd9, L9, by simp, by omega, HCD, HOK, HNN⟩
              case measure => simp [intOf]; omega
            · clear hold hnw
              refine start_ (n := 39) (S := (fun w' => w'.cell? ⟨w10.heap.size, 0, none⟩ = some (.slice B1 n1 d1) ∧ w'.cell? ⟨w10.heap.size, 1, none⟩ = some (.slice B2 n2 d2) ∧ w'.cell? ⟨w10.heap.size, 2, none⟩ = some (.int .i64 s3) ∧ w'.cell? ⟨w12.heap.size, 0, none⟩ = some (.string s1) ∧ w'.cell? ⟨w12.heap.size, 1, none⟩ = some (.string s2) ∧ w'.cell? ⟨w12.heap.size, 2, none⟩ = some (.int .i64 s3))) (ds := []) #[false, false, false, false, false, false, false, false, false, false, false, false, false, false, false, false, false, false, false, false, false, false, false, false, false, false, false, false, false, false, false, false, false, false, false, false, false, false, false] (by kernel_rfl) rfl rfl HS.out (fun hHeld => ?_)
              refine with_tabW acts29b.tab acts29b.bits (fun HT_ HW_ => ?_)
              refine pure_ (i := 0) (N := some 156) (v := ?_) (a' := ?_) #[true, false, false, false, false, false, false, false, false, false, false, false, false, false, false, false, false, false, false, false, false, false, false, false, false, false, false, false, false, false, false, false, false, false, false, false, false, false, false] rfl rfl (any_of HT_.out (by kernel_rfl)) (fun _ _ _ h => h) (Or.inl ⟨by rfl, ?_⟩) ?_ ?_
              rotate_left
              · intro w'
                go_simp
                with_reducible rfl
              rotate_left
              · simp only [Act.put, List.setIfInBounds_toArray, List.set_cons_zero, List.set_cons_succ, i64_w, i32_w]
                rfl
              refine pure_ (i := 1) (N := some 157) (v := ?_) (a' := ?_) #[true, true, false, false, false, false, false, false, false, false, false, false, false, false, false, false, false, false, false, false, false, false, false, false, false, false, false, false, false, false, false, false, false, false, false, false, false, false, false] rfl rfl (any_of HT_.out (by kernel_rfl)) (fun _ _ _ h => h) (Or.inl ⟨by rfl, ?_⟩) ?_ ?_
              rotate_left
              · intro w'
                go_simp
                with_reducible rfl
              rotate_left
              · simp only [Act.put, List.setIfInBounds_toArray, List.set_cons_zero, List.set_cons_succ, i64_w, i32_w]
                rfl
              refine pure_ (i := 2) (N := some 158) (v := ?_) (a' := ?_) #[true, true, true, false, false, false, false, false, false, false, false, false, false, false, false, false, false, false, false, false, false, false, false, false, false, false, false, false, false, false, false, false, false, false, false, false, false, false, false] rfl rfl (any_of HT_.out (by kernel_rfl)) (fun _ _ _ h => h) (Or.inl ⟨by rfl, ?_⟩) ?_ ?_
              rotate_left
              · intro w'
                go_simp
                with_reducible rfl
              rotate_left
              · simp only [Act.put, List.setIfInBounds_toArray, List.set_cons_zero, List.set_cons_succ, i64_w, i32_w]
                rfl
              refine pure_ (i := 3) (N := some 159) (v := ?_) (a' := ?_) #[true, true, true, true, false, false, false, false, false, false, false, false, false, false, false, false, false, false, false, false, false, false, false, false, false, false, false, false, false, false, false, false, false, false, false, false, false, false, false] rfl rfl (any_of HT_.out (by kernel_rfl)) (fun _ _ _ h => h) (Or.inl ⟨by rfl, ?_⟩) ?_ ?_
              rotate_left
              · intro w'
                go_simp
                with_reducible rfl
              rotate_left
              · simp only [Act.put, List.setIfInBounds_toArray, List.set_cons_zero, List.set_cons_succ, i64_w, i32_w]
                rfl
              refine pure_ (i := 4) (N := some 160) (v := ?_) (a' := ?_) #[true, true, true, true, true, false, false, false, false, false, false, false, false, false, false, false, false, false, false, false, false, false, false, false, false, false, false, false, false, false, false, false, false, false, false, false, false, false, false] rfl rfl (any_of HT_.out (by kernel_rfl)) (fun _ _ _ h => h) (Or.inl ⟨by rfl, ?_⟩) ?_ ?_
              rotate_left
              · intro w'
                go_simp
                with_reducible rfl
              rotate_left
              · simp only [Act.put, List.setIfInBounds_toArray, List.set_cons_zero, List.set_cons_succ, i64_w, i32_w]
                rfl
              refine take_ (i := 5) (N := some 161) (v := ?_) (a' := ?_) #[true, true, true, true, true, true, false, false, false, false, false, false, false, false, false, false, false, false, false, false, false, false, false, false, false, false, false, false, false, false, false, false, false, false, false, false, false, false, false] rfl rfl (take_ofW HT_.out HW_.out (by kernel_rfl)) (fun _ _ _ h => h) (Or.inl ⟨by rfl, ?_⟩) hHeld ?_ ?_
              rotate_left
              · rintro w' ⟨s0, s1, s2, s3, s4, s5⟩
                go_simp
                with_reducible rfl
              rotate_left
              · simp only [Act.put, List.setIfInBounds_toArray, List.set_cons_zero, List.set_cons_succ, i64_w, i32_w]
                rfl
              refine pure_ (i := 7) (N := some 163) (v := ?_) (a' := ?_) #[true, true, true, true, true, true, false, true, false, false, false, false, false, false, false, false, false, false, false, false, false, false, false, false, false, false, false, false, false, false, false, false, false, false, false, false, false, false, false] rfl rfl (any_of HT_.out (by kernel_rfl)) (fun _ _ _ h => h) (Or.inl ⟨by rfl, ?_⟩) ?_ ?_
              rotate_left
              · intro w'
                go_simp
                with_reducible rfl
              rotate_left
              · simp only [Act.put, List.setIfInBounds_toArray, List.set_cons_zero, List.set_cons_succ, i64_w, i32_w]
                rfl
              refine take_ (i := 8) (N := some 164) (v := ?_) (a' := ?_) #[true, true, true, true, true, true, false, true, true, false, false, false, false, false, false, false, false, false, false, false, false, false, false, false, false, false, false, false, false, false, false, false, false, false, false, false, false, false, false] rfl rfl (take_ofW HT_.out HW_.out (by kernel_rfl)) (fun _ _ _ h => h) (Or.inl ⟨by rfl, ?_⟩) hHeld ?_ ?_
              rotate_left
              · rintro w' ⟨s0, s1, s2, s3, s4, s5⟩
                go_simp
                with_reducible rfl
              rotate_left
              · simp only [Act.put, List.setIfInBounds_toArray, List.set_cons_zero, List.set_cons_succ, i64_w, i32_w]
                rfl
              refine one_ (i := 6) (N := some 162) #[true, true, true, true, true, true, true, true, true, false, false, false, false, false, false, false, false, false, false, false, false, false, false, false, false, false, false, false, false, false, false, false, false, false, false, false, false, false, false] rfl rfl (one_of HT_.out (by kernel_rfl)) (by decide) (fun K hK => ?_)
              have hcv := HCV1.out
              refine value_ (w1 := ?_) (v := ?_) (by rfl) rfl ?_ ?_
              rotate_left 2
              · go_simp
                constructor
                · rfl
                · rfl
              refine hK.out _ _ HS.out (fun hHeld => ?_)
              clear hK K
              refine norm_ (a' := ?_) ?_ ?_
              rotate_left
              · show Act.put _ (some 162) _ = _
                simp only [Act.put, List.setIfInBounds_toArray, List.set_cons_zero, List.set_cons_succ, i64_w, i32_w]
                rfl
              refine pure_ (i := 9) (N := some 165) (v := ?_) (a' := ?_) #[true, true, true, true, true, true, true, true, true, true, false, false, false, false, false, false, false, false, false, false, false, false, false, false, false, false, false, false, false, false, false, false, false, false, false, false, false, false, false] rfl rfl (any_of HT_.out (by kernel_rfl)) (fun _ _ _ h => h) (Or.inl ⟨by rfl, ?_⟩) ?_ ?_
              rotate_left
              · intro w'
                go_simp
                with_reducible rfl
              rotate_left
              · simp only [Act.put, List.setIfInBounds_toArray, List.set_cons_zero, List.set_cons_succ, i64_w, i32_w]
                rfl
              refine pure_ (i := 10) (N := some 166) (v := ?_) (a' := ?_) #[true, true, true, true, true, true, true, true, true, true, true, false, false, false, false, false, false, false, false, false, false, false, false, false, false, false, false, false, false, false, false, false, false, false, false, false, false, false, false] rfl rfl (any_of HT_.out (by kernel_rfl)) (fun _ _ _ h => h) (Or.inl ⟨by rfl, ?_⟩) ?_ ?_
              rotate_left
              · intro w'
                go_simp
                with_reducible rfl
              rotate_left
              · simp only [Act.put, List.setIfInBounds_toArray, List.set_cons_zero, List.set_cons_succ, i64_w, i32_w]
                rfl
              refine pure_ (i := 11) (N := some 167) (v := ?_) (a' := ?_) #[true, true, true, true, true, true, true, true, true, true, true, true, false, false, false, false, false, false, false, false, false, false, false, false, false, false, false, false, false, false, false, false, false, false, false, false, false, false, false] rfl rfl (any_of HT_.out (by kernel_rfl)) (fun _ _ _ h => h) (Or.inl ⟨by rfl, ?_⟩) ?_ ?_
              rotate_left
              · intro w'
                go_simp
                with_reducible rfl
              rotate_left
              · simp only [Act.put, List.setIfInBounds_toArray, List.set_cons_zero, List.set_cons_succ, i64_w, i32_w]
                rfl
              refine pure_ (i := 12) (N := some 168) (v := ?_) (a' := ?_) #[true, true, true, true, true, true, true, true, true, true, true, true, true, false, false, false, false, false, false, false, false, false, false, false, false, false, false, false, false, false, false, false, false, false, false, false, false, false, false] rfl rfl (any_of HT_.out (by kernel_rfl)) (fun _ _ _ h => h) (Or.inl ⟨by rfl, ?_⟩) ?_ ?_
              rotate_left
              · intro w'
                go_simp
                with_reducible rfl
              rotate_left
              · simp only [Act.put, List.setIfInBounds_toArray, List.set_cons_zero, List.set_cons_succ, i64_w, i32_w]
                rfl
              refine take_ (i := 13) (N := some 169) (v := ?_) (a' := ?_) #[true, true, true, true, true, true, true, true, true, true, true, true, true, true, false, false, false, false, false, false, false, false, false, false, false, false, false, false, false, false, false, false, false, false, false, false, false, false, false] rfl rfl (take_ofW HT_.out HW_.out (by kernel_rfl)) (fun _ _ _ h => h) (Or.inl ⟨by rfl, ?_⟩) hHeld ?_ ?_
              rotate_left
              · rintro w' ⟨s0, s1, s2, s3, s4, s5⟩
                go_simp
                with_reducible rfl
              rotate_left
              · simp only [Act.put, List.setIfInBounds_toArray, List.set_cons_zero, List.set_cons_succ, i64_w, i32_w]
                rfl
              refine pure_ (i := 15) (N := some 171) (v := ?_) (a' := ?_) #[true, true, true, true, true, true, true, true, true, true, true, true, true, true, false, true, false, false, false, false, false, false, false, false, false, false, false, false, false, false, false, false, false, false, false, false, false, false, false] rfl rfl (any_of HT_.out (by kernel_rfl)) (fun _ _ _ h => h) (Or.inl ⟨by rfl, ?_⟩) ?_ ?_
              rotate_left
              · intro w'
                go_simp
                with_reducible rfl
              rotate_left
              · simp only [Act.put, List.setIfInBounds_toArray, List.set_cons_zero, List.set_cons_succ, i64_w, i32_w]
                rfl
              refine take_ (i := 16) (N := some 172) (v := ?_) (a' := ?_) #[true, true, true, true, true, true, true, true, true, true, true, true, true, true, false, true, true, false, false, false, false, false, false, false, false, false, false, false, false, false, false, false, false, false, false, false, false, false, false] rfl rfl (take_ofW HT_.out HW_.out (by kernel_rfl)) (fun _ _ _ h => h) (Or.inl ⟨by rfl, ?_⟩) hHeld ?_ ?_
              rotate_left
              · rintro w' ⟨s0, s1, s2, s3, s4, s5⟩
                go_simp
                with_reducible rfl
              rotate_left
              · simp only [Act.put, List.setIfInBounds_toArray, List.set_cons_zero, List.set_cons_succ, i64_w, i32_w]
                rfl
              refine one_ (i := 14) (N := some 170) #[true, true, true, true, true, true, true, true, true, true, true, true, true, true, true, true, true, false, false, false, false, false, false, false, false, false, false, false, false, false, false, false, false, false, false, false, false, false, false] rfl rfl (one_of HT_.out (by kernel_rfl)) (by decide) (fun K hK => ?_)
              have hcv := HCV2.out
              refine value_ (w1 := ?_) (v := ?_) (by rfl) rfl ?_ ?_
              rotate_left 2
              · go_simp
                constructor
                · rfl
                · rfl
              refine hK.out _ _ HS.out (fun hHeld => ?_)
              clear hK K
              refine norm_ (a' := ?_) ?_ ?_
              rotate_left
              · show Act.put _ (some 170) _ = _
                simp only [Act.put, List.setIfInBounds_toArray, List.set_cons_zero, List.set_cons_succ, i64_w, i32_w]
                rfl
              refine pure_ (i := 17) (N := some 173) (v := ?_) (a' := ?_) #[true, true, true, true, true, true, true, true, true, true, true, true, true, true, true, true, true, true, false, false, false, false, false, false, false, false, false, false, false, false, false, false, false, false, false, false, false, false, false] rfl rfl (any_of HT_.out (by kernel_rfl)) (fun _ _ _ h => h) (Or.inl ⟨by rfl, ?_⟩) ?_ ?_
              rotate_left
              · intro w'
                go_simp
                with_reducible rfl
              rotate_left
              · simp only [Act.put, List.setIfInBounds_toArray, List.set_cons_zero, List.set_cons_succ, i64_w, i32_w]
                rfl
              refine pure_ (i := 18) (N := some 174) (v := ?_) (a' := ?_) #[true, true, true, true, true, true, true, true, true, true, true, true, true, true, true, true, true, true, true, false, false, false, false, false, false, false, false, false, false, false, false, false, false, false, false, false, false, false, false] rfl rfl (any_of HT_.out (by kernel_rfl)) (fun _ _ _ h => h) (Or.inl ⟨by rfl, ?_⟩) ?_ ?_
              rotate_left
              · intro w'
                go_simp
                with_reducible rfl
              rotate_left
              · simp only [Act.put, List.setIfInBounds_toArray, List.set_cons_zero, List.set_cons_succ, i64_w, i32_w]
                rfl
              refine pure_ (i := 19) (N := some 175) (v := ?_) (a' := ?_) #[true, true, true, true, true, true, true, true, true, true, true, true, true, true, true, true, true, true, true, true, false, false, false, false, false, false, false, false, false, false, false, false, false, false, false, false, false, false, false] rfl rfl (any_of HT_.out (by kernel_rfl)) (fun _ _ _ h => h) (Or.inl ⟨by rfl, ?_⟩) ?_ ?_
              rotate_left
              · intro w'
                go_simp
                with_reducible rfl
              rotate_left
              · simp only [Act.put, List.setIfInBounds_toArray, List.set_cons_zero, List.set_cons_succ, i64_w, i32_w]
                rfl
              refine pure_ (i := 20) (N := some 176) (v := ?_) (a' := ?_) #[true, true, true, true, true, true, true, true, true, true, true, true, true, true, true, true, true, true, true, true, true, false, false, false, false, false, false, false, false, false, false, false, false, false, false, false, false, false, false] rfl rfl (any_of HT_.out (by kernel_rfl)) (fun _ _ _ h => h) (Or.inl ⟨by rfl, ?_⟩) ?_ ?_
              rotate_left
              · intro w'
                go_simp
                with_reducible rfl
              rotate_left
              · simp only [Act.put, List.setIfInBounds_toArray, List.set_cons_zero, List.set_cons_succ, i64_w, i32_w]
                rfl
              refine take_ (i := 21) (N := some 177) (v := ?_) (a' := ?_) #[true, true, true, true, true, true, true, true, true, true, true, true, true, true, true, true, true, true, true, true, true, true, false, false, false, false, false, false, false, false, false, false, false, false, false, false, false, false, false] rfl rfl (take_ofW HT_.out HW_.out (by kernel_rfl)) (fun _ _ _ h => h) (Or.inl ⟨by rfl, ?_⟩) hHeld ?_ ?_
              rotate_left
              · rintro w' ⟨s0, s1, s2, s3, s4, s5⟩
                go_simp
                with_reducible rfl
              rotate_left
              · simp only [Act.put, List.setIfInBounds_toArray, List.set_cons_zero, List.set_cons_succ, i64_w, i32_w]
                rfl
              refine pure_ (i := 22) (N := some 178) (v := ?_) (a' := ?_) #[true, true, true, true, true, true, true, true, true, true, true, true, true, true, true, true, true, true, true, true, true, true, true, false, false, false, false, false, false, false, false, false, false, false, false, false, false, false, false] rfl rfl (any_of HT_.out (by kernel_rfl)) (fun _ _ _ h => h) (Or.inl ⟨by rfl, ?_⟩) ?_ ?_
              rotate_left
              · intro w'
                go_simp
                with_reducible rfl
              rotate_left
              · simp only [Act.put, List.setIfInBounds_toArray, List.set_cons_zero, List.set_cons_succ, i64_w, i32_w]
                rfl
              refine take_ (i := 23) (N := some 179) (v := ?_) (a' := ?_) #[true, true, true, true, true, true, true, true, true, true, true, true, true, true, true, true, true, true, true, true, true, true, true, true, false, false, false, false, false, false, false, false, false, false, false, false, false, false, false] rfl rfl (take_ofW HT_.out HW_.out (by kernel_rfl)) (fun _ _ _ h => h) (Or.inl ⟨by rfl, ?_⟩) hHeld ?_ ?_
              rotate_left
              · rintro w' ⟨s0, s1, s2, s3, s4, s5⟩
                go_simp
                with_reducible rfl
              rotate_left
              · simp only [Act.put, List.setIfInBounds_toArray, List.set_cons_zero, List.set_cons_succ, i64_w, i32_w]
                rfl
              refine pure_ (i := 24) (N := some 180) (v := ?_) (a' := ?_) #[true, true, true, true, true, true, true, true, true, true, true, true, true, true, true, true, true, true, true, true, true, true, true, true, true, false, false, false, false, false, false, false, false, false, false, false, false, false, false] rfl rfl (any_of HT_.out (by kernel_rfl)) (fun _ _ _ h => h) (Or.inl ⟨by rfl, ?_⟩) ?_ ?_
              rotate_left
              · intro w'
                go_simp
                with_reducible rfl
              rotate_left
              · simp only [Act.put, List.setIfInBounds_toArray, List.set_cons_zero, List.set_cons_succ, i64_w, i32_w]
                rfl
              refine pure_ (i := 25) (N := some 181) (v := ?_) (a' := ?_) #[true, true, true, true, true, true, true, true, true, true, true, true, true, true, true, true, true, true, true, true, true, true, true, true, true, true, false, false, false, false, false, false, false, false, false, false, false, false, false] rfl rfl (any_of HT_.out (by kernel_rfl)) (fun _ _ _ h => h) (Or.inl ⟨by rfl, ?_⟩) ?_ ?_
              rotate_left
              · intro w'
                go_simp
                with_reducible rfl
              rotate_left
              · simp only [Act.put, List.setIfInBounds_toArray, List.set_cons_zero, List.set_cons_succ, i64_w, i32_w]
                rfl
              refine pure_ (i := 26) (N := some 182) (v := ?_) (a' := ?_) #[true, true, true, true, true, true, true, true, true, true, true, true, true, true, true, true, true, true, true, true, true, true, true, true, true, true, true, false, false, false, false, false, false, false, false, false, false, false, false] rfl rfl (any_of HT_.out (by kernel_rfl)) (fun _ _ _ h => h) (Or.inl ⟨by rfl, ?_⟩) ?_ ?_
              rotate_left
              · intro w'
                go_simp
                with_reducible rfl
              rotate_left
              · simp only [Act.put, List.setIfInBounds_toArray, List.set_cons_zero, List.set_cons_succ, i64_w, i32_w]
                rfl
              refine pure_ (i := 27) (N := some 183) (v := ?_) (a' := ?_) #[true, true, true, true, true, true, true, true, true, true, true, true, true, true, true, true, true, true, true, true, true, true, true, true, true, true, true, true, false, false, false, false, false, false, false, false, false, false, false] rfl rfl (any_of HT_.out (by kernel_rfl)) (fun _ _ _ h => h) (Or.inl ⟨by rfl, ?_⟩) ?_ ?_
              rotate_left
              · intro w'
                go_simp
                with_reducible rfl
              rotate_left
              · simp only [Act.put, List.setIfInBounds_toArray, List.set_cons_zero, List.set_cons_succ, i64_w, i32_w]
                rfl
              refine pure_ (i := 28) (N := some 184) (v := ?_) (a' := ?_) #[true, true, true, true, true, true, true, true, true, true, true, true, true, true, true, true, true, true, true, true, true, true, true, true, true, true, true, true, true, false, false, false, false, false, false, false, false, false, false] rfl rfl (any_of HT_.out (by kernel_rfl)) (fun _ _ _ h => h) (Or.inl ⟨by rfl, ?_⟩) ?_ ?_
              rotate_left
              · intro w'
                go_simp
                with_reducible rfl
              rotate_left
              · simp only [Act.put, List.setIfInBounds_toArray, List.set_cons_zero, List.set_cons_succ, i64_w, i32_w]
                rfl
              refine pure_ (i := 29) (N := some 185) (v := ?_) (a' := ?_) #[true, true, true, true, true, true, true, true, true, true, true, true, true, true, true, true, true, true, true, true, true, true, true, true, true, true, true, true, true, true, false, false, false, false, false, false, false, false, false] rfl rfl (any_of HT_.out (by kernel_rfl)) (fun _ _ _ h => h) (Or.inl ⟨by rfl, ?_⟩) ?_ ?_
              rotate_left
              · intro w'
                go_simp
                with_reducible rfl
              rotate_left
              · simp only [Act.put, List.setIfInBounds_toArray, List.set_cons_zero, List.set_cons_succ, i64_w, i32_w]
                rfl
              refine pure_ (i := 30) (N := some 186) (v := undef) (a' := ?_) #[true, true, true, true, true, true, true, true, true, true, true, true, true, true, true, true, true, true, true, true, true, true, true, true, true, true, true, true, true, true, true, false, false, false, false, false, false, false, false] rfl rfl (any_of HT_.out (by kernel_rfl)) (fun _ _ _ h => h) (Or.inr ⟨by rfl, rfl⟩) ?_ ?_
              rotate_left
              · simp only [Act.put, List.setIfInBounds_toArray, List.set_cons_zero, List.set_cons_succ, i64_w, i32_w]
                rfl
              refine pure_ (i := 31) (N := some 187) (v := undef) (a' := ?_) #[true, true, true, true, true, true, true, true, true, true, true, true, true, true, true, true, true, true, true, true, true, true, true, true, true, true, true, true, true, true, true, true, false, false, false, false, false, false, false] rfl rfl (any_of HT_.out (by kernel_rfl)) (fun _ _ _ h => h) (Or.inr ⟨by rfl, rfl⟩) ?_ ?_
              rotate_left
              · simp only [Act.put, List.setIfInBounds_toArray, List.set_cons_zero, List.set_cons_succ, i64_w, i32_w]
                rfl
              refine pure_ (i := 32) (N := some 188) (v := undef) (a' := ?_) #[true, true, true, true, true, true, true, true, true, true, true, true, true, true, true, true, true, true, true, true, true, true, true, true, true, true, true, true, true, true, true, true, true, false, false, false, false, false, false] rfl rfl (any_of HT_.out (by kernel_rfl)) (fun _ _ _ h => h) (Or.inr ⟨by rfl, rfl⟩) ?_ ?_
              rotate_left
              · simp only [Act.put, List.setIfInBounds_toArray, List.set_cons_zero, List.set_cons_succ, i64_w, i32_w]
                rfl
              refine pure_ (i := 33) (N := some 189) (v := undef) (a' := ?_) #[true, true, true, true, true, true, true, true, true, true, true, true, true, true, true, true, true, true, true, true, true, true, true, true, true, true, true, true, true, true, true, true, true, true, false, false, false, false, false] rfl rfl (any_of HT_.out (by kernel_rfl)) (fun _ _ _ h => h) (Or.inr ⟨by rfl, rfl⟩) ?_ ?_
              rotate_left
              · simp only [Act.put, List.setIfInBounds_toArray, List.set_cons_zero, List.set_cons_succ, i64_w, i32_w]
                rfl
              refine pure_ (i := 34) (N := some 190) (v := undef) (a' := ?_) #[true, true, true, true, true, true, true, true, true, true, true, true, true, true, true, true, true, true, true, true, true, true, true, true, true, true, true, true, true, true, true, true, true, true, true, false, false, false, false] rfl rfl (any_of HT_.out (by kernel_rfl)) (fun _ _ _ h => h) (Or.inr ⟨by rfl, rfl⟩) ?_ ?_
              rotate_left
              · simp only [Act.put, List.setIfInBounds_toArray, List.set_cons_zero, List.set_cons_succ, i64_w, i32_w]
                rfl
              refine pure_ (i := 35) (N := some 191) (v := undef) (a' := ?_) #[true, true, true, true, true, true, true, true, true, true, true, true, true, true, true, true, true, true, true, true, true, true, true, true, true, true, true, true, true, true, true, true, true, true, true, true, false, false, false] rfl rfl (any_of HT_.out (by kernel_rfl)) (fun _ _ _ h => h) (Or.inr ⟨by rfl, rfl⟩) ?_ ?_
              rotate_left
              · simp only [Act.put, List.setIfInBounds_toArray, List.set_cons_zero, List.set_cons_succ, i64_w, i32_w]
                rfl
              refine pure_ (i := 36) (N := some 192) (v := undef) (a' := ?_) #[true, true, true, true, true, true, true, true, true, true, true, true, true, true, true, true, true, true, true, true, true, true, true, true, true, true, true, true, true, true, true, true, true, true, true, true, true, false, false] rfl rfl (any_of HT_.out (by kernel_rfl)) (fun _ _ _ h => h) (Or.inr ⟨by rfl, rfl⟩) ?_ ?_
              rotate_left
              · simp only [Act.put, List.setIfInBounds_toArray, List.set_cons_zero, List.set_cons_succ, i64_w, i32_w]
                rfl
              refine pure_ (i := 37) (N := some 193) (v := ?_) (a' := ?_) #[true, true, true, true, true, true, true, true, true, true, true, true, true, true, true, true, true, true, true, true, true, true, true, true, true, true, true, true, true, true, true, true, true, true, true, true, true, true, false] rfl rfl (any_of HT_.out (by kernel_rfl)) (fun _ _ _ h => h) (Or.inl ⟨by rfl, ?_⟩) ?_ ?_
              rotate_left
              · intro w'
                go_simp
                with_reducible rfl
              rotate_left
              · simp only [Act.put, List.setIfInBounds_toArray, List.set_cons_zero, List.set_cons_succ, i64_w, i32_w]
                rfl
              refine pure_ (i := 38) (N := some 194) (v := ?_) (a' := ?_) #[true, true, true, true, true, true, true, true, true, true, true, true, true, true, true, true, true, true, true, true, true, true, true, true, true, true, true, true, true, true, true, true, true, true, true, true, true, true, true] rfl rfl (any_of HT_.out (by kernel_rfl)) (fun _ _ _ h => h) (Or.inl ⟨by rfl, ?_⟩) ?_ ?_
              rotate_left
              · intro w'
                go_simp
                with_reducible rfl
              rotate_left
              · simp only [Act.put, List.setIfInBounds_toArray, List.set_cons_zero, List.set_cons_succ, i64_w, i32_w]
                rfl
              refine done_ (done_of HT_.out (by kernel_rfl)) ?_
              go_wp2_with fail
              have HCD := HCX
              clear HCX HS HCV1 HCV2 HCN
              generalize w9.drew = wz at HCD ⊢
              have n0 := Aside0.mk (HCD.out.below (below_drew1 (Below.refl wz.heap.size wz)))
              clear HCD
              have HCD := n0
              clear n0
              obtain ⟨nL9, hnL9⟩ : ∃ nL9, nL9 = L9.length := ⟨_, rfl⟩
              obtain ⟨Ad9, cd9, ed9⟩ := HCD.out.ds.slice
              rw [← hnL9] at ed9
              have hcl9 := clen_calls HCD.out.cs
              rw [← hnL9] at hcl9
              have HCL := Aside0.mk hcl9
              have HCN := Aside0.mk (cnow_calls HCD.out.cs)
              have HS := Aside0.mk (show wz.drew.cell? ⟨h, 2, none⟩ = some (.slice Ad9 nL9 cd9) ∧ wz.drew.cell? ⟨h, 1, none⟩ = some (.int .i64 now9) from ⟨by rw [← ed9]; exact blk_cell HCD.out.ds.blk 2, blk_cell HCD.out.ds.blk 1⟩)
              have HNL := Aside0.mk hnL9
              clear hnL9 ed9 hcl9
              refine start_ (n := 17) (S := (fun w' => w'.cell? ⟨h, 2, none⟩ = some (.slice Ad9 nL9 cd9) ∧ w'.cell? ⟨h, 1, none⟩ = some (.int .i64 now9))) (ds := []) #[false, false, false, false, false, false, false, false, false, false, false, false, false, false, false, false, false] (by kernel_rfl) rfl rfl HS.out (fun hHeld => ?_)
              refine with_tabW acts42b.tab acts42b.bits (fun HT_ HW_ => ?_)
              refine pure_ (i := 0) (N := some 241) (v := ?_) (a' := ?_) #[true, false, false, false, false, false, false, false, false, false, false, false, false, false, false, false, false] rfl rfl (any_of HT_.out (by kernel_rfl)) (fun _ _ _ h => h) (Or.inl ⟨by rfl, ?_⟩) ?_ ?_
              rotate_left
              · intro w'
                go_simp
                with_reducible rfl
              rotate_left
              · simp only [Act.put, List.setIfInBounds_toArray, List.set_cons_zero, List.set_cons_succ, i64_w, i32_w]
                rfl
              refine pure_ (i := 2) (N := some 243) (v := ?_) (a' := ?_) #[true, false, true, false, false, false, false, false, false, false, false, false, false, false, false, false, false] rfl rfl (any_of HT_.out (by kernel_rfl)) (fun _ _ _ h => h) (Or.inl ⟨by rfl, ?_⟩) ?_ ?_
              rotate_left
              · intro w'
                go_simp
                with_reducible rfl
              rotate_left
              · simp only [Act.put, List.setIfInBounds_toArray, List.set_cons_zero, List.set_cons_succ, i64_w, i32_w]
                rfl
              refine pure_ (i := 3) (N := some 244) (v := ?_) (a' := ?_) #[true, false, true, true, false, false, false, false, false, false, false, false, false, false, false, false, false] rfl rfl (any_of HT_.out (by kernel_rfl)) (fun _ _ _ h => h) (Or.inl ⟨by rfl, ?_⟩) ?_ ?_
              rotate_left
              · intro w'
                go_simp
                with_reducible rfl
              rotate_left
              · simp only [Act.put, List.setIfInBounds_toArray, List.set_cons_zero, List.set_cons_succ, i64_w, i32_w]
                rfl
              refine pure_ (i := 4) (N := some 245) (v := ?_) (a' := ?_) #[true, false, true, true, true, false, false, false, false, false, false, false, false, false, false, false, false] rfl rfl (any_of HT_.out (by kernel_rfl)) (fun _ _ _ h => h) (Or.inl ⟨by rfl, ?_⟩) ?_ ?_
              rotate_left
              · intro w'
                go_simp
                with_reducible rfl
              rotate_left
              · simp only [Act.put, List.setIfInBounds_toArray, List.set_cons_zero, List.set_cons_succ, i64_w, i32_w]
                rfl
              refine take_ (i := 5) (N := some 246) (v := ?_) (a' := ?_) #[true, false, true, true, true, true, false, false, false, false, false, false, false, false, false, false, false] rfl rfl (take_ofW HT_.out HW_.out (by kernel_rfl)) (fun _ _ _ h => h) (Or.inl ⟨by rfl, ?_⟩) hHeld ?_ ?_
              rotate_left
              · rintro w' ⟨s0, s1⟩
                go_simp
                with_reducible rfl
              rotate_left
              · simp only [Act.put, List.setIfInBounds_toArray, List.set_cons_zero, List.set_cons_succ, i64_w, i32_w]
                rfl
              refine pure_ (i := 6) (N := some 247) (v := ?_) (a' := ?_) #[true, false, true, true, true, true, true, false, false, false, false, false, false, false, false, false, false] rfl rfl (any_of HT_.out (by kernel_rfl)) (fun _ _ _ h => h) (Or.inl ⟨by rfl, ?_⟩) ?_ ?_
              rotate_left
              · intro w'
                go_simp
                with_reducible rfl
              rotate_left
              · simp only [Act.put, List.setIfInBounds_toArray, List.set_cons_zero, List.set_cons_succ, i64_w, i32_w]
                rfl
              refine one_ (i := 1) (N := some 242) #[true, true, true, true, true, true, true, false, false, false, false, false, false, false, false, false, false] rfl rfl (one_of HT_.out (by kernel_rfl)) (by decide) (fun K hK => ?_)
              refine goes_ Try.func14 (by kernel_rfl) rfl #[.pointer (some ⟨g, 0, none⟩)] (by rfl) rfl rfl (by (try simp only [List.map_toArray, List.map_cons, List.map_nil]); first | done | rfl | (go_simp; done) | simp [Act.eval]) ?_
              refine HCL.out.mono ?_
              rintro e w11 ⟨rfl, rfl⟩
              refine ⟨_, rfl, ?_⟩
              refine hK.out _ _ HS.out (fun hHeld => ?_)
              clear hK K
              refine norm_ (a' := ?_) ?_ ?_
              rotate_left
              · show Act.put _ (some 242) _ = _
                simp only [Act.put, List.setIfInBounds_toArray, List.set_cons_zero, List.set_cons_succ, i64_w, i32_w]
                rfl
              refine pure_ (i := 7) (N := some 248) (v := ?_) (a' := ?_) #[true, true, true, true, true, true, true, true, false, false, false, false, false, false, false, false, false] rfl rfl (any_of HT_.out (by kernel_rfl)) (fun _ _ _ h => h) (Or.inl ⟨by rfl, ?_⟩) ?_ ?_
              rotate_left
              · intro w'
                go_simp
                with_reducible rfl
              rotate_left
              · simp only [Act.put, List.setIfInBounds_toArray, List.set_cons_zero, List.set_cons_succ, i64_w, i32_w]
                rfl
              refine pure_ (i := 8) (N := some 249) (v := ?_) (a' := ?_) #[true, true, true, true, true, true, true, true, true, false, false, false, false, false, false, false, false] rfl rfl (any_of HT_.out (by kernel_rfl)) (fun _ _ _ h => h) (Or.inl ⟨by rfl, ?_⟩) ?_ ?_
              rotate_left
              · intro w'
                go_simp
                with_reducible rfl
              rotate_left
              · simp only [Act.put, List.setIfInBounds_toArray, List.set_cons_zero, List.set_cons_succ, i64_w, i32_w]
                rfl
              refine pure_ (i := 9) (N := some 250) (v := ?_) (a' := ?_) #[true, true, true, true, true, true, true, true, true, true, false, false, false, false, false, false, false] rfl rfl (any_of HT_.out (by kernel_rfl)) (fun _ _ _ h => h) (Or.inl ⟨by rfl, ?_⟩) ?_ ?_
              rotate_left
              · intro w'
                go_simp
                with_reducible rfl
              rotate_left
              · simp only [Act.put, List.setIfInBounds_toArray, List.set_cons_zero, List.set_cons_succ, i64_w, i32_w]
                rfl
              refine pure_ (i := 11) (N := some 252) (v := ?_) (a' := ?_) #[true, true, true, true, true, true, true, true, true, true, false, true, false, false, false, false, false] rfl rfl (any_of HT_.out (by kernel_rfl)) (fun _ _ _ h => h) (Or.inl ⟨by rfl, ?_⟩) ?_ ?_
              rotate_left
              · intro w'
                go_simp
                with_reducible rfl
              rotate_left
              · simp only [Act.put, List.setIfInBounds_toArray, List.set_cons_zero, List.set_cons_succ, i64_w, i32_w]
                rfl
              refine pure_ (i := 12) (N := some 253) (v := ?_) (a' := ?_) #[true, true, true, true, true, true, true, true, true, true, false, true, true, false, false, false, false] rfl rfl (any_of HT_.out (by kernel_rfl)) (fun _ _ _ h => h) (Or.inl ⟨by rfl, ?_⟩) ?_ ?_
              rotate_left
              · intro w'
                go_simp
                with_reducible rfl
              rotate_left
              · simp only [Act.put, List.setIfInBounds_toArray, List.set_cons_zero, List.set_cons_succ, i64_w, i32_w]
                rfl
              refine pure_ (i := 13) (N := some 254) (v := ?_) (a' := ?_) #[true, true, true, true, true, true, true, true, true, true, false, true, true, true, false, false, false] rfl rfl (any_of HT_.out (by kernel_rfl)) (fun _ _ _ h => h) (Or.inl ⟨by rfl, ?_⟩) ?_ ?_
              rotate_left
              · intro w'
                go_simp
                with_reducible rfl
              rotate_left
              · simp only [Act.put, List.setIfInBounds_toArray, List.set_cons_zero, List.set_cons_succ, i64_w, i32_w]
                rfl
              refine take_ (i := 14) (N := some 255) (v := ?_) (a' := ?_) #[true, true, true, true, true, true, true, true, true, true, false, true, true, true, true, false, false] rfl rfl (take_ofW HT_.out HW_.out (by kernel_rfl)) (fun _ _ _ h => h) (Or.inl ⟨by rfl, ?_⟩) hHeld ?_ ?_
              rotate_left
              · rintro w' ⟨s0, s1⟩
                go_simp
                with_reducible rfl
              rotate_left
              · simp only [Act.put, List.setIfInBounds_toArray, List.set_cons_zero, List.set_cons_succ, i64_w, i32_w]
                rfl
              refine one_ (i := 10) (N := some 251) #[true, true, true, true, true, true, true, true, true, true, true, true, true, true, true, false, false] rfl rfl (one_of HT_.out (by kernel_rfl)) (by decide) (fun K hK => ?_)
              refine goes_ Try.func28 (by kernel_rfl) rfl #[.pointer (some ⟨g, 0, none⟩)] (by rfl) rfl rfl (by (try simp only [List.map_toArray, List.map_cons, List.map_nil]); first | done | rfl | (go_simp; done) | simp [Act.eval]) ?_
              refine HCN.out.mono ?_
              rintro e w12 ⟨rfl, rfl⟩
              refine ⟨_, rfl, ?_⟩
              refine hK.out _ _ HS.out (fun hHeld => ?_)
              clear hK K
              refine norm_ (a' := ?_) ?_ ?_
              rotate_left
              · show Act.put _ (some 251) _ = _
                simp only [Act.put, List.setIfInBounds_toArray, List.set_cons_zero, List.set_cons_succ, i64_w, i32_w]
                rfl
              refine pure_ (i := 15) (N := some 256) (v := ?_) (a' := ?_) #[true, true, true, true, true, true, true, true, true, true, true, true, true, true, true, true, false] rfl rfl (any_of HT_.out (by kernel_rfl)) (fun _ _ _ h => h) (Or.inl ⟨by rfl, ?_⟩) ?_ ?_
              rotate_left
              · intro w'
                go_simp
                with_reducible rfl
              rotate_left
              · simp only [Act.put, List.setIfInBounds_toArray, List.set_cons_zero, List.set_cons_succ, i64_w, i32_w]
                rfl
              refine pure_ (i := 16) (N := some 257) (v := ?_) (a' := ?_) #[true, true, true, true, true, true, true, true, true, true, true, true, true, true, true, true, true] rfl rfl (any_of HT_.out (by kernel_rfl)) (fun _ _ _ h => h) (Or.inl ⟨by rfl, ?_⟩) ?_ ?_
              rotate_left
              · intro w'
                go_simp
                with_reducible rfl
              rotate_left
              · simp only [Act.put, List.setIfInBounds_toArray, List.set_cons_zero, List.set_cons_succ, i64_w, i32_w]
                rfl
              refine done_ (done_of HT_.out (by kernel_rfl)) ?_
              go_wp2
              go_roundw
              case rel => exact ⟨i + 1, now9, v9, vd9, L9, by simp, by omega, HCD, HOK, HNN⟩
              case measure => simp [intOf]; omega
        · have hq : IntKind.i64.wrap ((IntKind.u64.wrap wh).tmod 7) = 4 := hq
          as_aux_lemma =>
            go_wp2_with (first | (go_at_call 31; refine Aside0.out ?_) | fail)
            refine Aside0.mk ?_
            clear hq hx0 hx1 hx2 hx3
            rw [← HW8.out]
            obtain ⟨E, hE⟩ : ∃ E, E = hasE L.length k := ⟨_, rfl⟩
            obtain ⟨L9, hL9⟩ : ∃ L9, L9 = tkL k L := ⟨_, rfl⟩
            have HOK := Aside0.mk (show Ok a0 now L9 by rw [hL9]; exact HO.out.take k)
            obtain ⟨s1, hs1⟩ : ∃ s1, s1 = strOfNums (tkF k L).1 := ⟨_, rfl⟩
            obtain ⟨s2, hs2⟩ : ∃ s2, s2 = strOfNums (tkF k L).2.1 := ⟨_, rfl⟩
            obtain ⟨s3, hs3⟩ : ∃ s3, s3 = (tkF k L).2.2 := ⟨_, rfl⟩
            refine (dtake_calls HC8.out.ds k (by have := HO.out.len; omega)).mono ?_
            rintro e w10 ⟨rfl, vd9, hd9, hfd9, hnd9⟩
            rw [← hE, ← hs1, ← hs2, ← hs3]
            rw [← hL9] at hd9
            have HK10 := (far_d HC8.out.ds hfd9 HK8.out (by decide) (by decide)).trans HK8.out
            have hz10 : wr.heap.size < w10.heap.size := blk_lt HK10
            have hcK : w10.cell? ⟨wr.heap.size, 2, none⟩ = some (.int .i64 k) := blk_cell HK10 2
            have hba := below_alloc (Below.refl w10.heap.size w10) (.cells #[.string s1, .string s2, .int .i64 s3] 61)
            have hcK2 : (w10.alloc (.cells #[.string s1, .string s2, .int .i64 s3] 61)).cell? ⟨wr.heap.size, 2, none⟩ = some (.int .i64 k) := (hba.cell (p := ⟨wr.heap.size, 2, none⟩) hz10).trans hcK
            have hlo := lose_calls ((HC8.out.cs.far2 HC8.out.ds hfd9).below hba) k HO.out.sm.short (by have := HO.out.len; omega)
            rw [← hE, ← hL9] at hlo
            have HLO := Aside0.mk hlo
            have H9 := Aside0.mk (And.intro hd9 hfd9)
            have HBA := Aside0.mk hba
            obtain ⟨now9, hnow9⟩ : ∃ now9, now9 = now := ⟨_, rfl⟩
            have HW9 := Aside0.mk hnow9
            clear hE hL9 hs1 hs2 hs3 hd9 hfd9 hnd9 HK10 hz10 hba hlo hnow9
            go_wp2_with (go_at_call 26; refine HLO.out.mono ?_; rintro e w9 ⟨rfl, v9, hc9, hf9, hn9⟩; have H10 := Aside0.mk (And.intro hc9 hf9); clear hc9 hf9 hn9)
            have n0 := Aside0.mk (show CD w w9 g h a0 now9 v9 vd9 L9 by rw [HW9.out]; exact ⟨H10.out.1, (H9.out.1.below HBA.out).far2 ((HC8.out.cs.far2 HC8.out.ds H9.out.2).below HBA.out) H10.out.2, bel_c ((HC8.out.cs.far2 HC8.out.ds H9.out.2).below HBA.out) H10.out.2 (below_step (bel_d HC8.out.ds H9.out.2 HC8.out.bel) HBA.out)⟩)
            have n1 := Aside0.mk (show Ok a0 now9 L9 by rw [HW9.out]; exact HOK.out)
            have HNN := Aside0.mk (show 0 ≤ now9 ∧ now9 ≤ ((i + 1 : Nat) : Int) by have := HN.out; have := HW9.out; omega)
            clear HC8 H9 H10 HO HN HC HW9 HOK HLO HBA hcK hcK2
            have HCD := n0
            have HOK := n1
            clear n0 n1
            have n0 := Aside0.mk (HCD.out.below (below_drew1 (Below.refl w9.heap.size w9)))
            clear HCD
            have HCD := n0
            clear n0
            obtain ⟨nL9, hnL9⟩ : ∃ nL9, nL9 = L9.length := ⟨_, rfl⟩
            obtain ⟨Ad9, cd9, ed9⟩ := HCD.out.ds.slice
            rw [← hnL9] at ed9
            have hcl9 := clen_calls HCD.out.cs
            rw [← hnL9] at hcl9
            have HCL := Aside0.mk hcl9
            have HCN := Aside0.mk (cnow_calls HCD.out.cs)
            have HS := Aside0.mk (show w9.drew.cell? ⟨h, 2, none⟩ = some (.slice Ad9 nL9 cd9) ∧ w9.drew.cell? ⟨h, 1, none⟩ = some (.int .i64 now9) from ⟨by rw [← ed9]; exact blk_cell HCD.out.ds.blk 2, blk_cell HCD.out.ds.blk 1⟩)
            have HNL := Aside0.mk hnL9
            clear hnL9 ed9 hcl9
            refine start_ (n := 17) (S := (fun w' => w'.cell? ⟨h, 2, none⟩ = some (.slice Ad9 nL9 cd9) ∧ w'.cell? ⟨h, 1, none⟩ = some (.int .i64 now9))) (ds := []) #[false, false, false, false, false, false, false, false, false, false, false, false, false, false, false, false, false] (by kernel_rfl) rfl rfl HS.out (fun hHeld => ?_)
            refine with_tabW acts42l.tab acts42l.bits (fun HT_ HW_ => ?_)
            refine pure_ (i := 0) (N := some 241) (v := ?_) (a' := ?_) #[true, false, false, false, false, false, false, false, false, false, false, false, false, false, false, false, false] rfl rfl (any_of HT_.out (by kernel_rfl)) (fun _ _ _ h => h) (Or.inl ⟨by rfl, ?_⟩) ?_ ?_
            rotate_left
            · intro w'
              go_simp
              with_reducible rfl
            rotate_left
            · simp only [Act.put, List.setIfInBounds_toArray, List.set_cons_zero, List.set_cons_succ, i64_w, i32_w]
              rfl
            refine pure_ (i := 2) (N := some 243) (v := ?_) (a' := ?_) #[true, false, true, false, false, false, false, false, false, false, false, false, false, false, false, false, false] rfl rfl (any_of HT_.out (by kernel_rfl)) (fun _ _ _ h => h) (Or.inl ⟨by rfl, ?_⟩) ?_ ?_
            rotate_left
            · intro w'
              go_simp
              with_reducible rfl
            rotate_left
            · simp only [Act.put, List.setIfInBounds_toArray, List.set_cons_zero, List.set_cons_succ, i64_w, i32_w]
              rfl
            refine pure_ (i := 3) (N := some 244) (v := ?_) (a' := ?_) #[true, false, true, true, false, false, false, false, false, false, false, false, false, false, false, false, false] rfl rfl (any_of HT_.out (by kernel_rfl)) (fun _ _ _ h => h) (Or.inl ⟨by rfl, ?_⟩) ?_ ?_
            rotate_left
            · intro w'
              go_simp
              with_reducible rfl
            rotate_left
            · simp only [Act.put, List.setIfInBounds_toArray, List.set_cons_zero, List.set_cons_succ, i64_w, i32_w]
              rfl
            refine pure_ (i := 4) (N := some 245) (v := ?_) (a' := ?_) #[true, false, true, true, true, false, false, false, false, false, false, false, false, false, false, false, false] rfl rfl (any_of HT_.out (by kernel_rfl)) (fun _ _ _ h => h) (Or.inl ⟨by rfl, ?_⟩) ?_ ?_
            rotate_left
            · intro w'
              go_simp
              with_reducible rfl
            rotate_left
            · simp only [Act.put, List.setIfInBounds_toArray, List.set_cons_zero, List.set_cons_succ, i64_w, i32_w]
              rfl
            refine take_ (i := 5) (N := some 246) (v := ?_) (a' := ?_) #[true, false, true, true, true, true, false, false, false, false, false, false, false, false, false, false, false] rfl rfl (take_ofW HT_.out HW_.out (by kernel_rfl)) (fun _ _ _ h => h) (Or.inl ⟨by rfl, ?_⟩) hHeld ?_ ?_
            rotate_left
            · rintro w' ⟨s0, s1⟩
              go_simp
              with_reducible rfl
            rotate_left
            · simp only [Act.put, List.setIfInBounds_toArray, List.set_cons_zero, List.set_cons_succ, i64_w, i32_w]
              rfl
            refine pure_ (i := 6) (N := some 247) (v := ?_) (a' := ?_) #[true, false, true, true, true, true, true, false, false, false, false, false, false, false, false, false, false] rfl rfl (any_of HT_.out (by kernel_rfl)) (fun _ _ _ h => h) (Or.inl ⟨by rfl, ?_⟩) ?_ ?_
            rotate_left
            · intro w'
              go_simp
              with_reducible rfl
            rotate_left
            · simp only [Act.put, List.setIfInBounds_toArray, List.set_cons_zero, List.set_cons_succ, i64_w, i32_w]
              rfl
            refine one_ (i := 1) (N := some 242) #[true, true, true, true, true, true, true, false, false, false, false, false, false, false, false, false, false] rfl rfl (one_of HT_.out (by kernel_rfl)) (by decide) (fun K hK => ?_)
            refine goes_ Try.func14 (by kernel_rfl) rfl #[.pointer (some ⟨g, 0, none⟩)] (by rfl) rfl rfl (by (try simp only [List.map_toArray, List.map_cons, List.map_nil]); first | done | rfl | (go_simp; done) | simp [Act.eval]) ?_
            refine HCL.out.mono ?_
            rintro e w11 ⟨rfl, rfl⟩
            refine ⟨_, rfl, ?_⟩
            refine hK.out _ _ HS.out (fun hHeld => ?_)
            clear hK K
            refine norm_ (a' := ?_) ?_ ?_
            rotate_left
            · show Act.put _ (some 242) _ = _
              simp only [Act.put, List.setIfInBounds_toArray, List.set_cons_zero, List.set_cons_succ, i64_w, i32_w]
              rfl
            refine pure_ (i := 7) (N := some 248) (v := ?_) (a' := ?_) #[true, true, true, true, true, true, true, true, false, false, false, false, false, false, false, false, false] rfl rfl (any_of HT_.out (by kernel_rfl)) (fun _ _ _ h => h) (Or.inl ⟨by rfl, ?_⟩) ?_ ?_
            rotate_left
            · intro w'
              go_simp
              with_reducible rfl
            rotate_left
            · simp only [Act.put, List.setIfInBounds_toArray, List.set_cons_zero, List.set_cons_succ, i64_w, i32_w]
              rfl
            refine pure_ (i := 8) (N := some 249) (v := ?_) (a' := ?_) #[true, true, true, true, true, true, true, true, true, false, false, false, false, false, false, false, false] rfl rfl (any_of HT_.out (by kernel_rfl)) (fun _ _ _ h => h) (Or.inl ⟨by rfl, ?_⟩) ?_ ?_
            rotate_left
            · intro w'
              go_simp
              with_reducible rfl
            rotate_left
            · simp only [Act.put, List.setIfInBounds_toArray, List.set_cons_zero, List.set_cons_succ, i64_w, i32_w]
              rfl
            refine pure_ (i := 9) (N := some 250) (v := ?_) (a' := ?_) #[true, true, true, true, true, true, true, true, true, true, false, false, false, false, false, false, false] rfl rfl (any_of HT_.out (by kernel_rfl)) (fun _ _ _ h => h) (Or.inl ⟨by rfl, ?_⟩) ?_ ?_
            rotate_left
            · intro w'
              go_simp
              with_reducible rfl
            rotate_left
            · simp only [Act.put, List.setIfInBounds_toArray, List.set_cons_zero, List.set_cons_succ, i64_w, i32_w]
              rfl
            refine pure_ (i := 11) (N := some 252) (v := ?_) (a' := ?_) #[true, true, true, true, true, true, true, true, true, true, false, true, false, false, false, false, false] rfl rfl (any_of HT_.out (by kernel_rfl)) (fun _ _ _ h => h) (Or.inl ⟨by rfl, ?_⟩) ?_ ?_
            rotate_left
            · intro w'
              go_simp
              with_reducible rfl
            rotate_left
            · simp only [Act.put, List.setIfInBounds_toArray, List.set_cons_zero, List.set_cons_succ, i64_w, i32_w]
              rfl
            refine pure_ (i := 12) (N := some 253) (v := ?_) (a' := ?_) #[true, true, true, true, true, true, true, true, true, true, false, true, true, false, false, false, false] rfl rfl (any_of HT_.out (by kernel_rfl)) (fun _ _ _ h => h) (Or.inl ⟨by rfl, ?_⟩) ?_ ?_
            rotate_left
            · intro w'
              go_simp
              with_reducible rfl
            rotate_left
            · simp only [Act.put, List.setIfInBounds_toArray, List.set_cons_zero, List.set_cons_succ, i64_w, i32_w]
              rfl
            refine pure_ (i := 13) (N := some 254) (v := ?_) (a' := ?_) #[true, true, true, true, true, true, true, true, true, true, false, true, true, true, false, false, false] rfl rfl (any_of HT_.out (by kernel_rfl)) (fun _ _ _ h => h) (Or.inl ⟨by rfl, ?_⟩) ?_ ?_
            rotate_left
            · intro w'
              go_simp
              with_reducible rfl
            rotate_left
            · simp only [Act.put, List.setIfInBounds_toArray, List.set_cons_zero, List.set_cons_succ, i64_w, i32_w]
              rfl
            refine take_ (i := 14) (N := some 255) (v := ?_) (a' := ?_) #[true, true, true, true, true, true, true, true, true, true, false, true, true, true, true, false, false] rfl rfl (take_ofW HT_.out HW_.out (by kernel_rfl)) (fun _ _ _ h => h) (Or.inl ⟨by rfl, ?_⟩) hHeld ?_ ?_
            rotate_left
            · rintro w' ⟨s0, s1⟩
              go_simp
              with_reducible rfl
            rotate_left
            · simp only [Act.put, List.setIfInBounds_toArray, List.set_cons_zero, List.set_cons_succ, i64_w, i32_w]
              rfl
            refine one_ (i := 10) (N := some 251) #[true, true, true, true, true, true, true, true, true, true, true, true, true, true, true, false, false] rfl rfl (one_of HT_.out (by kernel_rfl)) (by decide) (fun K hK => ?_)
            refine goes_ Try.func28 (by kernel_rfl) rfl #[.pointer (some ⟨g, 0, none⟩)] (by rfl) rfl rfl (by (try simp only [List.map_toArray, List.map_cons, List.map_nil]); first | done | rfl | (go_simp; done) | simp [Act.eval]) ?_
            refine HCN.out.mono ?_
            rintro e w12 ⟨rfl, rfl⟩
            refine ⟨_, rfl, ?_⟩
            refine hK.out _ _ HS.out (fun hHeld => ?_)
            clear hK K
            refine norm_ (a' := ?_) ?_ ?_
            rotate_left
            · show Act.put _ (some 251) _ = _
              simp only [Act.put, List.setIfInBounds_toArray, List.set_cons_zero, List.set_cons_succ, i64_w, i32_w]
              rfl
            refine pure_ (i := 15) (N := some 256) (v := ?_) (a' := ?_) #[true, true, true, true, true, true, true, true, true, true, true, true, true, true, true, true, false] rfl rfl (any_of HT_.out (by kernel_rfl)) (fun _ _ _ h => h) (Or.inl ⟨by rfl, ?_⟩) ?_ ?_
            rotate_left
            · intro w'
              go_simp
              with_reducible rfl
            rotate_left
            · simp only [Act.put, List.setIfInBounds_toArray, List.set_cons_zero, List.set_cons_succ, i64_w, i32_w]
              rfl
            refine pure_ (i := 16) (N := some 257) (v := ?_) (a' := ?_) #[true, true, true, true, true, true, true, true, true, true, true, true, true, true, true, true, true] rfl rfl (any_of HT_.out (by kernel_rfl)) (fun _ _ _ h => h) (Or.inl ⟨by rfl, ?_⟩) ?_ ?_
            rotate_left
            · intro w'
              go_simp
              with_reducible rfl
            rotate_left
            · simp only [Act.put, List.setIfInBounds_toArray, List.set_cons_zero, List.set_cons_succ, i64_w, i32_w]
              rfl
            refine done_ (done_of HT_.out (by kernel_rfl)) ?_
            go_wp2
            go_roundw
            case rel => exact ⟨i + 1, now9, v9, vd9, L9, by simp, by omega, HCD, HOK, HNN⟩
            case measure => simp [intOf]; omega
        · have hq : IntKind.i64.wrap ((IntKind.u64.wrap wh).tmod 7) = 5 := hq
          as_aux_lemma =>
            go_wp2_with fail
            clear hq hx0 hx1 hx2 hx3
            rw [← HW8.out]
            have n0 := Aside0.mk (HC8.out.below (below_drew1 (Below.refl w8.heap.size w8)))
            clear HC8
            have HC8 := n0
            clear n0
            have HK9 := Aside0.mk ((below_drew1 (Below.refl w8.heap.size w8)).block wr.heap.size (blk_lt HK8.out) |>.trans HK8.out)
            have HS := Aside0.mk (show w8.drew.cell? ⟨wr.heap.size, 2, none⟩ = some (.int .i64 k) from blk_cell HK9.out 2)
            have htw := twice_calls HC8.out.cs k HO.out.sm.short
            obtain ⟨E, hE⟩ : ∃ E, E = twE L.length k := ⟨_, rfl⟩
            obtain ⟨L9, hL9⟩ : ∃ L9, L9 = twL k L := ⟨_, rfl⟩
            rw [← hE, ← hL9] at htw
            have HT := Aside0.mk htw
            have HOK := Aside0.mk (show Ok a0 now L9 by rw [hL9]; exact HO.out.twice k)
            have HEL := Aside0.mk (And.intro hE hL9)
            obtain ⟨now9, hnow9⟩ : ∃ now9, now9 = now := ⟨_, rfl⟩
            have HW9 := Aside0.mk hnow9
            clear htw hE hL9 hnow9
            refine start_ (n := 9) (S := (fun w' => w'.cell? ⟨wr.heap.size, 2, none⟩ = some (.int .i64 k))) (ds := []) #[false, false, false, false, false, false, false, false, false] (by kernel_rfl) rfl rfl HS.out (fun hHeld => ?_)
            refine with_tabW acts36.tab acts36.bits (fun HT_ HW_ => ?_)
            refine pure_ (i := 0) (N := some 212) (v := ?_) (a' := ?_) #[true, false, false, false, false, false, false, false, false] rfl rfl (any_of HT_.out (by kernel_rfl)) (fun _ _ _ h => h) (Or.inl ⟨by rfl, ?_⟩) ?_ ?_
            rotate_left
            · intro w'
              go_simp
              with_reducible rfl
            rotate_left
            · simp only [Act.put, List.setIfInBounds_toArray, List.set_cons_zero, List.set_cons_succ, i64_w, i32_w]
              rfl
            refine pure_ (i := 1) (N := some 213) (v := ?_) (a' := ?_) #[true, true, false, false, false, false, false, false, false] rfl rfl (any_of HT_.out (by kernel_rfl)) (fun _ _ _ h => h) (Or.inl ⟨by rfl, ?_⟩) ?_ ?_
            rotate_left
            · intro w'
              go_simp
              with_reducible rfl
            rotate_left
            · simp only [Act.put, List.setIfInBounds_toArray, List.set_cons_zero, List.set_cons_succ, i64_w, i32_w]
              rfl
            refine take_ (i := 2) (N := some 214) (v := ?_) (a' := ?_) #[true, true, true, false, false, false, false, false, false] rfl rfl (take_ofW HT_.out HW_.out (by kernel_rfl)) (fun _ _ _ h => h) (Or.inl ⟨by rfl, ?_⟩) hHeld ?_ ?_
            rotate_left
            · rintro w' s0
              go_simp
              with_reducible rfl
            rotate_left
            · simp only [Act.put, List.setIfInBounds_toArray, List.set_cons_zero, List.set_cons_succ, i64_w, i32_w]
              rfl
            refine pure_ (i := 4) (N := some 216) (v := ?_) (a' := ?_) #[true, true, true, false, true, false, false, false, false] rfl rfl (any_of HT_.out (by kernel_rfl)) (fun _ _ _ h => h) (Or.inl ⟨by rfl, ?_⟩) ?_ ?_
            rotate_left
            · intro w'
              go_simp
              with_reducible rfl
            rotate_left
            · simp only [Act.put, List.setIfInBounds_toArray, List.set_cons_zero, List.set_cons_succ, i64_w, i32_w]
              rfl
            refine pure_ (i := 5) (N := some 217) (v := ?_) (a' := ?_) #[true, true, true, false, true, true, false, false, false] rfl rfl (any_of HT_.out (by kernel_rfl)) (fun _ _ _ h => h) (Or.inl ⟨by rfl, ?_⟩) ?_ ?_
            rotate_left
            · intro w'
              go_simp
              with_reducible rfl
            rotate_left
            · simp only [Act.put, List.setIfInBounds_toArray, List.set_cons_zero, List.set_cons_succ, i64_w, i32_w]
              rfl
            refine take_ (i := 6) (N := some 218) (v := ?_) (a' := ?_) #[true, true, true, false, true, true, true, false, false] rfl rfl (take_ofW HT_.out HW_.out (by kernel_rfl)) (fun _ _ _ h => h) (Or.inl ⟨by rfl, ?_⟩) hHeld ?_ ?_
            rotate_left
            · rintro w' s0
              go_simp
              with_reducible rfl
            rotate_left
            · simp only [Act.put, List.setIfInBounds_toArray, List.set_cons_zero, List.set_cons_succ, i64_w, i32_w]
              rfl
            refine one_ (i := 3) (N := some 215) #[true, true, true, true, true, true, true, false, false] rfl rfl (one_of HT_.out (by kernel_rfl)) (by decide) (fun K hK => ?_)
            refine goes_ Try.func15 (by kernel_rfl) rfl #[.pointer (some ⟨g, 0, none⟩), .int .i64 k] (by rfl) rfl rfl (by (try simp only [List.map_toArray, List.map_cons, List.map_nil]); first | done | rfl | (go_simp; done) | simp [Act.eval]) ?_
            refine HT.out.mono ?_
            rintro e w10 ⟨rfl, v9, hc9, hf9, hn9⟩
            have H9 := Aside0.mk (And.intro hc9 hf9)
            have hd10 := dtwice_calls (HC8.out.ds.far2 HC8.out.cs hf9) k
            rw [← HEL.out.1, ← HEL.out.2] at hd10
            have HDT := Aside0.mk hd10
            have HK10 := Aside0.mk ((far_c HC8.out.cs hf9 HK9.out (by decide) (by decide)).trans HK9.out)
            clear hc9 hf9 hn9 hd10
            refine ⟨_, rfl, ?_⟩
            refine hK.out _ _ (blk_cell HK10.out 2) (fun hHeld => ?_)
            clear hK K
            refine norm_ (a' := ?_) ?_ ?_
            rotate_left
            · show Act.put _ (some 215) _ = _
              simp only [Act.put, List.setIfInBounds_toArray, List.set_cons_zero, List.set_cons_succ, i64_w, i32_w]
              rfl
            refine one_ (i := 7) (N := some 219) #[true, true, true, true, true, true, true, true, false] rfl rfl (one_of HT_.out (by kernel_rfl)) (by decide) (fun K hK => ?_)
            refine goes_ Try.func32 (by kernel_rfl) rfl #[.pointer (some ⟨h, 0, none⟩), .int .i64 k] (by rfl) rfl rfl (by (try simp only [List.map_toArray, List.map_cons, List.map_nil]); first | done | rfl | (go_simp; done) | simp [Act.eval]) ?_
            refine HDT.out.mono ?_
            rintro e w9 ⟨rfl, vd9, hd9, hfd9, hnd9⟩
            have H10 := Aside0.mk (And.intro hd9 hfd9)
            have HK11 := Aside0.mk ((far_d (HC8.out.ds.far2 HC8.out.cs H9.out.2) hfd9 HK10.out (by decide) (by decide)).trans HK10.out)
            clear hd9 hfd9 hnd9
            refine ⟨_, rfl, ?_⟩
            refine hK.out _ _ (blk_cell HK11.out 2) (fun hHeld => ?_)
            clear hK K
            refine norm_ (a' := ?_) ?_ ?_
            rotate_left
            · show Act.put _ (some 219) _ = _
              simp only [Act.put, List.setIfInBounds_toArray, List.set_cons_zero, List.set_cons_succ, i64_w, i32_w]
              rfl
            refine pure_ (i := 8) (N := some 220) (v := ?_) (a' := ?_) #[true, true, true, true, true, true, true, true, true] rfl rfl (any_of HT_.out (by kernel_rfl)) (fun _ _ _ h => h) (Or.inl ⟨by rfl, ?_⟩) ?_ ?_
            rotate_left
            · intro w'
              go_simp
              with_reducible rfl
            rotate_left
            · simp only [Act.put, List.setIfInBounds_toArray, List.set_cons_zero, List.set_cons_succ, i64_w, i32_w]
              rfl
            refine done_ (done_of HT_.out (by kernel_rfl)) ?_
            go_wp2_with fail
            have n0 := Aside0.mk (show CD w w9 g h a0 now9 v9 vd9 L9 by rw [HW9.out]; exact HC8.out.both H9.out.1 H9.out.2 H10.out.1 H10.out.2)
            have n1 := Aside0.mk (show Ok a0 now9 L9 by rw [HW9.out]; exact HOK.out)
            have HNN := Aside0.mk (show 0 ≤ now9 ∧ now9 ≤ ((i + 1 : Nat) : Int) by have := HN.out; have := HW9.out; omega)
            clear HC8 H9 H10 HK9 HK10 HK11 HDT HT HO HN HC HW9 HS HOK HEL
            have HCD := n0
            have HOK := n1
            clear n0 n1
            have n0 := Aside0.mk (HCD.out.below (below_drew1 (Below.refl w9.heap.size w9)))
            clear HCD
            have HCD := n0
            clear n0
            obtain ⟨nL9, hnL9⟩ : ∃ nL9, nL9 = L9.length := ⟨_, rfl⟩
            obtain ⟨Ad9, cd9, ed9⟩ := HCD.out.ds.slice
            rw [← hnL9] at ed9
            have hcl9 := clen_calls HCD.out.cs
            rw [← hnL9] at hcl9
            have HCL := Aside0.mk hcl9
            have HCN := Aside0.mk (cnow_calls HCD.out.cs)
            have HS := Aside0.mk (show w9.drew.cell? ⟨h, 2, none⟩ = some (.slice Ad9 nL9 cd9) ∧ w9.drew.cell? ⟨h, 1, none⟩ = some (.int .i64 now9) from ⟨by rw [← ed9]; exact blk_cell HCD.out.ds.blk 2, blk_cell HCD.out.ds.blk 1⟩)
            have HNL := Aside0.mk hnL9
            clear hnL9 ed9 hcl9
            refine start_ (n := 17) (S := (fun w' => w'.cell? ⟨h, 2, none⟩ = some (.slice Ad9 nL9 cd9) ∧ w'.cell? ⟨h, 1, none⟩ = some (.int .i64 now9))) (ds := []) #[false, false, false, false, false, false, false, false, false, false, false, false, false, false, false, false, false] (by kernel_rfl) rfl rfl HS.out (fun hHeld => ?_)
            refine with_tabW acts42t.tab acts42t.bits (fun HT_ HW_ => ?_)
            refine pure_ (i := 0) (N := some 241) (v := ?_) (a' := ?_) #[true, false, false, false, false, false, false, false, false, false, false, false, false, false, false, false, false] rfl rfl (any_of HT_.out (by kernel_rfl)) (fun _ _ _ h => h) (Or.inl ⟨by rfl, ?_⟩) ?_ ?_
            rotate_left
            · intro w'
              go_simp
              with_reducible rfl
            rotate_left
            · simp only [Act.put, List.setIfInBounds_toArray, List.set_cons_zero, List.set_cons_succ, i64_w, i32_w]
              rfl
            refine pure_ (i := 2) (N := some 243) (v := ?_) (a' := ?_) #[true, false, true, false, false, false, false, false, false, false, false, false, false, false, false, false, false] rfl rfl (any_of HT_.out (by kernel_rfl)) (fun _ _ _ h => h) (Or.inl ⟨by rfl, ?_⟩) ?_ ?_
            rotate_left
            · intro w'
              go_simp
              with_reducible rfl
            rotate_left
            · simp only [Act.put, List.setIfInBounds_toArray, List.set_cons_zero, List.set_cons_succ, i64_w, i32_w]
              rfl
            refine pure_ (i := 3) (N := some 244) (v := ?_) (a' := ?_) #[true, false, true, true, false, false, false, false, false, false, false, false, false, false, false, false, false] rfl rfl (any_of HT_.out (by kernel_rfl)) (fun _ _ _ h => h) (Or.inl ⟨by rfl, ?_⟩) ?_ ?_
            rotate_left
            · intro w'
              go_simp
              with_reducible rfl
            rotate_left
            · simp only [Act.put, List.setIfInBounds_toArray, List.set_cons_zero, List.set_cons_succ, i64_w, i32_w]
              rfl
            refine pure_ (i := 4) (N := some 245) (v := ?_) (a' := ?_) #[true, false, true, true, true, false, false, false, false, false, false, false, false, false, false, false, false] rfl rfl (any_of HT_.out (by kernel_rfl)) (fun _ _ _ h => h) (Or.inl ⟨by rfl, ?_⟩) ?_ ?_
            rotate_left
            · intro w'
              go_simp
              with_reducible rfl
            rotate_left
            · simp only [Act.put, List.setIfInBounds_toArray, List.set_cons_zero, List.set_cons_succ, i64_w, i32_w]
              rfl
            refine take_ (i := 5) (N := some 246) (v := ?_) (a' := ?_) #[true, false, true, true, true, true, false, false, false, false, false, false, false, false, false, false, false] rfl rfl (take_ofW HT_.out HW_.out (by kernel_rfl)) (fun _ _ _ h => h) (Or.inl ⟨by rfl, ?_⟩) hHeld ?_ ?_
            rotate_left
            · rintro w' ⟨s0, s1⟩
              go_simp
              with_reducible rfl
            rotate_left
            · simp only [Act.put, List.setIfInBounds_toArray, List.set_cons_zero, List.set_cons_succ, i64_w, i32_w]
              rfl
            refine pure_ (i := 6) (N := some 247) (v := ?_) (a' := ?_) #[true, false, true, true, true, true, true, false, false, false, false, false, false, false, false, false, false] rfl rfl (any_of HT_.out (by kernel_rfl)) (fun _ _ _ h => h) (Or.inl ⟨by rfl, ?_⟩) ?_ ?_
            rotate_left
            · intro w'
              go_simp
              with_reducible rfl
            rotate_left
            · simp only [Act.put, List.setIfInBounds_toArray, List.set_cons_zero, List.set_cons_succ, i64_w, i32_w]
              rfl
            refine one_ (i := 1) (N := some 242) #[true, true, true, true, true, true, true, false, false, false, false, false, false, false, false, false, false] rfl rfl (one_of HT_.out (by kernel_rfl)) (by decide) (fun K hK => ?_)
            refine goes_ Try.func14 (by kernel_rfl) rfl #[.pointer (some ⟨g, 0, none⟩)] (by rfl) rfl rfl (by (try simp only [List.map_toArray, List.map_cons, List.map_nil]); first | done | rfl | (go_simp; done) | simp [Act.eval]) ?_
            refine HCL.out.mono ?_
            rintro e w11 ⟨rfl, rfl⟩
            refine ⟨_, rfl, ?_⟩
            refine hK.out _ _ HS.out (fun hHeld => ?_)
            clear hK K
            refine norm_ (a' := ?_) ?_ ?_
            rotate_left
            · show Act.put _ (some 242) _ = _
              simp only [Act.put, List.setIfInBounds_toArray, List.set_cons_zero, List.set_cons_succ, i64_w, i32_w]
              rfl
            refine pure_ (i := 7) (N := some 248) (v := ?_) (a' := ?_) #[true, true, true, true, true, true, true, true, false, false, false, false, false, false, false, false, false] rfl rfl (any_of HT_.out (by kernel_rfl)) (fun _ _ _ h => h) (Or.inl ⟨by rfl, ?_⟩) ?_ ?_
            rotate_left
            · intro w'
              go_simp
              with_reducible rfl
            rotate_left
            · simp only [Act.put, List.setIfInBounds_toArray, List.set_cons_zero, List.set_cons_succ, i64_w, i32_w]
              rfl
            refine pure_ (i := 8) (N := some 249) (v := ?_) (a' := ?_) #[true, true, true, true, true, true, true, true, true, false, false, false, false, false, false, false, false] rfl rfl (any_of HT_.out (by kernel_rfl)) (fun _ _ _ h => h) (Or.inl ⟨by rfl, ?_⟩) ?_ ?_
            rotate_left
            · intro w'
              go_simp
              with_reducible rfl
            rotate_left
            · simp only [Act.put, List.setIfInBounds_toArray, List.set_cons_zero, List.set_cons_succ, i64_w, i32_w]
              rfl
            refine pure_ (i := 9) (N := some 250) (v := ?_) (a' := ?_) #[true, true, true, true, true, true, true, true, true, true, false, false, false, false, false, false, false] rfl rfl (any_of HT_.out (by kernel_rfl)) (fun _ _ _ h => h) (Or.inl ⟨by rfl, ?_⟩) ?_ ?_
            rotate_left
            · intro w'
              go_simp
              with_reducible rfl
            rotate_left
            · simp only [Act.put, List.setIfInBounds_toArray, List.set_cons_zero, List.set_cons_succ, i64_w, i32_w]
              rfl
            refine pure_ (i := 11) (N := some 252) (v := ?_) (a' := ?_) #[true, true, true, true, true, true, true, true, true, true, false, true, false, false, false, false, false] rfl rfl (any_of HT_.out (by kernel_rfl)) (fun _ _ _ h => h) (Or.inl ⟨by rfl, ?_⟩) ?_ ?_
            rotate_left
            · intro w'
              go_simp
              with_reducible rfl
            rotate_left
            · simp only [Act.put, List.setIfInBounds_toArray, List.set_cons_zero, List.set_cons_succ, i64_w, i32_w]
              rfl
            refine pure_ (i := 12) (N := some 253) (v := ?_) (a' := ?_) #[true, true, true, true, true, true, true, true, true, true, false, true, true, false, false, false, false] rfl rfl (any_of HT_.out (by kernel_rfl)) (fun _ _ _ h => h) (Or.inl ⟨by rfl, ?_⟩) ?_ ?_
            rotate_left
            · intro w'
              go_simp
              with_reducible rfl
            rotate_left
            · simp only [Act.put, List.setIfInBounds_toArray, List.set_cons_zero, List.set_cons_succ, i64_w, i32_w]
              rfl
            refine pure_ (i := 13) (N := some 254) (v := ?_) (a' := ?_) #[true, true, true, true, true, true, true, true, true, true, false, true, true, true, false, false, false] rfl rfl (any_of HT_.out (by kernel_rfl)) (fun _ _ _ h => h) (Or.inl ⟨by rfl, ?_⟩) ?_ ?_
            rotate_left
            · intro w'
              go_simp
              with_reducible rfl
            rotate_left
            · simp only [Act.put, List.setIfInBounds_toArray, List.set_cons_zero, List.set_cons_succ, i64_w, i32_w]
              rfl
            refine take_ (i := 14) (N := some 255) (v := ?_) (a' := ?_) #[true, true, true, true, true, true, true, true, true, true, false, true, true, true, true, false, false] rfl rfl (take_ofW HT_.out HW_.out (by kernel_rfl)) (fun _ _ _ h => h) (Or.inl ⟨by rfl, ?_⟩) hHeld ?_ ?_
            rotate_left
            · rintro w' ⟨s0, s1⟩
              go_simp
              with_reducible rfl
            rotate_left
            · simp only [Act.put, List.setIfInBounds_toArray, List.set_cons_zero, List.set_cons_succ, i64_w, i32_w]
              rfl
            refine one_ (i := 10) (N := some 251) #[true, true, true, true, true, true, true, true, true, true, true, true, true, true, true, false, false] rfl rfl (one_of HT_.out (by kernel_rfl)) (by decide) (fun K hK => ?_)
            refine goes_ Try.func28 (by kernel_rfl) rfl #[.pointer (some ⟨g, 0, none⟩)] (by rfl) rfl rfl (by (try simp only [List.map_toArray, List.map_cons, List.map_nil]); first | done | rfl | (go_simp; done) | simp [Act.eval]) ?_
            refine HCN.out.mono ?_
            rintro e w12 ⟨rfl, rfl⟩
            refine ⟨_, rfl, ?_⟩
            refine hK.out _ _ HS.out (fun hHeld => ?_)
            clear hK K
            refine norm_ (a' := ?_) ?_ ?_
            rotate_left
            · show Act.put _ (some 251) _ = _
              simp only [Act.put, List.setIfInBounds_toArray, List.set_cons_zero, List.set_cons_succ, i64_w, i32_w]
              rfl
            refine pure_ (i := 15) (N := some 256) (v := ?_) (a' := ?_) #[true, true, true, true, true, true, true, true, true, true, true, true, true, true, true, true, false] rfl rfl (any_of HT_.out (by kernel_rfl)) (fun _ _ _ h => h) (Or.inl ⟨by rfl, ?_⟩) ?_ ?_
            rotate_left
            · intro w'
              go_simp
              with_reducible rfl
            rotate_left
            · simp only [Act.put, List.setIfInBounds_toArray, List.set_cons_zero, List.set_cons_succ, i64_w, i32_w]
              rfl
            refine pure_ (i := 16) (N := some 257) (v := ?_) (a' := ?_) #[true, true, true, true, true, true, true, true, true, true, true, true, true, true, true, true, true] rfl rfl (any_of HT_.out (by kernel_rfl)) (fun _ _ _ h => h) (Or.inl ⟨by rfl, ?_⟩) ?_ ?_
            rotate_left
            · intro w'
              go_simp
              with_reducible rfl
            rotate_left
            · simp only [Act.put, List.setIfInBounds_toArray, List.set_cons_zero, List.set_cons_succ, i64_w, i32_w]
              rfl
            refine done_ (done_of HT_.out (by kernel_rfl)) ?_
            go_wp2
            go_roundw
            case rel => exact ⟨i + 1, now9, v9, vd9, L9, by simp, by omega, HCD, HOK, HNN⟩
            case measure => simp [intOf]; omega
        · have hq : IntKind.i64.wrap ((IntKind.u64.wrap wh).tmod 7) = 6 := hq
          as_aux_lemma =>
            obtain ⟨J, hJ⟩ : ∃ J : Int, (if (20 : Int) < (nt : Int) then (20 : Int) else (nt : Int)) = J := ⟨_, rfl⟩
            have hJa : 0 ≤ J := by rw [← hJ]; split <;> omega
            have hJb : J ≤ (nt : Int) := by rw [← hJ]; split <;> omega
            have hJc : J ≤ 20 := by rw [← hJ]; split <;> omega
            obtain ⟨M, rfl⟩ := Int.eq_ofNat_of_zero_le hJa
            obtain ⟨i3, hi3, hz3, hz4, hz5⟩ := info_parts i64_infoS
            have hla : (tt.take M).length = M := by rw [List.length_take, ← HNT.out]; omega
            obtain ⟨hcut, hA, hCC⟩ := print_take_of (P := Try.prog) (Value.int .i64) 0 22 3 .i64 Try.underlying22 hi3 hz4 At ct tt (M : Int) hJa (by rw [← HNT.out]; exact hJb) (by rw [← HNT.out]; exact hct)
            rw [Int.toNat_natCast] at hcut hA hCC
            have HRA := Aside0.mk (fun w' (hb : Below w.heap.size w w') => (Kd.C_of_reads (h1 := fun _ => rfl) (hA w' (Kd.reads_of_C (Kd.C_below HRT.out hb))) : Kd.C (Kd.int .i64) w' At (tt.take M).length (tt.take M)))
            rw [hla] at hcut
            rw [← HNT.out] at hcut
            generalize tt.take M = at_ at hla HRA
            have hMc : M ≤ ct := by omega
            have d0 : ((M : Int) ≤ (nt : Int)) = True := eq_true hJb
            have d0b : decide ((M : Int) ≤ (nt : Int)) = true := decide_eq_true hJb
            have HLA := Aside0.mk hla
            clear hA hCC hla hz3 hz4 hz5 hi3 hJa
            go_wp2_with fail
            clear hq hx0 hx1 hx2 hx3 hcut hJ hJb d0 d0b
            rw [← HW8.out]
            have n0 := Aside0.mk (HC8.out.below (below_drew1 (Below.refl w8.heap.size w8)))
            clear HC8
            have HC8 := n0
            clear n0
            have HK9 := Aside0.mk ((below_drew1 (Below.refl w8.heap.size w8)).block wr.heap.size (blk_lt HK8.out) |>.trans HK8.out)
            have HS := Aside0.mk (show w8.drew.cell? ⟨wr.heap.size, 2, none⟩ = some (.int .i64 k) from blk_cell HK9.out 2)
            have htw := turn_calls HC8.out.cs k At ct at_ (HRA.out _ HC8.out.bel) (by rw [HLA.out]; exact hMc) (by rw [HLA.out]; omega) HO.out.sm (by have := HO.out.len; omega)
            rw [HLA.out] at htw
            obtain ⟨E, hE⟩ : ∃ E, E = hasE L.length k := ⟨_, rfl⟩
            obtain ⟨L9, hL9⟩ : ∃ L9, L9 = tnL k at_ L := ⟨_, rfl⟩
            rw [← hE, ← hL9] at htw
            have HT := Aside0.mk htw
            have HOK := Aside0.mk (show Ok a0 now L9 by rw [hL9]; exact HO.out.turn k at_)
            have HEL := Aside0.mk (And.intro hE hL9)
            obtain ⟨now9, hnow9⟩ : ∃ now9, now9 = now := ⟨_, rfl⟩
            have HW9 := Aside0.mk hnow9
            clear htw hE hL9 hnow9
            refine start_ (n := 11) (S := (fun w' => w'.cell? ⟨wr.heap.size, 2, none⟩ = some (.int .i64 k))) (ds := []) #[false, false, false, false, false, false, false, false, false, false, false] (by kernel_rfl) rfl rfl HS.out (fun hHeld => ?_)
            refine with_tabW acts40.tab acts40.bits (fun HT_ HW_ => ?_)
            refine pure_ (i := 0) (N := some 230) (v := ?_) (a' := ?_) #[true, false, false, false, false, false, false, false, false, false, false] rfl rfl (any_of HT_.out (by kernel_rfl)) (fun _ _ _ h => h) (Or.inl ⟨by rfl, ?_⟩) ?_ ?_
            rotate_left
            · intro w'
              go_simp
              with_reducible rfl
            rotate_left
            · simp only [Act.put, List.setIfInBounds_toArray, List.set_cons_zero, List.set_cons_succ, i64_w, i32_w]
              rfl
            refine pure_ (i := 1) (N := some 231) (v := ?_) (a' := ?_) #[true, true, false, false, false, false, false, false, false, false, false] rfl rfl (any_of HT_.out (by kernel_rfl)) (fun _ _ _ h => h) (Or.inl ⟨by rfl, ?_⟩) ?_ ?_
            rotate_left
            · intro w'
              go_simp
              with_reducible rfl
            rotate_left
            · simp only [Act.put, List.setIfInBounds_toArray, List.set_cons_zero, List.set_cons_succ, i64_w, i32_w]
              rfl
            refine take_ (i := 2) (N := some 232) (v := ?_) (a' := ?_) #[true, true, true, false, false, false, false, false, false, false, false] rfl rfl (take_ofW HT_.out HW_.out (by kernel_rfl)) (fun _ _ _ h => h) (Or.inl ⟨by rfl, ?_⟩) hHeld ?_ ?_
            rotate_left
            · rintro w' s0
              go_simp
              with_reducible rfl
            rotate_left
            · simp only [Act.put, List.setIfInBounds_toArray, List.set_cons_zero, List.set_cons_succ, i64_w, i32_w]
              rfl
            refine pure_ (i := 3) (N := some 233) (v := ?_) (a' := ?_) #[true, true, true, true, false, false, false, false, false, false, false] rfl rfl (any_of HT_.out (by kernel_rfl)) (fun _ _ _ h => h) (Or.inl ⟨by rfl, ?_⟩) ?_ ?_
            rotate_left
            · intro w'
              go_simp
              with_reducible rfl
            rotate_left
            · simp only [Act.put, List.setIfInBounds_toArray, List.set_cons_zero, List.set_cons_succ, i64_w, i32_w]
              rfl
            refine pure_ (i := 5) (N := some 235) (v := ?_) (a' := ?_) #[true, true, true, true, false, true, false, false, false, false, false] rfl rfl (any_of HT_.out (by kernel_rfl)) (fun _ _ _ h => h) (Or.inl ⟨by rfl, ?_⟩) ?_ ?_
            rotate_left
            · intro w'
              go_simp
              with_reducible rfl
            rotate_left
            · simp only [Act.put, List.setIfInBounds_toArray, List.set_cons_zero, List.set_cons_succ, i64_w, i32_w]
              rfl
            refine pure_ (i := 6) (N := some 236) (v := ?_) (a' := ?_) #[true, true, true, true, false, true, true, false, false, false, false] rfl rfl (any_of HT_.out (by kernel_rfl)) (fun _ _ _ h => h) (Or.inl ⟨by rfl, ?_⟩) ?_ ?_
            rotate_left
            · intro w'
              go_simp
              with_reducible rfl
            rotate_left
            · simp only [Act.put, List.setIfInBounds_toArray, List.set_cons_zero, List.set_cons_succ, i64_w, i32_w]
              rfl
            refine take_ (i := 7) (N := some 237) (v := ?_) (a' := ?_) #[true, true, true, true, false, true, true, true, false, false, false] rfl rfl (take_ofW HT_.out HW_.out (by kernel_rfl)) (fun _ _ _ h => h) (Or.inl ⟨by rfl, ?_⟩) hHeld ?_ ?_
            rotate_left
            · rintro w' s0
              go_simp
              with_reducible rfl
            rotate_left
            · simp only [Act.put, List.setIfInBounds_toArray, List.set_cons_zero, List.set_cons_succ, i64_w, i32_w]
              rfl
            refine pure_ (i := 8) (N := some 238) (v := ?_) (a' := ?_) #[true, true, true, true, false, true, true, true, true, false, false] rfl rfl (any_of HT_.out (by kernel_rfl)) (fun _ _ _ h => h) (Or.inl ⟨by rfl, ?_⟩) ?_ ?_
            rotate_left
            · intro w'
              go_simp
              with_reducible rfl
            rotate_left
            · simp only [Act.put, List.setIfInBounds_toArray, List.set_cons_zero, List.set_cons_succ, i64_w, i32_w]
              rfl
            refine one_ (i := 4) (N := some 234) #[true, true, true, true, true, true, true, true, true, false, false] rfl rfl (one_of HT_.out (by kernel_rfl)) (by decide) (fun K hK => ?_)
            refine goes_ Try.func27 (by kernel_rfl) rfl #[.pointer (some ⟨g, 0, none⟩), .int .i64 k, .slice At M ct] (by rfl) rfl rfl (by (try simp only [List.map_toArray, List.map_cons, List.map_nil]); first | done | rfl | (go_simp; done) | simp [Act.eval]) ?_
            refine HT.out.mono ?_
            rintro e w10 ⟨rfl, v9, hc9, hf9, hn9⟩
            have H9 := Aside0.mk (And.intro hc9 hf9)
            have hd10 := dturn_calls (HC8.out.ds.far2 HC8.out.cs hf9) k At ct at_ (HRA.out _ (bel_c HC8.out.cs hf9 HC8.out.bel)) (by rw [HLA.out]; exact hMc) (by rw [HLA.out]; omega) HO.out.sm (by have := HO.out.len; omega)
            rw [HLA.out, ← HEL.out.1, ← HEL.out.2] at hd10
            have HDT := Aside0.mk hd10
            have HK10 := Aside0.mk ((far_c HC8.out.cs hf9 HK9.out (by decide) (by decide)).trans HK9.out)
            clear hc9 hf9 hn9 hd10
            refine ⟨_, rfl, ?_⟩
            refine hK.out _ _ (blk_cell HK10.out 2) (fun hHeld => ?_)
            clear hK K
            refine norm_ (a' := ?_) ?_ ?_
            rotate_left
            · show Act.put _ (some 234) _ = _
              simp only [Act.put, List.setIfInBounds_toArray, List.set_cons_zero, List.set_cons_succ, i64_w, i32_w]
              rfl
            refine one_ (i := 9) (N := some 239) #[true, true, true, true, true, true, true, true, true, true, false] rfl rfl (one_of HT_.out (by kernel_rfl)) (by decide) (fun K hK => ?_)
            refine goes_ Try.func33 (by kernel_rfl) rfl #[.pointer (some ⟨h, 0, none⟩), .int .i64 k, .slice At M ct] (by rfl) rfl rfl (by (try simp only [List.map_toArray, List.map_cons, List.map_nil]); first | done | rfl | (go_simp; done) | simp [Act.eval]) ?_
            refine HDT.out.mono ?_
            rintro e w9 ⟨rfl, vd9, hd9, hfd9, hnd9⟩
            have H10 := Aside0.mk (And.intro hd9 hfd9)
            have HK11 := Aside0.mk ((far_d (HC8.out.ds.far2 HC8.out.cs H9.out.2) hfd9 HK10.out (by decide) (by decide)).trans HK10.out)
            clear hd9 hfd9 hnd9
            refine ⟨_, rfl, ?_⟩
            refine hK.out _ _ (blk_cell HK11.out 2) (fun hHeld => ?_)
            clear hK K
            refine norm_ (a' := ?_) ?_ ?_
            rotate_left
            · show Act.put _ (some 239) _ = _
              simp only [Act.put, List.setIfInBounds_toArray, List.set_cons_zero, List.set_cons_succ, i64_w, i32_w]
              rfl
            refine pure_ (i := 10) (N := some 240) (v := ?_) (a' := ?_) #[true, true, true, true, true, true, true, true, true, true, true] rfl rfl (any_of HT_.out (by kernel_rfl)) (fun _ _ _ h => h) (Or.inl ⟨by rfl, ?_⟩) ?_ ?_
            rotate_left
            · intro w'
              go_simp
              with_reducible rfl
            rotate_left
            · simp only [Act.put, List.setIfInBounds_toArray, List.set_cons_zero, List.set_cons_succ, i64_w, i32_w]
              rfl
            refine done_ (done_of HT_.out (by kernel_rfl)) ?_
            go_wp2_with fail
            have n0 := Aside0.mk (show CD w w9 g h a0 now9 v9 vd9 L9 by rw [HW9.out]; exact HC8.out.both H9.out.1 H9.out.2 H10.out.1 H10.out.2)
            have n1 := Aside0.mk (show Ok a0 now9 L9 by rw [HW9.out]; exact HOK.out)
            have HNN := Aside0.mk (show 0 ≤ now9 ∧ now9 ≤ ((i + 1 : Nat) : Int) by have := HN.out; have := HW9.out; omega)
            clear HC8 H9 H10 HK9 HK10 HK11 HDT HT HO HN HC HW9 HS HOK HEL
            have HCD := n0
            have HOK := n1
            clear n0 n1
            have n0 := Aside0.mk (HCD.out.below (below_drew1 (Below.refl w9.heap.size w9)))
            clear HCD
            have HCD := n0
            clear n0
            obtain ⟨nL9, hnL9⟩ : ∃ nL9, nL9 = L9.length := ⟨_, rfl⟩
            obtain ⟨Ad9, cd9, ed9⟩ := HCD.out.ds.slice
            rw [← hnL9] at ed9
            have hcl9 := clen_calls HCD.out.cs
            rw [← hnL9] at hcl9
            have HCL := Aside0.mk hcl9
            have HCN := Aside0.mk (cnow_calls HCD.out.cs)
            have HS := Aside0.mk (show w9.drew.cell? ⟨h, 2, none⟩ = some (.slice Ad9 nL9 cd9) ∧ w9.drew.cell? ⟨h, 1, none⟩ = some (.int .i64 now9) from ⟨by rw [← ed9]; exact blk_cell HCD.out.ds.blk 2, blk_cell HCD.out.ds.blk 1⟩)
            have HNL := Aside0.mk hnL9
            clear hnL9 ed9 hcl9
            refine start_ (n := 17) (S := (fun w' => w'.cell? ⟨h, 2, none⟩ = some (.slice Ad9 nL9 cd9) ∧ w'.cell? ⟨h, 1, none⟩ = some (.int .i64 now9))) (ds := []) #[false, false, false, false, false, false, false, false, false, false, false, false, false, false, false, false, false] (by kernel_rfl) rfl rfl HS.out (fun hHeld => ?_)
            refine with_tabW acts42n.tab acts42n.bits (fun HT_ HW_ => ?_)
            refine pure_ (i := 0) (N := some 241) (v := ?_) (a' := ?_) #[true, false, false, false, false, false, false, false, false, false, false, false, false, false, false, false, false] rfl rfl (any_of HT_.out (by kernel_rfl)) (fun _ _ _ h => h) (Or.inl ⟨by rfl, ?_⟩) ?_ ?_
            rotate_left
            · intro w'
              go_simp
              with_reducible rfl
            rotate_left
            · simp only [Act.put, List.setIfInBounds_toArray, List.set_cons_zero, List.set_cons_succ, i64_w, i32_w]
              rfl
            refine pure_ (i := 2) (N := some 243) (v := ?_) (a' := ?_) #[true, false, true, false, false, false, false, false, false, false, false, false, false, false, false, false, false] rfl rfl (any_of HT_.out (by kernel_rfl)) (fun _ _ _ h => h) (Or.inl ⟨by rfl, ?_⟩) ?_ ?_
            rotate_left
            · intro w'
              go_simp
              with_reducible rfl
            rotate_left
            · simp only [Act.put, List.setIfInBounds_toArray, List.set_cons_zero, List.set_cons_succ, i64_w, i32_w]
              rfl
            refine pure_ (i := 3) (N := some 244) (v := ?_) (a' := ?_) #[true, false, true, true, false, false, false, false, false, false, false, false, false, false, false, false, false] rfl rfl (any_of HT_.out (by kernel_rfl)) (fun _ _ _ h => h) (Or.inl ⟨by rfl, ?_⟩) ?_ ?_
            rotate_left
            · intro w'
              go_simp
              with_reducible rfl
            rotate_left
            · simp only [Act.put, List.setIfInBounds_toArray, List.set_cons_zero, List.set_cons_succ, i64_w, i32_w]
              rfl
            refine pure_ (i := 4) (N := some 245) (v := ?_) (a' := ?_) #[true, false, true, true, true, false, false, false, false, false, false, false, false, false, false, false, false] rfl rfl (any_of HT_.out (by kernel_rfl)) (fun _ _ _ h => h) (Or.inl ⟨by rfl, ?_⟩) ?_ ?_
            rotate_left
            · intro w'
              go_simp
              with_reducible rfl
            rotate_left
            · simp only [Act.put, List.setIfInBounds_toArray, List.set_cons_zero, List.set_cons_succ, i64_w, i32_w]
              rfl
            refine take_ (i := 5) (N := some 246) (v := ?_) (a' := ?_) #[true, false, true, true, true, true, false, false, false, false, false, false, false, false, false, false, false] rfl rfl (take_ofW HT_.out HW_.out (by kernel_rfl)) (fun _ _ _ h => h) (Or.inl ⟨by rfl, ?_⟩) hHeld ?_ ?_
            rotate_left
            · rintro w' ⟨s0, s1⟩
              go_simp
              with_reducible rfl
            rotate_left
            · simp only [Act.put, List.setIfInBounds_toArray, List.set_cons_zero, List.set_cons_succ, i64_w, i32_w]
              rfl
            refine pure_ (i := 6) (N := some 247) (v := ?_) (a' := ?_) #[true, false, true, true, true, true, true, false, false, false, false, false, false, false, false, false, false] rfl rfl (any_of HT_.out (by kernel_rfl)) (fun _ _ _ h => h) (Or.inl ⟨by rfl, ?_⟩) ?_ ?_
            rotate_left
            · intro w'
              go_simp
              with_reducible rfl
            rotate_left
            · simp only [Act.put, List.setIfInBounds_toArray, List.set_cons_zero, List.set_cons_succ, i64_w, i32_w]
              rfl
            refine one_ (i := 1) (N := some 242) #[true, true, true, true, true, true, true, false, false, false, false, false, false, false, false, false, false] rfl rfl (one_of HT_.out (by kernel_rfl)) (by decide) (fun K hK => ?_)
            refine goes_ Try.func14 (by kernel_rfl) rfl #[.pointer (some ⟨g, 0, none⟩)] (by rfl) rfl rfl (by (try simp only [List.map_toArray, List.map_cons, List.map_nil]); first | done | rfl | (go_simp; done) | simp [Act.eval]) ?_
            refine HCL.out.mono ?_
            rintro e w11 ⟨rfl, rfl⟩
            refine ⟨_, rfl, ?_⟩
            refine hK.out _ _ HS.out (fun hHeld => ?_)
            clear hK K
            refine norm_ (a' := ?_) ?_ ?_
            rotate_left
            · show Act.put _ (some 242) _ = _
              simp only [Act.put, List.setIfInBounds_toArray, List.set_cons_zero, List.set_cons_succ, i64_w, i32_w]
              rfl
            refine pure_ (i := 7) (N := some 248) (v := ?_) (a' := ?_) #[true, true, true, true, true, true, true, true, false, false, false, false, false, false, false, false, false] rfl rfl (any_of HT_.out (by kernel_rfl)) (fun _ _ _ h => h) (Or.inl ⟨by rfl, ?_⟩) ?_ ?_
            rotate_left
            · intro w'
              go_simp
              with_reducible rfl
            rotate_left
            · simp only [Act.put, List.setIfInBounds_toArray, List.set_cons_zero, List.set_cons_succ, i64_w, i32_w]
              rfl
            refine pure_ (i := 8) (N := some 249) (v := ?_) (a' := ?_) #[true, true, true, true, true, true, true, true, true, false, false, false, false, false, false, false, false] rfl rfl (any_of HT_.out (by kernel_rfl)) (fun _ _ _ h => h) (Or.inl ⟨by rfl, ?_⟩) ?_ ?_
            rotate_left
            · intro w'
              go_simp
              with_reducible rfl
            rotate_left
            · simp only [Act.put, List.setIfInBounds_toArray, List.set_cons_zero, List.set_cons_succ, i64_w, i32_w]
              rfl
            refine pure_ (i := 9) (N := some 250) (v := ?_) (a' := ?_) #[true, true, true, true, true, true, true, true, true, true, false, false, false, false, false, false, false] rfl rfl (any_of HT_.out (by kernel_rfl)) (fun _ _ _ h => h) (Or.inl ⟨by rfl, ?_⟩) ?_ ?_
            rotate_left
            · intro w'
              go_simp
              with_reducible rfl
            rotate_left
            · simp only [Act.put, List.setIfInBounds_toArray, List.set_cons_zero, List.set_cons_succ, i64_w, i32_w]
              rfl
            refine pure_ (i := 11) (N := some 252) (v := ?_) (a' := ?_) #[true, true, true, true, true, true, true, true, true, true, false, true, false, false, false, false, false] rfl rfl (any_of HT_.out (by kernel_rfl)) (fun _ _ _ h => h) (Or.inl ⟨by rfl, ?_⟩) ?_ ?_
            rotate_left
            · intro w'
              go_simp
              with_reducible rfl
            rotate_left
            · simp only [Act.put, List.setIfInBounds_toArray, List.set_cons_zero, List.set_cons_succ, i64_w, i32_w]
              rfl
            refine pure_ (i := 12) (N := some 253) (v := ?_) (a' := ?_) #[true, true, true, true, true, true, true, true, true, true, false, true, true, false, false, false, false] rfl rfl (any_of HT_.out (by kernel_rfl)) (fun _ _ _ h => h) (Or.inl ⟨by rfl, ?_⟩) ?_ ?_
            rotate_left
            · intro w'
              go_simp
              with_reducible rfl
            rotate_left
            · simp only [Act.put, List.setIfInBounds_toArray, List.set_cons_zero, List.set_cons_succ, i64_w, i32_w]
              rfl
            refine pure_ (i := 13) (N := some 254) (v := ?_) (a' := ?_) #[true, true, true, true, true, true, true, true, true, true, false, true, true, true, false, false, false] rfl rfl (any_of HT_.out (by kernel_rfl)) (fun _ _ _ h => h) (Or.inl ⟨by rfl, ?_⟩) ?_ ?_
            rotate_left
            · intro w'
              go_simp
              with_reducible rfl
            rotate_left
            · simp only [Act.put, List.setIfInBounds_toArray, List.set_cons_zero, List.set_cons_succ, i64_w, i32_w]
              rfl
            refine take_ (i := 14) (N := some 255) (v := ?_) (a' := ?_) #[true, true, true, true, true, true, true, true, true, true, false, true, true, true, true, false, false] rfl rfl (take_ofW HT_.out HW_.out (by kernel_rfl)) (fun _ _ _ h => h) (Or.inl ⟨by rfl, ?_⟩) hHeld ?_ ?_
            rotate_left
            · rintro w' ⟨s0, s1⟩
              go_simp
              with_reducible rfl
            rotate_left
            · simp only [Act.put, List.setIfInBounds_toArray, List.set_cons_zero, List.set_cons_succ, i64_w, i32_w]
              rfl
            refine one_ (i := 10) (N := some 251) #[true, true, true, true, true, true, true, true, true, true, true, true, true, true, true, false, false] rfl rfl (one_of HT_.out (by kernel_rfl)) (by decide) (fun K hK => ?_)
            refine goes_ Try.func28 (by kernel_rfl) rfl #[.pointer (some ⟨g, 0, none⟩)] (by rfl) rfl rfl (by (try simp only [List.map_toArray, List.map_cons, List.map_nil]); first | done | rfl | (go_simp; done) | simp [Act.eval]) ?_
            refine HCN.out.mono ?_
            rintro e w12 ⟨rfl, rfl⟩
            refine ⟨_, rfl, ?_⟩
            refine hK.out _ _ HS.out (fun hHeld => ?_)
            clear hK K
            refine norm_ (a' := ?_) ?_ ?_
            rotate_left
            · show Act.put _ (some 251) _ = _
              simp only [Act.put, List.setIfInBounds_toArray, List.set_cons_zero, List.set_cons_succ, i64_w, i32_w]
              rfl
            refine pure_ (i := 15) (N := some 256) (v := ?_) (a' := ?_) #[true, true, true, true, true, true, true, true, true, true, true, true, true, true, true, true, false] rfl rfl (any_of HT_.out (by kernel_rfl)) (fun _ _ _ h => h) (Or.inl ⟨by rfl, ?_⟩) ?_ ?_
            rotate_left
            · intro w'
              go_simp
              with_reducible rfl
            rotate_left
            · simp only [Act.put, List.setIfInBounds_toArray, List.set_cons_zero, List.set_cons_succ, i64_w, i32_w]
              rfl
            refine pure_ (i := 16) (N := some 257) (v := ?_) (a' := ?_) #[true, true, true, true, true, true, true, true, true, true, true, true, true, true, true, true, true] rfl rfl (any_of HT_.out (by kernel_rfl)) (fun _ _ _ h => h) (Or.inl ⟨by rfl, ?_⟩) ?_ ?_
            rotate_left
            · intro w'
              go_simp
              with_reducible rfl
            rotate_left
            · simp only [Act.put, List.setIfInBounds_toArray, List.set_cons_zero, List.set_cons_succ, i64_w, i32_w]
              rfl
            refine done_ (done_of HT_.out (by kernel_rfl)) ?_
            go_wp2
            go_roundw
            case rel => exact ⟨i + 1, now9, v9, vd9, L9, by simp, by omega, HCD, HOK, HNN⟩
            case measure => simp [intOf]; omega
      · have h2b : decide ((i : Int) < 60) = false := decide_eq_false (by omega)
        go_wp2_with fail
        go_ret
        exact ⟨by simp, HC.out.bel⟩
    · have h1b : decide ((i : Int) < (l1.length : Int)) = false := decide_eq_false (by omega)
      go_wp2_with fail
      go_ret
      exact ⟨by simp, HC.out.bel⟩
end Go.Proofs.Ytfplmoeahbjfmaa.P
