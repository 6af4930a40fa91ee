/- BitioPuts by hand: numbers put, told by the document's list, taken again. No condition. -/
import Derived.Test.YtmajbcglpcagoaaBBitioU
import Derived.Test.YtmajbcglpcagoaaB13
import Derived.Test.YtmajbcglpcagoaaB14
namespace Go.Proofs.Ytmajbcglpcagoaa.B
open Go Go.RowKit Go.Proofs.YtmajbcglpcagoaaW.PrintWords Go.Proofs.YtmajbcglpcagoaaW.PrintLast Go.Proofs.YtmajbcglpcagoaaW.PrintMore
set_option linter.unusedVariables false
set_option linter.unusedSimpArgs false

theorem u8_info4 : (Try.prog.info? 5).map (fun i => (i.zero, i.size, i.bytes)) = some (some (.int .u8 0), 1, 1) := by kernel_rfl
theorem bytes_in (l : List Int) (h : ∀ x ∈ l, bit x) (m : Nat) : ∀ x ∈ (List.range m).map (byte l), 0 ≤ x ∧ x ≤ 255 := by
  intro x hx
  obtain ⟨j, _, rfl⟩ := List.mem_map.1 hx
  obtain ⟨r, hr⟩ := eight l h j
  have e : byte l j = (r.val : Int) := by
    rw [byte_rb l h j, rb_congr l (bits8 (r.val : Int)) j 0 8 hr]; exact rb_all r
  rw [e]
  have := r.isLt
  omega
theorem puts_at {w : World} {A : Option Addr} {l : List (Int × Int)} (h : kNum.C w A l.length l) (i : Nat) (hi : i < l.length) :
    ∃ ad, A = some ad ∧ w.cell? (ad.add (i * 2)) = some (.int .i64 l[i].1) ∧ w.cell? { block := (ad.add (i * 2)).block, off := (ad.add (i * 2)).off + 1 } = some (.int .i64 l[i].2) := by
  obtain ⟨ad, c, e, hc, hK, hcell⟩ := Kd.C_get h (0, 0) (i : Int) (by omega) (by omega)
  refine ⟨ad, e, ?_⟩
  have hg : l.getD ((i : Int)).toNat (0, 0) = l[i] := by
    rw [Int.toNat_natCast, List.getD_eq_getElem?_getD, List.getElem?_eq_getElem hi]; rfl
  rw [hg] at hK
  have hK2 : c = [.int .i64 l[i].1, .int .i64 l[i].2] := hK
  subst hK2
  rw [Int.toNat_natCast] at hcell
  have e1 : ({ block := (ad.add (i * 2)).block, off := (ad.add (i * 2)).off + 1 } : Addr) = ad.add (i * 2 + 1) := by
    unfold Addr.add
    by_cases h : i * 2 = 0
    · rw [if_pos h, if_neg (by omega), h]
    · rw [if_neg h, if_neg (by omega)]; simp [Nat.add_assoc]
  rw [e1]
  exact ⟨hcell 0 _ rfl, hcell 1 _ rfl⟩
def puts10.T : Bool × List (List Nat × List Nat) := (true, [([], []), ([], []), ([0, 1], [0, 1]), ([2], [2]), ([3], [3]), ([], []), ([], []), ([5, 6], [5, 6]), ([7], [7]), ([8], [8]), ([4, 9], [4, 9]), ([10], [10]), ([11], [11]), ([11], [11]), ([12, 10, 0, 1, 2, 3, 4, 5, 6, 7, 8, 9, 10, 11, 12], [12]), ([13, 14, 0, 1, 2, 3, 4, 5, 6, 7, 8, 9, 10, 11, 12, 13, 14], [13])])
def puts10.B : List Nat := [0, 0, 3, 7, 15, 0, 0, 96, 224, 480, 1023, 2047, 4095, 4095, 8191, 32767]
theorem puts10.tab : rtab .any (opsOf Try.f6 10) = puts10.T := by kernel_rfl
theorem puts10.bits : waitsOk puts10.T.2 puts10.B = true := by kernel_rfl
def puts11.T : Bool × List (List Nat × List Nat) := (true, [([], []), ([], []), ([], []), ([1, 2], [1, 2]), ([3], [3]), ([4], [4]), ([], []), ([], []), ([6, 7], [6, 7]), ([8], [8]), ([9], [9]), ([0, 5, 10], [0, 5, 10]), ([], []), ([11, 12], [11, 12])])
def puts11.B : List Nat := [0, 0, 0, 6, 14, 30, 0, 0, 192, 448, 960, 2047, 0, 8191]
theorem puts11.tab : rtab .any (opsOf Try.f6 11) = puts11.T := by kernel_rfl
theorem puts11.bits : waitsOk puts11.T.2 puts11.B = true := by kernel_rfl
def puts14.T : Bool × List (List Nat × List Nat) := (true, [([], []), ([], []), ([0, 1], [0, 1]), ([], []), ([], []), ([], []), ([4, 5], [4, 5]), ([6], [6]), ([7], [7]), ([3, 8, 2], [3, 8]), ([2, 9, 0, 1, 2], [0, 2]), ([9, 10, 0, 1, 2, 3, 4, 5, 6, 7, 8, 9, 10], [3, 9])])
def puts14.B : List Nat := [0, 0, 3, 0, 0, 0, 48, 112, 240, 511, 1023, 2047]
theorem puts14.tab : rtab .any (opsOf Try.f6 14) = puts14.T := by kernel_rfl
theorem puts14.bits : waitsOk puts14.T.2 puts14.B = true := by kernel_rfl
def puts16a.T : Bool × List (List Nat × List Nat) := (true, [([], []), ([0], [0]), ([], []), ([2], [2]), ([3], [3]), ([1, 4], [1, 4]), ([5, 3], [5]), ([6], [6]), ([7, 6, 6], [6, 7]), ([6], [6]), ([9, 6], [6, 9]), ([8, 10, 6], [6, 8, 10]), ([6, 11], [6, 11])])
def puts16a.B : List Nat := [0, 1, 0, 4, 12, 31, 63, 127, 255, 127, 639, 2047, 4095]
theorem puts16a.tab : rtab .any (opsOf Try.f6 16) = puts16a.T := by kernel_rfl
theorem puts16a.bits : waitsOk puts16a.T.2 puts16a.B = true := by kernel_rfl
def puts16b.T : Bool × List (List Nat × List Nat) := (true, [([], []), ([0], [0]), ([], []), ([2], [2]), ([3], [3]), ([1, 4], [1, 4]), ([5, 3], [5]), ([6], [6]), ([7, 6, 6], [6, 7]), ([6], [6]), ([9, 6], [6, 9]), ([8, 10, 6], [6, 8, 10]), ([6, 11], [6, 11])])
def puts16b.B : List Nat := [0, 1, 0, 4, 12, 31, 63, 127, 255, 127, 639, 2047, 4095]
theorem puts16b.tab : rtab .any (opsOf Try.f6 16) = puts16b.T := by kernel_rfl
theorem puts16b.bits : waitsOk puts16b.T.2 puts16b.B = true := by kernel_rfl
set_option maxRecDepth 100000 in
set_option maxHeartbeats 4000000 in
theorem putsl_calls (A0 : Option Addr) (c0 : Nat) (l0 : List (Int × Int)) (w : World) (hr0 : kNum.C w A0 l0.length l0) (hc0 : l0.length ≤ c0)
    (hw0 : ∀ x ∈ l0, (-9223372036854775808 ≤ x.1 ∧ x.1 ≤ 9223372036854775807) ∧ (-9223372036854775808 ≤ x.2 ∧ x.2 ≤ 9223372036854775807)) :
    Calls Try.prog 6 #[.slice A0 l0.length c0] w fun e w' => e = .returned (.bool true) ∧ Below w.heap.size w w' := by
  have HR0 := Aside0.mk hr0
  have HW0 := Aside0.mk hw0
  clear hr0 hw0
  have HB := Aside0.mk (Below.refl w.heap.size w)
  go_enter Try.func6, Try.ntmps6
  go_wp2_with (go_at_call 14; refine (puts_calls _).mono ?_; rintro e w1 ⟨rfl, hb⟩; have n0 := Aside0.mk (below_step HB.out hb); clear HB hb; have HB := n0; clear n0)
  go_wp2_with (go_at_call 13; refine (bitioPut_nil 1 1 _).mono ?_; rintro e w2 ⟨rfl, hb⟩; have n0 := Aside0.mk (below_step HB.out hb); clear HB hb; have HB := n0; clear n0)
  go_wp2_with (go_at_call 15; refine (bitioBytes_nil _).mono ?_; rintro e w3 ⟨rfl, hb⟩; have n0 := Aside0.mk (below_step HB.out hb); clear HB hb; have HB := n0; clear n0)
  go_wp2_with (go_at_call 16; refine (bitioLen_nil _).mono ?_; rintro e w4 ⟨rfl, hb⟩; have n0 := Aside0.mk (below_step HB.out hb); clear HB hb; have HB := n0; clear n0)
  have hz := PS.mk (w0 := w) (w := w4.alloc (.cells #[.slice none 0 0] 37)) (g := w4.heap.size) (vW := .slice none 0 0) (v5 := .slice none 0 0) (v6 := .slice none 0 0) (xs := []) (ys := []) (ins := [])
    ⟨Boxed.new w4 37 _, HB.out.size, rfl, .inl ⟨rfl, rfl⟩⟩ (Kd.R_nil _ _ _ _ _) (Kd.R_nil _ _ _ _ _) (HB.out.alloc HB.out.size _)
  obtain ⟨g, hg⟩ : ∃ g, g = w4.heap.size := ⟨_, rfl⟩
  rw [← hg] at hz ⊢
  have HZ := Aside0.mk hz
  clear hz hg
  go_loopw [5, 6, 7] (fun v5 v6 v7 wr => ∃ (i : Nat) (ins : List (Int × Int)) (vW : Value), v7 = .int .i64 (i : Int) ∧ i ≤ 20 ∧ Aside0 (ins.length ≤ i ∧ ∀ p ∈ ins, putE p.1 p.2 = 0 ∧ -9223372036854775808 ≤ p.1 ∧ p.1 ≤ 9223372036854775807) ∧ Aside0 (PS w wr g vW v5 v6 (ins.flatMap fun p => putL p.1 p.2) (ins.flatMap fun p => putL p.1 p.2) ins)) (fun _ _ v7 _ => 20 - (intOf v7).toNat)
  case atStart => exact ⟨0, [], .slice none 0 0, by simp, by omega, ⟨by simp, by simp⟩, HZ⟩
  case round =>
    clear HZ HB
    obtain ⟨i, ins, vW, rfl, hi20, HI, HP⟩ := hrel
    by_cases h1 : (i : Int) < (l0.length : Int)
    · have h1b : decide ((i : Int) < (l0.length : Int)) = true := decide_eq_true h1
      by_cases h2 : i < 20
      · have h2b : decide ((i : Int) < 20) = true := decide_eq_true (by omega)
        obtain ⟨n, hn⟩ : ∃ n, n = (l0[i]'(by omega)).1 := ⟨_, rfl⟩
        obtain ⟨wd, hwd⟩ : ∃ wd, wd = (l0[i]'(by omega)).2 := ⟨_, rfl⟩
        obtain ⟨ad, rfl, hx, hy⟩ := puts_at (Kd.C_below HR0.out HP.out.bel) i (by omega)
        have hS : ∀ w', Below w.heap.size w w' → w'.cell? (ad.add (i * 2)) = some (.int .i64 n) ∧ w'.cell? { block := (ad.add (i * 2)).block, off := (ad.add (i * 2)).off + 1 } = some (.int .i64 wd) := by
          intro w' hb
          obtain ⟨ad2, e2, hx2, hy2⟩ := puts_at (Kd.C_below HR0.out hb) i (by omega)
          obtain rfl : ad = ad2 := by injection e2
          rw [hn, hwd]; exact ⟨hx2, hy2⟩
        have HS := Aside0.mk hS
        have hnb := (HW0.out _ (List.getElem_mem (show i < l0.length by omega))).1
        rw [← hn] at hnb
        have HNB := Aside0.mk hnb
        clear hx hy hS hn hwd hnb
        have n0 := Aside0.mk (HP.out.below (below_drew1 (Below.refl wr.heap.size wr)))
        clear HP
        have HP := n0
        clear n0
        obtain ⟨xs, hxs⟩ : ∃ xs, xs = ins.flatMap fun p => putL p.1 p.2 := ⟨_, rfl⟩
        rw [← hxs] at HP
        have HXS := Aside0.mk hxs
        clear hxs
        obtain ⟨bs, hbs⟩ : ∃ bs, bs = putL n wd := ⟨_, rfl⟩
        obtain ⟨te, hte⟩ : ∃ te, te = putE n wd := ⟨_, rfl⟩
        have hpf := rput_f n wd HNB.out
        rw [← hbs, ← hte] at hpf
        have HBS := Aside0.mk hbs
        have HTE := Aside0.mk hte
        have HPF := Aside0.mk hpf
        clear hbs hte hpf
        go_wp2_with fail
        refine start_ (n := 16) (S := (fun w' => w'.cell? (ad.add (i * 2)) = some (.int .i64 n) ∧ w'.cell? { block := (ad.add (i * 2)).block, off := (ad.add (i * 2)).off + 1 } = some (.int .i64 wd))) (ds := []) #[false, false, false, false, false, false, false, false, false, false, false, false, false, false, false, false] (by kernel_rfl) rfl rfl (HS.out _ HP.out.bel) (fun hHeld => ?_)
        refine with_tabW puts10.tab puts10.bits (fun HT_ HW_ => ?_)
        refine pure_ (i := 0) (N := some 46) (v := ?_) (a' := ?_) #[true, false, false, false, false, false, false, false, false, false, false, false, false, false, false, false] rfl rfl (any_of HT_.out (by kernel_rfl)) (fun _ _ _ h => h) (Or.inl ⟨by rfl, ?_⟩) ?_ ?_
        rotate_left
        · intro w'
          go_simp
          with_reducible rfl
        rotate_left
        · simp only [Act.put, List.setIfInBounds_toArray, List.set_cons_zero, List.set_cons_succ, i64_w, i32_w]
          rfl
        refine pure_ (i := 1) (N := some 47) (v := ?_) (a' := ?_) #[true, true, false, false, false, false, false, false, false, false, false, false, false, false, false, false] rfl rfl (any_of HT_.out (by kernel_rfl)) (fun _ _ _ h => h) (Or.inl ⟨by rfl, ?_⟩) ?_ ?_
        rotate_left
        · intro w'
          go_simp
          with_reducible rfl
        rotate_left
        · simp only [Act.put, List.setIfInBounds_toArray, List.set_cons_zero, List.set_cons_succ, i64_w, i32_w]
          rfl
        refine pure_ (i := 2) (N := some 48) (v := ?_) (a' := ?_) #[true, true, true, false, false, false, false, false, false, false, false, false, false, false, false, false] rfl rfl (any_of HT_.out (by kernel_rfl)) (fun _ _ _ h => h) (Or.inl ⟨by rfl, ?_⟩) ?_ ?_
        rotate_left
        · intro w'
          go_simp
          with_reducible rfl
        rotate_left
        · simp only [Act.put, List.setIfInBounds_toArray, List.set_cons_zero, List.set_cons_succ, i64_w, i32_w]
          rfl
        refine pure_ (i := 3) (N := some 49) (v := ?_) (a' := ?_) #[true, true, true, true, false, false, false, false, false, false, false, false, false, false, false, false] rfl rfl (any_of HT_.out (by kernel_rfl)) (fun _ _ _ h => h) (Or.inl ⟨by rfl, ?_⟩) ?_ ?_
        rotate_left
        · intro w'
          go_simp
          with_reducible rfl
        rotate_left
        · simp only [Act.put, List.setIfInBounds_toArray, List.set_cons_zero, List.set_cons_succ, i64_w, i32_w]
          rfl
        refine take_ (i := 4) (N := some 50) (v := ?_) (a' := ?_) #[true, true, true, true, true, false, false, false, false, false, false, false, false, false, false, false] rfl rfl (take_ofW HT_.out HW_.out (by kernel_rfl)) (fun _ _ _ h => h) (Or.inl ⟨by rfl, ?_⟩) hHeld ?_ ?_
        rotate_left
        · rintro w' ⟨s0, s1⟩
          go_simp
          with_reducible rfl
        rotate_left
        · simp only [Act.put, List.setIfInBounds_toArray, List.set_cons_zero, List.set_cons_succ, i64_w, i32_w]
          rfl
        refine pure_ (i := 5) (N := some 51) (v := ?_) (a' := ?_) #[true, true, true, true, true, true, false, false, false, false, false, false, false, false, false, false] rfl rfl (any_of HT_.out (by kernel_rfl)) (fun _ _ _ h => h) (Or.inl ⟨by rfl, ?_⟩) ?_ ?_
        rotate_left
        · intro w'
          go_simp
          with_reducible rfl
        rotate_left
        · simp only [Act.put, List.setIfInBounds_toArray, List.set_cons_zero, List.set_cons_succ, i64_w, i32_w]
          rfl
        refine pure_ (i := 6) (N := some 52) (v := ?_) (a' := ?_) #[true, true, true, true, true, true, true, false, false, false, false, false, false, false, false, false] rfl rfl (any_of HT_.out (by kernel_rfl)) (fun _ _ _ h => h) (Or.inl ⟨by rfl, ?_⟩) ?_ ?_
        rotate_left
        · intro w'
          go_simp
          with_reducible rfl
        rotate_left
        · simp only [Act.put, List.setIfInBounds_toArray, List.set_cons_zero, List.set_cons_succ, i64_w, i32_w]
          rfl
        refine pure_ (i := 7) (N := some 53) (v := ?_) (a' := ?_) #[true, true, true, true, true, true, true, true, false, false, false, false, false, false, false, false] rfl rfl (any_of HT_.out (by kernel_rfl)) (fun _ _ _ h => h) (Or.inl ⟨by rfl, ?_⟩) ?_ ?_
        rotate_left
        · intro w'
          go_simp
          with_reducible rfl
        rotate_left
        · simp only [Act.put, List.setIfInBounds_toArray, List.set_cons_zero, List.set_cons_succ, i64_w, i32_w]
          rfl
        refine pure_ (i := 8) (N := some 54) (v := ?_) (a' := ?_) #[true, true, true, true, true, true, true, true, true, false, false, false, false, false, false, false] rfl rfl (any_of HT_.out (by kernel_rfl)) (fun _ _ _ h => h) (Or.inl ⟨by rfl, ?_⟩) ?_ ?_
        rotate_left
        · intro w'
          go_simp
          with_reducible rfl
        rotate_left
        · simp only [Act.put, List.setIfInBounds_toArray, List.set_cons_zero, List.set_cons_succ, i64_w, i32_w]
          rfl
        refine take_ (i := 9) (N := some 55) (v := ?_) (a' := ?_) #[true, true, true, true, true, true, true, true, true, true, false, false, false, false, false, false] rfl rfl (take_ofW HT_.out HW_.out (by kernel_rfl)) (fun _ _ _ h => h) (Or.inl ⟨by rfl, ?_⟩) hHeld ?_ ?_
        rotate_left
        · rintro w' ⟨s0, s1⟩
          go_simp
          with_reducible rfl
        rotate_left
        · simp only [Act.put, List.setIfInBounds_toArray, List.set_cons_zero, List.set_cons_succ, i64_w, i32_w]
          rfl
        refine one_ (i := 10) (N := some 56) #[true, true, true, true, true, true, true, true, true, true, true, false, false, false, false, false] rfl rfl (one_of HT_.out (by kernel_rfl)) (by decide) (fun K hK => ?_)
        refine goes_ Try.func17 (by kernel_rfl) rfl #[.int .i64 n, .int .i64 wd] (by rfl) rfl rfl (by (try simp only [List.map_toArray, List.map_cons, List.map_nil]); first | done | rfl | (go_simp; done) | simp [Act.eval]) ?_
        refine (shuttleref02_Put.calls 100 n wd bs te _ HPF.out).mono ?_
        rintro e w5 ⟨v8, rfl, h8, hb⟩
        have H8 := Aside0.mk (HP.out.new8 h8 hb)
        have HLW := Aside0.mk (fun b hb' => (HP.out.ws.row.lt b hb').2)
        have HLG := Aside0.mk HP.out.ws.lt
        have n0 := Aside0.mk (HP.out.below hb)
        clear HP h8
        have HP := n0
        clear n0
        refine ⟨_, rfl, ?_⟩
        refine hK.out _ _ (HS.out _ HP.out.bel) (fun hHeld => ?_)
        clear hK K
        refine norm_ (a' := ?_) ?_ ?_
        rotate_left
        · show Act.put _ (some 56) _ = _
          simp only [Act.put, List.setIfInBounds_toArray, List.set_cons_zero, List.set_cons_succ, i64_w, i32_w]
          rfl
        refine pure_ (i := 11) (N := some 45) (v := ?_) (a' := ?_) #[true, true, true, true, true, true, true, true, true, true, true, true, false, false, false, false] rfl rfl (any_of HT_.out (by kernel_rfl)) (fun _ _ _ h => h) (Or.inl ⟨by rfl, ?_⟩) ?_ ?_
        rotate_left
        · intro w'
          go_simp
          with_reducible rfl
        rotate_left
        · simp only [Act.put, List.setIfInBounds_toArray, List.set_cons_zero, List.set_cons_succ, i64_w, i32_w]
          rfl
        refine pure_ (i := 12) (N := some 57) (v := ?_) (a' := ?_) #[true, true, true, true, true, true, true, true, true, true, true, true, true, false, false, false] rfl rfl (any_of HT_.out (by kernel_rfl)) (fun _ _ _ h => h) (Or.inl ⟨by rfl, ?_⟩) ?_ ?_
        rotate_left
        · intro w'
          go_simp
          with_reducible rfl
        rotate_left
        · simp only [Act.put, List.setIfInBounds_toArray, List.set_cons_zero, List.set_cons_succ, i64_w, i32_w]
          rfl
        refine pure_ (i := 13) (N := some 58) (v := ?_) (a' := ?_) #[true, true, true, true, true, true, true, true, true, true, true, true, true, true, false, false] rfl rfl (any_of HT_.out (by kernel_rfl)) (fun _ _ _ h => h) (Or.inl ⟨by rfl, ?_⟩) ?_ ?_
        rotate_left
        · intro w'
          go_simp
          with_reducible rfl
        rotate_left
        · simp only [Act.put, List.setIfInBounds_toArray, List.set_cons_zero, List.set_cons_succ, i64_w, i32_w]
          rfl
        refine pure_ (i := 14) (N := some 8) (v := ?_) (a' := ?_) #[true, true, true, true, true, true, true, true, true, true, true, true, true, true, true, false] rfl rfl (any_of HT_.out (by kernel_rfl)) (fun _ _ _ h => h) (Or.inl ⟨by rfl, ?_⟩) ?_ ?_
        rotate_left
        · intro w'
          go_simp
          with_reducible rfl
        rotate_left
        · simp only [Act.put, List.setIfInBounds_toArray, List.set_cons_zero, List.set_cons_succ, i64_w, i32_w]
          rfl
        refine pure_ (i := 15) (N := some 9) (v := ?_) (a' := ?_) #[true, true, true, true, true, true, true, true, true, true, true, true, true, true, true, true] rfl rfl (any_of HT_.out (by kernel_rfl)) (fun _ _ _ h => h) (Or.inl ⟨by rfl, ?_⟩) ?_ ?_
        rotate_left
        · intro w'
          go_simp
          with_reducible rfl
        rotate_left
        · simp only [Act.put, List.setIfInBounds_toArray, List.set_cons_zero, List.set_cons_succ, i64_w, i32_w]
          rfl
        refine done_ (done_of HT_.out (by kernel_rfl)) ?_
        clear hb HT_ HW_ hHeld
        go_wp2_with fail
        have n0 := Aside0.mk (HP.out.below (below_drew1 (Below.refl w5.heap.size w5)))
        have n1 := Aside0.mk (Kd.R_drew H8.out)
        clear HP H8 HPF
        have HP := n0
        have H8 := n1
        clear n0 n1
        have hlen : Aside0 (xs.length ≤ 1000000) := ⟨by
          rw [HXS.out, List.length_flatMap]
          have hb : ∀ (q : List (Int × Int)), (q.map fun p => (putL p.1 p.2).length).sum ≤ 32 * q.length := by
            intro q
            induction q with
            | nil => simp
            | cons a q ih => rw [List.map_cons, List.sum_cons, List.length_cons]; have := putL_len32 a.1 a.2; omega
          have := hb ins
          have := HI.out.1
          omega⟩
        refine start_ (n := 14) (S := (fun w' => w'.cell? (ad.add (i * 2)) = some (.int .i64 n) ∧ w'.cell? { block := (ad.add (i * 2)).block, off := (ad.add (i * 2)).off + 1 } = some (.int .i64 wd))) (ds := []) #[false, false, false, false, false, false, false, false, false, false, false, false, false, false] (by kernel_rfl) rfl rfl (HS.out _ HP.out.bel) (fun hHeld => ?_)
        refine with_tabW puts11.tab puts11.bits (fun HT_ HW_ => ?_)
        refine pure_ (i := 0) (N := some 59) (v := ?_) (a' := ?_) #[true, false, false, false, false, false, false, false, false, false, false, false, false, false] rfl rfl (any_of HT_.out (by kernel_rfl)) (fun _ _ _ h => h) (Or.inl ⟨by rfl, ?_⟩) ?_ ?_
        rotate_left
        · intro w'
          go_simp
          with_reducible rfl
        rotate_left
        · simp only [Act.put, List.setIfInBounds_toArray, List.set_cons_zero, List.set_cons_succ, i64_w, i32_w]
          rfl
        refine pure_ (i := 1) (N := some 60) (v := ?_) (a' := ?_) #[true, true, false, false, false, false, false, false, false, false, false, false, false, false] rfl rfl (any_of HT_.out (by kernel_rfl)) (fun _ _ _ h => h) (Or.inl ⟨by rfl, ?_⟩) ?_ ?_
        rotate_left
        · intro w'
          go_simp
          with_reducible rfl
        rotate_left
        · simp only [Act.put, List.setIfInBounds_toArray, List.set_cons_zero, List.set_cons_succ, i64_w, i32_w]
          rfl
        refine pure_ (i := 2) (N := some 61) (v := ?_) (a' := ?_) #[true, true, true, false, false, false, false, false, false, false, false, false, false, false] rfl rfl (any_of HT_.out (by kernel_rfl)) (fun _ _ _ h => h) (Or.inl ⟨by rfl, ?_⟩) ?_ ?_
        rotate_left
        · intro w'
          go_simp
          with_reducible rfl
        rotate_left
        · simp only [Act.put, List.setIfInBounds_toArray, List.set_cons_zero, List.set_cons_succ, i64_w, i32_w]
          rfl
        refine pure_ (i := 3) (N := some 62) (v := ?_) (a' := ?_) #[true, true, true, true, false, false, false, false, false, false, false, false, false, false] rfl rfl (any_of HT_.out (by kernel_rfl)) (fun _ _ _ h => h) (Or.inl ⟨by rfl, ?_⟩) ?_ ?_
        rotate_left
        · intro w'
          go_simp
          with_reducible rfl
        rotate_left
        · simp only [Act.put, List.setIfInBounds_toArray, List.set_cons_zero, List.set_cons_succ, i64_w, i32_w]
          rfl
        refine pure_ (i := 4) (N := some 63) (v := ?_) (a' := ?_) #[true, true, true, true, true, false, false, false, false, false, false, false, false, false] rfl rfl (any_of HT_.out (by kernel_rfl)) (fun _ _ _ h => h) (Or.inl ⟨by rfl, ?_⟩) ?_ ?_
        rotate_left
        · intro w'
          go_simp
          with_reducible rfl
        rotate_left
        · simp only [Act.put, List.setIfInBounds_toArray, List.set_cons_zero, List.set_cons_succ, i64_w, i32_w]
          rfl
        refine take_ (i := 5) (N := some 64) (v := ?_) (a' := ?_) #[true, true, true, true, true, true, false, false, false, false, false, false, false, false] rfl rfl (take_ofW HT_.out HW_.out (by kernel_rfl)) (fun _ _ _ h => h) (Or.inl ⟨by rfl, ?_⟩) hHeld ?_ ?_
        rotate_left
        · rintro w' ⟨s0, s1⟩
          go_simp
          with_reducible rfl
        rotate_left
        · simp only [Act.put, List.setIfInBounds_toArray, List.set_cons_zero, List.set_cons_succ, i64_w, i32_w]
          rfl
        refine pure_ (i := 6) (N := some 65) (v := ?_) (a' := ?_) #[true, true, true, true, true, true, true, false, false, false, false, false, false, false] rfl rfl (any_of HT_.out (by kernel_rfl)) (fun _ _ _ h => h) (Or.inl ⟨by rfl, ?_⟩) ?_ ?_
        rotate_left
        · intro w'
          go_simp
          with_reducible rfl
        rotate_left
        · simp only [Act.put, List.setIfInBounds_toArray, List.set_cons_zero, List.set_cons_succ, i64_w, i32_w]
          rfl
        refine pure_ (i := 7) (N := some 66) (v := ?_) (a' := ?_) #[true, true, true, true, true, true, true, true, false, false, false, false, false, false] rfl rfl (any_of HT_.out (by kernel_rfl)) (fun _ _ _ h => h) (Or.inl ⟨by rfl, ?_⟩) ?_ ?_
        rotate_left
        · intro w'
          go_simp
          with_reducible rfl
        rotate_left
        · simp only [Act.put, List.setIfInBounds_toArray, List.set_cons_zero, List.set_cons_succ, i64_w, i32_w]
          rfl
        refine pure_ (i := 8) (N := some 67) (v := ?_) (a' := ?_) #[true, true, true, true, true, true, true, true, true, false, false, false, false, false] rfl rfl (any_of HT_.out (by kernel_rfl)) (fun _ _ _ h => h) (Or.inl ⟨by rfl, ?_⟩) ?_ ?_
        rotate_left
        · intro w'
          go_simp
          with_reducible rfl
        rotate_left
        · simp only [Act.put, List.setIfInBounds_toArray, List.set_cons_zero, List.set_cons_succ, i64_w, i32_w]
          rfl
        refine pure_ (i := 9) (N := some 68) (v := ?_) (a' := ?_) #[true, true, true, true, true, true, true, true, true, true, false, false, false, false] rfl rfl (any_of HT_.out (by kernel_rfl)) (fun _ _ _ h => h) (Or.inl ⟨by rfl, ?_⟩) ?_ ?_
        rotate_left
        · intro w'
          go_simp
          with_reducible rfl
        rotate_left
        · simp only [Act.put, List.setIfInBounds_toArray, List.set_cons_zero, List.set_cons_succ, i64_w, i32_w]
          rfl
        refine take_ (i := 10) (N := some 69) (v := ?_) (a' := ?_) #[true, true, true, true, true, true, true, true, true, true, true, false, false, false] rfl rfl (take_ofW HT_.out HW_.out (by kernel_rfl)) (fun _ _ _ h => h) (Or.inl ⟨by rfl, ?_⟩) hHeld ?_ ?_
        rotate_left
        · rintro w' ⟨s0, s1⟩
          go_simp
          with_reducible rfl
        rotate_left
        · simp only [Act.put, List.setIfInBounds_toArray, List.set_cons_zero, List.set_cons_succ, i64_w, i32_w]
          rfl
        refine pure_ (i := 12) (N := some 71) (v := ?_) (a' := ?_) #[true, true, true, true, true, true, true, true, true, true, true, false, true, false] rfl rfl (any_of HT_.out (by kernel_rfl)) (fun _ _ _ h => h) (Or.inl ⟨by rfl, ?_⟩) ?_ ?_
        rotate_left
        · intro w'
          go_simp
          with_reducible rfl
        rotate_left
        · simp only [Act.put, List.setIfInBounds_toArray, List.set_cons_zero, List.set_cons_succ, i64_w, i32_w]
          rfl
        refine one_ (i := 11) (N := some 70) #[true, true, true, true, true, true, true, true, true, true, true, true, true, false] rfl rfl (one_of HT_.out (by kernel_rfl)) (by decide) (fun K hK => ?_)
        refine goes_ Try.func13 (by kernel_rfl) rfl #[.pointer (some ⟨g, 0, none⟩), .int .i64 n, .int .i64 wd] (by rfl) rfl rfl (by (try simp only [List.map_toArray, List.map_cons, List.map_nil]); first | done | rfl | (go_simp; done) | simp [Act.eval]) ?_
        have hc := bitioPut_calls _ _ _ _ n wd _ HP.out.ws hlen.out
        rw [← HTE.out, ← HBS.out] at hc
        refine hc.mono ?_
        rintro e w6 ⟨rfl, vW2, hw, hf, hn⟩
        clear hc
        have n1 := Aside0.mk (row8_put H8.out hf HLG.out HLW.out)
        have n0 := Aside0.mk (HP.out.put hw hf hn)
        clear HP H8 hw hf hn
        have HP := n0
        have H8 := n1
        clear n0 n1
        refine ⟨_, rfl, ?_⟩
        refine hK.out _ _ (HS.out _ HP.out.bel) (fun hHeld => ?_)
        clear hK K
        refine norm_ (a' := ?_) ?_ ?_
        rotate_left
        · show Act.put _ (some 70) _ = _
          simp only [Act.put, List.setIfInBounds_toArray, List.set_cons_zero, List.set_cons_succ, i64_w, i32_w]
          rfl
        refine pure_ (i := 13) (N := some 72) (v := ?_) (a' := ?_) #[true, true, true, true, true, true, true, true, true, true, true, true, true, true] rfl rfl (any_of HT_.out (by kernel_rfl)) (fun _ _ _ h => h) (Or.inl ⟨by rfl, ?_⟩) ?_ ?_
        rotate_left
        · intro w'
          go_simp
          with_reducible rfl
        rotate_left
        · simp only [Act.put, List.setIfInBounds_toArray, List.set_cons_zero, List.set_cons_succ, i64_w, i32_w]
          rfl
        refine done_ (done_of HT_.out (by kernel_rfl)) ?_
        clear HLW HLG
        by_cases h0 : te = 0
        · have h0b : (te == 0) = true := by simpa using h0
          have hq : putE n wd = 0 := by rw [← HTE.out]; exact h0
          have HQ := Aside0.mk hq
          clear hq
          go_wp2_with fail
          obtain ⟨A8, c8, e8⟩ := Kd.R_slice H8.out
          subst e8
          have n0 := Aside0.mk (HP.out.below (below_drew1 (Below.refl w6.heap.size w6)))
          have n1 := Aside0.mk (Kd.R_drew H8.out)
          clear HP H8
          have HP := n0
          have H8 := n1
          clear n0 n1
          have hbl : bs.length ≤ 32 := by rw [HBS.out]; exact putL_len32 n wd
          have hil := HI.out.1
          have hxl := hlen.out
          refine start_ (n := 12) (S := (fun w' => w'.cell? (ad.add (i * 2)) = some (.int .i64 n) ∧ w'.cell? { block := (ad.add (i * 2)).block, off := (ad.add (i * 2)).off + 1 } = some (.int .i64 wd))) (ds := []) #[false, false, false, false, false, false, false, false, false, false, false, false] (by kernel_rfl) rfl rfl (HS.out _ HP.out.bel) (fun hHeld => ?_)
          refine with_tabW puts14.tab puts14.bits (fun HT_ HW_ => ?_)
          refine pure_ (i := 0) (N := some 75) (v := ?_) (a' := ?_) #[true, false, false, false, false, false, false, false, false, false, false, false] rfl rfl (any_of HT_.out (by kernel_rfl)) (fun _ _ _ h => h) (Or.inl ⟨by rfl, ?_⟩) ?_ ?_
          rotate_left
          · intro w'
            go_simp
            with_reducible rfl
          rotate_left
          · simp only [Act.put, List.setIfInBounds_toArray, List.set_cons_zero, List.set_cons_succ, i64_w, i32_w]
            rfl
          refine pure_ (i := 1) (N := some 76) (v := ?_) (a' := ?_) #[true, true, false, false, false, false, false, false, false, false, false, false] rfl rfl (any_of HT_.out (by kernel_rfl)) (fun _ _ _ h => h) (Or.inl ⟨by rfl, ?_⟩) ?_ ?_
          rotate_left
          · intro w'
            go_simp
            with_reducible rfl
          rotate_left
          · simp only [Act.put, List.setIfInBounds_toArray, List.set_cons_zero, List.set_cons_succ, i64_w, i32_w]
            rfl
          refine pure_ (i := 3) (N := some 78) (v := ?_) (a' := ?_) #[true, true, false, true, false, false, false, false, false, false, false, false] rfl rfl (any_of HT_.out (by kernel_rfl)) (fun _ _ _ h => h) (Or.inl ⟨by rfl, ?_⟩) ?_ ?_
          rotate_left
          · intro w'
            go_simp
            with_reducible rfl
          rotate_left
          · simp only [Act.put, List.setIfInBounds_toArray, List.set_cons_zero, List.set_cons_succ, i64_w, i32_w]
            rfl
          refine pure_ (i := 4) (N := some 79) (v := ?_) (a' := ?_) #[true, true, false, true, true, false, false, false, false, false, false, false] rfl rfl (any_of HT_.out (by kernel_rfl)) (fun _ _ _ h => h) (Or.inl ⟨by rfl, ?_⟩) ?_ ?_
          rotate_left
          · intro w'
            go_simp
            with_reducible rfl
          rotate_left
          · simp only [Act.put, List.setIfInBounds_toArray, List.set_cons_zero, List.set_cons_succ, i64_w, i32_w]
            rfl
          refine pure_ (i := 5) (N := some 80) (v := ?_) (a' := ?_) #[true, true, false, true, true, true, false, false, false, false, false, false] rfl rfl (any_of HT_.out (by kernel_rfl)) (fun _ _ _ h => h) (Or.inl ⟨by rfl, ?_⟩) ?_ ?_
          rotate_left
          · intro w'
            go_simp
            with_reducible rfl
          rotate_left
          · simp only [Act.put, List.setIfInBounds_toArray, List.set_cons_zero, List.set_cons_succ, i64_w, i32_w]
            rfl
          refine pure_ (i := 6) (N := some 81) (v := ?_) (a' := ?_) #[true, true, false, true, true, true, true, false, false, false, false, false] rfl rfl (any_of HT_.out (by kernel_rfl)) (fun _ _ _ h => h) (Or.inl ⟨by rfl, ?_⟩) ?_ ?_
          rotate_left
          · intro w'
            go_simp
            with_reducible rfl
          rotate_left
          · simp only [Act.put, List.setIfInBounds_toArray, List.set_cons_zero, List.set_cons_succ, i64_w, i32_w]
            rfl
          refine take_ (i := 7) (N := some 82) (v := ?_) (a' := ?_) #[true, true, false, true, true, true, true, true, false, false, false, false] rfl rfl (take_ofW HT_.out HW_.out (by kernel_rfl)) (fun _ _ _ h => h) (Or.inl ⟨by rfl, ?_⟩) hHeld ?_ ?_
          rotate_left
          · rintro w' ⟨s0, s1⟩
            go_simp
            with_reducible rfl
          rotate_left
          · simp only [Act.put, List.setIfInBounds_toArray, List.set_cons_zero, List.set_cons_succ, i64_w, i32_w]
            rfl
          refine two_ (i := 2) (j := 8) (Ni := some 77) (Nj := some 83) #[true, true, true, true, true, true, true, true, false, false, false, false] #[true, true, false, true, true, true, true, true, true, false, false, false] rfl rfl rfl rfl (two_of HT_.out (by kernel_rfl)) (by decide) (by decide) (fun K hK => ?_) (fun K hK => ?_)
          · skip
            refine Kd.R_append_rows_step (Kd.int .u8) (w0 := w) w.heap.size (by rfl) (.tmp 75) (.tmp 76) 22 5 (.int .u8 0) 1 rfl Try.underlying22 u8_info4 rfl (by decide) (by omega) u5 xs bs A8 bs.length c8 (fun k => k ≠ g ∧ some k ≠ vW2.ownBlock) (fun _ => False) (by first | rfl | (go_simp; done)) (by first | rfl | (go_simp; done)) HP.out.all (Kd.R_reads' H8.out).2.2 (fun _ _ h => h) (fun _ h => h.elim) (fun k hk => ⟨by have := HP.out.ws.lt; omega, fun e => by have := (HP.out.ws.row.lt k e.symm).2; omega⟩) HP.out.bel HP.out.bel.size (by omega) ?_
            intro v5n w8 ho hb hg8 hat
            (try (have n3 := Aside0.mk (Kd.R_over' H9.out (Kd.R_typed HP.out.all) (by intro q hq; simp [kNum] at hq; omega) hg8); clear H9; have H9 := n3; clear n3))
            have n0 := Aside0.mk (HP.out.grew5 ho hb hg8)
            clear HP ho hb hg8 hat
            have HP := n0
            clear n0
            refine hK.out _ _ (HS.out _ HP.out.bel) (fun hHeld => ?_)
            clear hK K
            refine norm_ (a' := ?_) ?_ ?_
            rotate_left
            · show Act.put _ (some 77) _ = _
              simp only [Act.put, List.setIfInBounds_toArray, List.set_cons_zero, List.set_cons_succ, i64_w, i32_w]
              rfl
            refine one_ (i := 8) (N := some 83) #[true, true, true, true, true, true, true, true, true, false, false, false] rfl rfl (one_of HT_.out (by kernel_rfl)) (by decide) (fun K hK => ?_)
            refine Kd.R_lit_step kNum (w0 := w) w.heap.size 45 (by rfl) (N := 83) rfl (xs := [(n, wd)]) (inner := [.int .i64 n, .int .i64 wd]) (ok := fun _ => True) (okp := fun _ => True) (by first | (go_simp; done) | (go_simp; rfl)) ⟨rfl, by intro j p hj; cases j with | zero => (injection hj with hj; subst hj; rfl) | succ j => cases hj⟩ (fun _ hk => hk) trivial HP.out.bel HP.out.bel.size (by simp) ?_
            intro v9 w9 ho9 hb9 hg9 hnew9
            have H9 := Aside0.mk ho9
            have hbn : Below _ _ w9 := ⟨hg9.os, hg9.tape, hg9.output, hg9.size, fun k hk => hg9.block k hk (by simp)⟩
            have n0 := Aside0.mk (HP.out.below hbn)
            (try (have n1 := Aside0.mk (Kd.R_below H8.out hbn); clear H8; have H8 := n1; clear n1))
            clear HP ho9 hb9 hg9 hnew9 hbn
            have HP := n0
            clear n0
            obtain ⟨A9, c9, e9⟩ := Kd.R_slice H9.out
            subst e9
            refine hK.out _ _ (HS.out _ HP.out.bel) (fun hHeld => ?_)
            clear hK K
            refine norm_ (a' := ?_) ?_ ?_
            rotate_left
            · show Act.put _ (some 83) _ = _
              simp only [Act.put, List.setIfInBounds_toArray, List.set_cons_zero, List.set_cons_succ, i64_w, i32_w]
              rfl
            refine one_ (i := 9) (N := some 84) #[true, true, true, true, true, true, true, true, true, true, false, false] rfl rfl (one_of HT_.out (by kernel_rfl)) (by decide) (fun K hK => ?_)
            refine Kd.R_append_rows_step kNum (w0 := w) w.heap.size (by rfl) (.tmp 78) (.tmp 83) 42 45 (.agg #[.int .i64 0, .int .i64 0]) 16 rfl Try.underlying42 info45 rfl (by decide) (by omega) u6 ins [(n, wd)] A9 1 c9 (fun _ => True) (fun _ => False) (by first | rfl | (go_simp; done)) (by first | rfl | (go_simp; done)) HP.out.in_ (Kd.R_reads' H9.out).2.2 (fun _ _ h => h) (fun _ h => h.elim) (fun _ _ => trivial) HP.out.bel HP.out.bel.size (by omega) ?_
            intro v6n w10 ho hb hg8 hat
            have n0 := Aside0.mk (HP.out.grew6 ho hb hg8)
            clear HP ho hb hg8 hat
            have HP := n0
            clear n0
            refine hK.out _ _ (HS.out _ HP.out.bel) (fun hHeld => ?_)
            clear hK K
            refine norm_ (a' := ?_) ?_ ?_
            rotate_left
            · show Act.put _ (some 84) _ = _
              simp only [Act.put, List.setIfInBounds_toArray, List.set_cons_zero, List.set_cons_succ, i64_w, i32_w]
              rfl
            refine pure_ (i := 10) (N := some 5) (v := ?_) (a' := ?_) #[true, true, true, true, true, true, true, true, true, true, true, false] rfl rfl (any_of HT_.out (by kernel_rfl)) (fun _ _ _ h => h) (Or.inl ⟨by rfl, ?_⟩) ?_ ?_
            rotate_left
            · intro w'
              go_simp
              with_reducible rfl
            rotate_left
            · simp only [Act.put, List.setIfInBounds_toArray, List.set_cons_zero, List.set_cons_succ, i64_w, i32_w]
              rfl
            refine pure_ (i := 11) (N := some 6) (v := ?_) (a' := ?_) #[true, true, true, true, true, true, true, true, true, true, true, true] rfl rfl (any_of HT_.out (by kernel_rfl)) (fun _ _ _ h => h) (Or.inl ⟨by rfl, ?_⟩) ?_ ?_
            rotate_left
            · intro w'
              go_simp
              with_reducible rfl
            rotate_left
            · simp only [Act.put, List.setIfInBounds_toArray, List.set_cons_zero, List.set_cons_succ, i64_w, i32_w]
              rfl
            refine done_ (done_of HT_.out (by kernel_rfl)) ?_
            go_wp2
            go_roundw
            case rel =>
              have hfl : (ins ++ [(n, wd)]).flatMap (fun p => putL p.1 p.2) = xs ++ bs := by rw [List.flatMap_append, ← HXS.out, HBS.out]; simp
              refine ⟨i + 1, ins ++ [(n, wd)], vW2, by simp, by omega, ⟨by rw [List.length_append, List.length_singleton]; omega, ?_⟩, ⟨by rw [hfl]; exact HP.out⟩⟩
              intro p hp
              rcases List.mem_append.1 hp with q | q
              · exact HI.out.2 p q
              · obtain rfl := List.mem_singleton.1 q
                exact ⟨HQ.out, HNB.out⟩
            case measure => simp [intOf]; omega
          · skip
            refine Kd.R_lit_step kNum (w0 := w) w.heap.size 45 (by rfl) (N := 83) rfl (xs := [(n, wd)]) (inner := [.int .i64 n, .int .i64 wd]) (ok := fun _ => True) (okp := fun _ => True) (by first | (go_simp; done) | (go_simp; rfl)) ⟨rfl, by intro j p hj; cases j with | zero => (injection hj with hj; subst hj; rfl) | succ j => cases hj⟩ (fun _ hk => hk) trivial HP.out.bel HP.out.bel.size (by simp) ?_
            intro v9 w9 ho9 hb9 hg9 hnew9
            have H9 := Aside0.mk ho9
            have hbn : Below _ _ w9 := ⟨hg9.os, hg9.tape, hg9.output, hg9.size, fun k hk => hg9.block k hk (by simp)⟩
            have n0 := Aside0.mk (HP.out.below hbn)
            (try (have n1 := Aside0.mk (Kd.R_below H8.out hbn); clear H8; have H8 := n1; clear n1))
            clear HP ho9 hb9 hg9 hnew9 hbn
            have HP := n0
            clear n0
            obtain ⟨A9, c9, e9⟩ := Kd.R_slice H9.out
            subst e9
            refine hK.out _ _ (HS.out _ HP.out.bel) (fun hHeld => ?_)
            clear hK K
            refine norm_ (a' := ?_) ?_ ?_
            rotate_left
            · show Act.put _ (some 83) _ = _
              simp only [Act.put, List.setIfInBounds_toArray, List.set_cons_zero, List.set_cons_succ, i64_w, i32_w]
              rfl
            refine one_ (i := 2) (N := some 77) #[true, true, true, true, true, true, true, true, true, false, false, false] rfl rfl (one_of HT_.out (by kernel_rfl)) (by decide) (fun K hK => ?_)
            refine Kd.R_append_rows_step (Kd.int .u8) (w0 := w) w.heap.size (by rfl) (.tmp 75) (.tmp 76) 22 5 (.int .u8 0) 1 rfl Try.underlying22 u8_info4 rfl (by decide) (by omega) u5 xs bs A8 bs.length c8 (fun k => k ≠ g ∧ some k ≠ vW2.ownBlock) (fun _ => False) (by first | rfl | (go_simp; done)) (by first | rfl | (go_simp; done)) HP.out.all (Kd.R_reads' H8.out).2.2 (fun _ _ h => h) (fun _ h => h.elim) (fun k hk => ⟨by have := HP.out.ws.lt; omega, fun e => by have := (HP.out.ws.row.lt k e.symm).2; omega⟩) HP.out.bel HP.out.bel.size (by omega) ?_
            intro v5n w8 ho hb hg8 hat
            (try (have n3 := Aside0.mk (Kd.R_over' H9.out (Kd.R_typed HP.out.all) (by intro q hq; simp [kNum] at hq; omega) hg8); clear H9; have H9 := n3; clear n3))
            have n0 := Aside0.mk (HP.out.grew5 ho hb hg8)
            clear HP ho hb hg8 hat
            have HP := n0
            clear n0
            refine hK.out _ _ (HS.out _ HP.out.bel) (fun hHeld => ?_)
            clear hK K
            refine norm_ (a' := ?_) ?_ ?_
            rotate_left
            · show Act.put _ (some 77) _ = _
              simp only [Act.put, List.setIfInBounds_toArray, List.set_cons_zero, List.set_cons_succ, i64_w, i32_w]
              rfl
            refine one_ (i := 9) (N := some 84) #[true, true, true, true, true, true, true, true, true, true, false, false] rfl rfl (one_of HT_.out (by kernel_rfl)) (by decide) (fun K hK => ?_)
            refine Kd.R_append_rows_step kNum (w0 := w) w.heap.size (by rfl) (.tmp 78) (.tmp 83) 42 45 (.agg #[.int .i64 0, .int .i64 0]) 16 rfl Try.underlying42 info45 rfl (by decide) (by omega) u6 ins [(n, wd)] A9 1 c9 (fun _ => True) (fun _ => False) (by first | rfl | (go_simp; done)) (by first | rfl | (go_simp; done)) HP.out.in_ (Kd.R_reads' H9.out).2.2 (fun _ _ h => h) (fun _ h => h.elim) (fun _ _ => trivial) HP.out.bel HP.out.bel.size (by omega) ?_
            intro v6n w10 ho hb hg8 hat
            have n0 := Aside0.mk (HP.out.grew6 ho hb hg8)
            clear HP ho hb hg8 hat
            have HP := n0
            clear n0
            refine hK.out _ _ (HS.out _ HP.out.bel) (fun hHeld => ?_)
            clear hK K
            refine norm_ (a' := ?_) ?_ ?_
            rotate_left
            · show Act.put _ (some 84) _ = _
              simp only [Act.put, List.setIfInBounds_toArray, List.set_cons_zero, List.set_cons_succ, i64_w, i32_w]
              rfl
            refine pure_ (i := 10) (N := some 5) (v := ?_) (a' := ?_) #[true, true, true, true, true, true, true, true, true, true, true, false] rfl rfl (any_of HT_.out (by kernel_rfl)) (fun _ _ _ h => h) (Or.inl ⟨by rfl, ?_⟩) ?_ ?_
            rotate_left
            · intro w'
              go_simp
              with_reducible rfl
            rotate_left
            · simp only [Act.put, List.setIfInBounds_toArray, List.set_cons_zero, List.set_cons_succ, i64_w, i32_w]
              rfl
            refine pure_ (i := 11) (N := some 6) (v := ?_) (a' := ?_) #[true, true, true, true, true, true, true, true, true, true, true, true] rfl rfl (any_of HT_.out (by kernel_rfl)) (fun _ _ _ h => h) (Or.inl ⟨by rfl, ?_⟩) ?_ ?_
            rotate_left
            · intro w'
              go_simp
              with_reducible rfl
            rotate_left
            · simp only [Act.put, List.setIfInBounds_toArray, List.set_cons_zero, List.set_cons_succ, i64_w, i32_w]
              rfl
            refine done_ (done_of HT_.out (by kernel_rfl)) ?_
            go_wp2
            go_roundw
            case rel =>
              have hfl : (ins ++ [(n, wd)]).flatMap (fun p => putL p.1 p.2) = xs ++ bs := by rw [List.flatMap_append, ← HXS.out, HBS.out]; simp
              refine ⟨i + 1, ins ++ [(n, wd)], vW2, by simp, by omega, ⟨by rw [List.length_append, List.length_singleton]; omega, ?_⟩, ⟨by rw [hfl]; exact HP.out⟩⟩
              intro p hp
              rcases List.mem_append.1 hp with q | q
              · exact HI.out.2 p q
              · obtain rfl := List.mem_singleton.1 q
                exact ⟨HQ.out, HNB.out⟩
            case measure => simp [intOf]; omega
        · have h0b : (te == 0) = false := by simpa using h0
          have hb0 : bs = [] := by rw [HBS.out]; unfold putL; rw [← HTE.out, if_neg h0]
          rw [hb0, List.append_nil] at HP
          go_wp2
          go_roundw
          case rel => exact ⟨i + 1, ins, vW2, by simp, by omega, ⟨by have := HI.out.1; omega, HI.out.2⟩, ⟨by rw [← HXS.out]; exact HP.out⟩⟩
          case measure => simp [intOf]; omega
      · have h2b : decide ((i : Int) < 20) = false := decide_eq_false (by omega)
        go_wp2_with fail
        obtain ⟨xs, hxs⟩ : ∃ xs, xs = ins.flatMap fun p => putL p.1 p.2 := ⟨_, rfl⟩
        rw [← hxs] at HP
        have hbit : ∀ x ∈ xs, bit x := by
          rw [hxs]; intro x hx
          obtain ⟨p, hp, hx2⟩ := List.mem_flatMap.1 hx
          exact putL_bit _ _ (HI.out.2 p hp).2 x hx2
        have hxl : xs.length ≤ 640 := by
          rw [hxs, List.length_flatMap]
          have hb : ∀ (q : List (Int × Int)), (q.map fun p => (putL p.1 p.2).length).sum ≤ 32 * q.length := by
            intro q
            induction q with
            | nil => simp
            | cons a q ih => rw [List.map_cons, List.sum_cons, List.length_cons]; have := putL_len32 a.1 a.2; omega
          have := hb ins
          have := HI.out.1
          omega
        have hil : ins.length ≤ 20 := by have := HI.out.1; omega
        have HBF := Aside0.mk (bytes_some hbit (by omega) 1000 (by omega))
        have HRF := Aside0.mk (rbytes_f xs hbit (by omega) 10000 (by omega))
        have HOB := Aside0.mk (ofl_bytes xs hbit)
        have HB8 := Aside0.mk (bytes_in xs hbit ((xs.length + 7) / 8))
        have hBl : ((List.range ((xs.length + 7) / 8)).map (byte xs)).length ≤ 100 := by rw [List.length_map, List.length_range]; omega
        generalize (List.range ((xs.length + 7) / 8)).map (byte xs) = BS at HBF HRF HOB HB8 hBl
        have HBL := Aside0.mk hBl
        have HXS := Aside0.mk hxs
        have HBIT := Aside0.mk hbit
        clear hxs hbit hBl
        refine (bitioBytes_calls _ _ _ _ _ HP.out.ws 1000 BS 0 HBF.out).mono ?_
        rintro e w15 ⟨vb, rfl, hu, hB⟩
        obtain ⟨A10, c10, e10⟩ := Kd.R_slice hu
        subst e10
        have H10 := Aside0.mk hu
        have n0 := Aside0.mk (HP.out.below hB)
        clear HP hu hB
        have HP := n0
        clear n0
        obtain ⟨A5, c5, e5⟩ := Kd.R_slice HP.out.all
        subst e5
        obtain ⟨A6, c6, e6⟩ := Kd.R_slice HP.out.in_
        subst e6
        go_wp2_with fail
        have n0 := Aside0.mk (HP.out.below (below_drew1 (Below.refl w15.heap.size w15)))
        have n1 := Aside0.mk (Kd.R_drew H10.out)
        clear HP H10
        have HP := n0
        have H10 := n1
        clear n0 n1
        refine start_ (n := 13) (S := fun _ => True) (ds := []) #[false, false, false, false, false, false, false, false, false, false, false, false, false] (by kernel_rfl) rfl rfl trivial (fun hHeld => ?_)
        refine with_tabW puts16a.tab puts16a.bits (fun HT_ HW_ => ?_)
        refine pure_ (i := 0) (N := some 87) (v := ?_) (a' := ?_) #[true, false, false, false, false, false, false, false, false, false, false, false, false] rfl rfl (any_of HT_.out (by kernel_rfl)) (fun _ _ _ h => h) (Or.inl ⟨by rfl, ?_⟩) ?_ ?_
        rotate_left
        · intro w'
          go_simp
          with_reducible rfl
        rotate_left
        · simp only [Act.put, List.setIfInBounds_toArray, List.set_cons_zero, List.set_cons_succ, i64_w, i32_w]
          rfl
        refine pure_ (i := 2) (N := some 89) (v := ?_) (a' := ?_) #[true, false, true, false, false, false, false, false, false, false, false, false, false] rfl rfl (any_of HT_.out (by kernel_rfl)) (fun _ _ _ h => h) (Or.inl ⟨by rfl, ?_⟩) ?_ ?_
        rotate_left
        · intro w'
          go_simp
          with_reducible rfl
        rotate_left
        · simp only [Act.put, List.setIfInBounds_toArray, List.set_cons_zero, List.set_cons_succ, i64_w, i32_w]
          rfl
        refine two_ (i := 1) (j := 3) (Ni := some 88) (Nj := some 90) #[true, true, true, false, false, false, false, false, false, false, false, false, false] #[true, false, true, true, false, false, false, false, false, false, false, false, false] rfl rfl rfl rfl (two_of HT_.out (by kernel_rfl)) (by decide) (by decide) (fun K hK => ?_) (fun K hK => ?_)
        · skip
          have hcva := own_string (P := Try.prog) Try.underlying22 Try.underlying5 Try.underlying9 (Kd.own_of_R H10.out)
          refine value_ (w1 := ?_) (v := ?_) (by rfl) rfl ?_ ?_
          rotate_left 2
          · go_simp
            constructor
            · rfl
            · rfl
          refine hK.out _ _ trivial (fun hHeld => ?_)
          clear hK K
          refine norm_ (a' := ?_) ?_ ?_
          rotate_left
          · show Act.put _ (some 88) _ = _
            simp only [Act.put, List.setIfInBounds_toArray, List.set_cons_zero, List.set_cons_succ, i64_w, i32_w]
            rfl
          refine one_ (i := 3) (N := some 90) #[true, true, true, true, false, false, false, false, false, false, false, false, false] rfl rfl (one_of HT_.out (by kernel_rfl)) (by decide) (fun K hK => ?_)
          refine goes_ Try.func18 (by kernel_rfl) rfl #[.slice A5 xs.length c5] (by rfl) rfl rfl (by (try simp only [List.map_toArray, List.map_cons, List.map_nil]); first | done | rfl | (go_simp; done) | simp [Act.eval]) ?_
          refine (shuttleref01_Bytes.calls 10000 A5 c5 xs BS _ (Kd.R_reads' HP.out.all).2.2 (Kd.R_reads' HP.out.all).2.1 HRF.out).mono ?_
          rintro e w16 ⟨v18, rfl, h18, hb⟩
          have H18 := Aside0.mk h18
          have n0 := Aside0.mk (HP.out.below hb)
          have n1 := Aside0.mk (Kd.R_below H10.out hb)
          clear HP H10 h18 hb
          have HP := n0
          have H10 := n1
          clear n0 n1
          refine ⟨_, rfl, ?_⟩
          refine hK.out _ _ trivial (fun hHeld => ?_)
          clear hK K
          refine norm_ (a' := ?_) ?_ ?_
          rotate_left
          · show Act.put _ (some 90) _ = _
            simp only [Act.put, List.setIfInBounds_toArray, List.set_cons_zero, List.set_cons_succ, i64_w, i32_w]
            rfl
          refine one_ (i := 4) (N := some 91) #[true, true, true, true, true, false, false, false, false, false, false, false, false] rfl rfl (one_of HT_.out (by kernel_rfl)) (by decide) (fun K hK => ?_)
          have hcvb := own_string (P := Try.prog) Try.underlying22 Try.underlying5 Try.underlying9 (Kd.own_of_R H18.out)
          refine value_ (w1 := ?_) (v := ?_) (by rfl) rfl ?_ ?_
          rotate_left 2
          · go_simp
            constructor
            · rfl
            · rfl
          refine hK.out _ _ trivial (fun hHeld => ?_)
          clear hK K
          refine norm_ (a' := ?_) ?_ ?_
          rotate_left
          · show Act.put _ (some 91) _ = _
            simp only [Act.put, List.setIfInBounds_toArray, List.set_cons_zero, List.set_cons_succ, i64_w, i32_w]
            rfl
          refine pure_ (i := 5) (N := some 92) (v := ?_) (a' := ?_) #[true, true, true, true, true, true, false, false, false, false, false, false, false] rfl rfl (any_of HT_.out (by kernel_rfl)) (fun _ _ _ h => h) (Or.inl ⟨by rfl, ?_⟩) ?_ ?_
          rotate_left
          · intro w'
            go_simp
            with_reducible rfl
          rotate_left
          · simp only [Act.put, List.setIfInBounds_toArray, List.set_cons_zero, List.set_cons_succ, i64_w, i32_w]
            rfl
          refine pure_ (i := 6) (N := some 93) (v := ?_) (a' := ?_) #[true, true, true, true, true, true, true, false, false, false, false, false, false] rfl rfl (any_of HT_.out (by kernel_rfl)) (fun _ _ _ h => h) (Or.inl ⟨by rfl, ?_⟩) ?_ ?_
          rotate_left
          · intro w'
            go_simp
            with_reducible rfl
          rotate_left
          · simp only [Act.put, List.setIfInBounds_toArray, List.set_cons_zero, List.set_cons_succ, i64_w, i32_w]
            rfl
          refine pure_ (i := 7) (N := some 94) (v := ?_) (a' := ?_) #[true, true, true, true, true, true, true, true, false, false, false, false, false] rfl rfl (any_of HT_.out (by kernel_rfl)) (fun _ _ _ h => h) (Or.inl ⟨by rfl, ?_⟩) ?_ ?_
          rotate_left
          · intro w'
            go_simp
            with_reducible rfl
          rotate_left
          · simp only [Act.put, List.setIfInBounds_toArray, List.set_cons_zero, List.set_cons_succ, i64_w, i32_w]
            rfl
          refine pure_ (i := 9) (N := some 96) (v := ?_) (a' := ?_) #[true, true, true, true, true, true, true, true, false, true, false, false, false] rfl rfl (any_of HT_.out (by kernel_rfl)) (fun _ _ _ h => h) (Or.inl ⟨by rfl, ?_⟩) ?_ ?_
          rotate_left
          · intro w'
            go_simp
            with_reducible rfl
          rotate_left
          · simp only [Act.put, List.setIfInBounds_toArray, List.set_cons_zero, List.set_cons_succ, i64_w, i32_w]
            rfl
          refine pure_ (i := 10) (N := some 97) (v := ?_) (a' := ?_) #[true, true, true, true, true, true, true, true, false, true, true, false, false] rfl rfl (any_of HT_.out (by kernel_rfl)) (fun _ _ _ h => h) (Or.inl ⟨by rfl, ?_⟩) ?_ ?_
          rotate_left
          · intro w'
            go_simp
            with_reducible rfl
          rotate_left
          · simp only [Act.put, List.setIfInBounds_toArray, List.set_cons_zero, List.set_cons_succ, i64_w, i32_w]
            rfl
          refine one_ (i := 8) (N := some 95) #[true, true, true, true, true, true, true, true, true, true, true, false, false] rfl rfl (one_of HT_.out (by kernel_rfl)) (by decide) (fun K hK => ?_)
          refine goes_ Try.func16 (by kernel_rfl) rfl #[.pointer (some ⟨g, 0, none⟩)] (by rfl) rfl rfl (by (try simp only [List.map_toArray, List.map_cons, List.map_nil]); first | done | rfl | (go_simp; done) | simp [Act.eval]) ?_
          refine (bitioLen_calls _ _ _ _ _ HP.out.ws).mono ?_
          rintro e w17 ⟨rfl, hb⟩
          have n0 := Aside0.mk (HP.out.below hb)
          have n1 := Aside0.mk (Kd.R_below H10.out hb)
          clear HP H10 hb
          have HP := n0
          have H10 := n1
          clear n0 n1
          refine ⟨_, rfl, ?_⟩
          refine hK.out _ _ trivial (fun hHeld => ?_)
          clear hK K
          refine norm_ (a' := ?_) ?_ ?_
          rotate_left
          · show Act.put _ (some 95) _ = _
            simp only [Act.put, List.setIfInBounds_toArray, List.set_cons_zero, List.set_cons_succ, i64_w, i32_w]
            rfl
          refine pure_ (i := 11) (N := some 98) (v := ?_) (a' := ?_) #[true, true, true, true, true, true, true, true, true, true, true, true, false] rfl rfl (any_of HT_.out (by kernel_rfl)) (fun _ _ _ h => h) (Or.inl ⟨by rfl, ?_⟩) ?_ ?_
          rotate_left
          · intro w'
            go_simp
            with_reducible rfl
          rotate_left
          · simp only [Act.put, List.setIfInBounds_toArray, List.set_cons_zero, List.set_cons_succ, i64_w, i32_w]
            rfl
          refine pure_ (i := 12) (N := some 99) (v := ?_) (a' := ?_) #[true, true, true, true, true, true, true, true, true, true, true, true, true] rfl rfl (any_of HT_.out (by kernel_rfl)) (fun _ _ _ h => h) (Or.inl ⟨by rfl, ?_⟩) ?_ ?_
          rotate_left
          · intro w'
            go_simp
            with_reducible rfl
          rotate_left
          · simp only [Act.put, List.setIfInBounds_toArray, List.set_cons_zero, List.set_cons_succ, i64_w, i32_w]
            rfl
          refine done_ (done_of HT_.out (by kernel_rfl)) ?_
          clear H18 HRF
          go_wp2_with fail
          refine (bitioOf_calls A10 c10 BS w17 (Kd.R_reads' H10.out).2.2 (Kd.R_reads' H10.out).2.1 2000 (ofl BS) (bof_f BS HB8.out (by have := HBL.out; omega) 2000 (by have := HBL.out; omega))).mono ?_
          rintro e w18 ⟨g2, v2, rfl, hg2, hrs, hb⟩
          obtain ⟨z, hz, eo⟩ := HOB.out
          rw [eo] at hrs
          obtain ⟨n2, hn2⟩ : ∃ n2, n2 = w17.heap.size := ⟨_, rfl⟩
          rw [← hn2] at hrs hg2
          have hin := Kd.R_mono (Kd.R_bound HP.out.in_) (ok' := fun k => k < n2) (fun k ok => by rw [hn2]; exact ok.2.2.1)
          have H6 := Aside0.mk (Kd.R_below hin hb)
          have HRS := Aside0.mk hrs
          have h0n := HP.out.bel.size
          rw [← hn2] at h0n
          have HB := Aside0.mk (below_step HP.out.bel hb)
          clear eo hrs hin hb hn2 HP H10 HOB HB8 HBF HBL
          go_wp2_with fail
          go_loopw [12] (fun v12 wr => ∃ (j : Nat), v12 = .int .i64 (j : Int) ∧ j ≤ ins.length ∧ (∃ v, Aside0 (RS wr n2 g2 v ((ins.drop j).flatMap (fun p => putL p.1 p.2) ++ List.replicate z 0))) ∧ Aside0 (Kd.R kNum 45 wr w.heap.size (fun k => k < n2) (.slice A6 ins.length c6) ins) ∧ Aside0 (Below w.heap.size w wr)) (fun v12 _ => ins.length - (intOf v12).toNat)
          case atStart => exact ⟨0, by simp, by omega, ⟨v2, ⟨by rw [List.drop_zero, ← HXS.out]; exact HRS.out⟩⟩, H6, HB⟩
          case round =>
            clear HRS H6 HB
            obtain ⟨j, rfl, hj, ⟨v3, HRS⟩, H6, HB⟩ := hrel
            by_cases hjl : j < ins.length
            · have hjb : decide ((j : Int) < (ins.length : Int)) = true := decide_eq_true (by omega)
              obtain ⟨ad, rfl, hx, hy⟩ := puts_at (Kd.R_reads' H6.out).2.2 j hjl
              obtain ⟨n, hn⟩ : ∃ n, n = (ins[j]).1 := ⟨_, rfl⟩
              obtain ⟨wd, hwd⟩ : ∃ wd, wd = (ins[j]).2 := ⟨_, rfl⟩
              have hpe := (HI.out.2 _ (List.getElem_mem hjl)).1
              have hdr : (ins.drop j).flatMap (fun p => putL p.1 p.2) ++ List.replicate z 0 = putL n wd ++ ((ins.drop (j + 1)).flatMap (fun p => putL p.1 p.2) ++ List.replicate z 0) := by
                rw [List.drop_eq_getElem_cons hjl, List.flatMap_cons, List.append_assoc, hn, hwd]
              rw [← hn] at hx hpe
              rw [← hwd] at hy hpe
              have htk := take_put n wd ((ins.drop (j + 1)).flatMap (fun p => putL p.1 p.2) ++ List.replicate z 0) hpe
              have hct := bitioTake_calls n2 g2 v3 _ wd wr HRS.out hg2
              rw [hdr, htk.1, htk.2.1, htk.2.2] at hct
              have HNW := Aside0.mk (And.intro hn hwd)
              clear hdr htk hpe hn hwd
              go_wp2_with fail
              refine hct.mono ?_
              rintro e w20 ⟨rfl, ⟨v4, h4⟩, hF⟩
              have HB20 := Aside0.mk (Below.trans HB.out (hF.below HB.out.size (by omega) (by simp [Value.ownBlock])))
              have H620 := Aside0.mk (Kd.R_step H6.out (fun k ok hk => hF.at k hk (by omega)))
              have HR20 := Aside0.mk h4
              clear hct h4 hF HB H6 HRS hx hy
              obtain ⟨ad2, e2, hx2, hy2⟩ := puts_at (Kd.R_reads' H620.out).2.2 j hjl
              obtain rfl : ad = ad2 := by injection e2
              rw [← HNW.out.1] at hx2
              rw [← HNW.out.2] at hy2
              go_wp2
              go_roundw
              case rel => exact ⟨j + 1, by simp, by omega, ⟨v4, HR20⟩, H620, HB20⟩
              case measure => simp [intOf]; omega
            · obtain rfl : ins.length = j := by omega
              have hjb : decide ((ins.length : Int) < (ins.length : Int)) = false := decide_eq_false (by omega)
              rw [List.drop_length, List.flatMap_nil, List.nil_append] at HRS
              have hwf := weight_f (List.replicate z (0 : Int)) (by rw [List.length_replicate]; omega) 2000 (by rw [List.length_replicate]; omega)
              rw [wt_rep z] at hwf
              have hpc := bitioPad_calls n2 g2 v3 _ wr HRS.out hg2 2000 0 hwf
              have hp0 : pdE (List.replicate z (0 : Int)) 0 = 0 := by unfold pdE; rw [if_neg (by rw [List.length_replicate]; omega), if_pos rfl]
              have hl0 : pdL (List.replicate z (0 : Int)) 0 = [] := by unfold pdL; rw [hp0]; rfl
              rw [hp0, hl0] at hpc
              clear hp0 hl0 hwf
              go_wp2_with fail
              refine hpc.mono ?_
              rintro e w21 ⟨rfl, ⟨v5, h5⟩, hF⟩
              have HB21 := Aside0.mk (Below.trans HB.out (hF.below HB.out.size (by omega) (by simp [Value.ownBlock])))
              have HS5 := Aside0.mk h5
              clear hpc h5 hF
              go_wp2_with (go_at_call 22; refine (bitioLeft_calls _ _ _ _ _ HS5.out).mono ?_; rintro e w22 ⟨rfl, hb⟩; have n0 := Aside0.mk (below_step HB21.out hb); clear HB21 hb; have HB21 := n0; clear n0)
              go_ret
              exact ⟨by simp, HB21.out⟩
        · skip
          refine goes_ Try.func18 (by kernel_rfl) rfl #[.slice A5 xs.length c5] (by rfl) rfl rfl (by (try simp only [List.map_toArray, List.map_cons, List.map_nil]); first | done | rfl | (go_simp; done) | simp [Act.eval]) ?_
          refine (shuttleref01_Bytes.calls 10000 A5 c5 xs BS _ (Kd.R_reads' HP.out.all).2.2 (Kd.R_reads' HP.out.all).2.1 HRF.out).mono ?_
          rintro e w16 ⟨v18, rfl, h18, hb⟩
          have H18 := Aside0.mk h18
          have n0 := Aside0.mk (HP.out.below hb)
          have n1 := Aside0.mk (Kd.R_below H10.out hb)
          clear HP H10 h18 hb
          have HP := n0
          have H10 := n1
          clear n0 n1
          refine ⟨_, rfl, ?_⟩
          refine hK.out _ _ trivial (fun hHeld => ?_)
          clear hK K
          refine norm_ (a' := ?_) ?_ ?_
          rotate_left
          · show Act.put _ (some 90) _ = _
            simp only [Act.put, List.setIfInBounds_toArray, List.set_cons_zero, List.set_cons_succ, i64_w, i32_w]
            rfl
          refine two_ (i := 1) (j := 4) (Ni := some 88) (Nj := some 91) #[true, true, true, true, false, false, false, false, false, false, false, false, false] #[true, false, true, true, true, false, false, false, false, false, false, false, false] rfl rfl rfl rfl (two_of HT_.out (by kernel_rfl)) (by decide) (by decide) (fun K hK => ?_) (fun K hK => ?_)
          · skip
            have hcva := own_string (P := Try.prog) Try.underlying22 Try.underlying5 Try.underlying9 (Kd.own_of_R H10.out)
            refine value_ (w1 := ?_) (v := ?_) (by rfl) rfl ?_ ?_
            rotate_left 2
            · go_simp
              constructor
              · rfl
              · rfl
            refine hK.out _ _ trivial (fun hHeld => ?_)
            clear hK K
            refine norm_ (a' := ?_) ?_ ?_
            rotate_left
            · show Act.put _ (some 88) _ = _
              simp only [Act.put, List.setIfInBounds_toArray, List.set_cons_zero, List.set_cons_succ, i64_w, i32_w]
              rfl
            refine one_ (i := 4) (N := some 91) #[true, true, true, true, true, false, false, false, false, false, false, false, false] rfl rfl (one_of HT_.out (by kernel_rfl)) (by decide) (fun K hK => ?_)
            have hcvb := own_string (P := Try.prog) Try.underlying22 Try.underlying5 Try.underlying9 (Kd.own_of_R H18.out)
            refine value_ (w1 := ?_) (v := ?_) (by rfl) rfl ?_ ?_
            rotate_left 2
            · go_simp
              constructor
              · rfl
              · rfl
            refine hK.out _ _ trivial (fun hHeld => ?_)
            clear hK K
            refine norm_ (a' := ?_) ?_ ?_
            rotate_left
            · show Act.put _ (some 91) _ = _
              simp only [Act.put, List.setIfInBounds_toArray, List.set_cons_zero, List.set_cons_succ, i64_w, i32_w]
              rfl
            refine pure_ (i := 5) (N := some 92) (v := ?_) (a' := ?_) #[true, true, true, true, true, true, false, false, false, false, false, false, false] rfl rfl (any_of HT_.out (by kernel_rfl)) (fun _ _ _ h => h) (Or.inl ⟨by rfl, ?_⟩) ?_ ?_
            rotate_left
            · intro w'
              go_simp
              with_reducible rfl
            rotate_left
            · simp only [Act.put, List.setIfInBounds_toArray, List.set_cons_zero, List.set_cons_succ, i64_w, i32_w]
              rfl
            refine pure_ (i := 6) (N := some 93) (v := ?_) (a' := ?_) #[true, true, true, true, true, true, true, false, false, false, false, false, false] rfl rfl (any_of HT_.out (by kernel_rfl)) (fun _ _ _ h => h) (Or.inl ⟨by rfl, ?_⟩) ?_ ?_
            rotate_left
            · intro w'
              go_simp
              with_reducible rfl
            rotate_left
            · simp only [Act.put, List.setIfInBounds_toArray, List.set_cons_zero, List.set_cons_succ, i64_w, i32_w]
              rfl
            refine pure_ (i := 7) (N := some 94) (v := ?_) (a' := ?_) #[true, true, true, true, true, true, true, true, false, false, false, false, false] rfl rfl (any_of HT_.out (by kernel_rfl)) (fun _ _ _ h => h) (Or.inl ⟨by rfl, ?_⟩) ?_ ?_
            rotate_left
            · intro w'
              go_simp
              with_reducible rfl
            rotate_left
            · simp only [Act.put, List.setIfInBounds_toArray, List.set_cons_zero, List.set_cons_succ, i64_w, i32_w]
              rfl
            refine pure_ (i := 9) (N := some 96) (v := ?_) (a' := ?_) #[true, true, true, true, true, true, true, true, false, true, false, false, false] rfl rfl (any_of HT_.out (by kernel_rfl)) (fun _ _ _ h => h) (Or.inl ⟨by rfl, ?_⟩) ?_ ?_
            rotate_left
            · intro w'
              go_simp
              with_reducible rfl
            rotate_left
            · simp only [Act.put, List.setIfInBounds_toArray, List.set_cons_zero, List.set_cons_succ, i64_w, i32_w]
              rfl
            refine pure_ (i := 10) (N := some 97) (v := ?_) (a' := ?_) #[true, true, true, true, true, true, true, true, false, true, true, false, false] rfl rfl (any_of HT_.out (by kernel_rfl)) (fun _ _ _ h => h) (Or.inl ⟨by rfl, ?_⟩) ?_ ?_
            rotate_left
            · intro w'
              go_simp
              with_reducible rfl
            rotate_left
            · simp only [Act.put, List.setIfInBounds_toArray, List.set_cons_zero, List.set_cons_succ, i64_w, i32_w]
              rfl
            refine one_ (i := 8) (N := some 95) #[true, true, true, true, true, true, true, true, true, true, true, false, false] rfl rfl (one_of HT_.out (by kernel_rfl)) (by decide) (fun K hK => ?_)
            refine goes_ Try.func16 (by kernel_rfl) rfl #[.pointer (some ⟨g, 0, none⟩)] (by rfl) rfl rfl (by (try simp only [List.map_toArray, List.map_cons, List.map_nil]); first | done | rfl | (go_simp; done) | simp [Act.eval]) ?_
            refine (bitioLen_calls _ _ _ _ _ HP.out.ws).mono ?_
            rintro e w17 ⟨rfl, hb⟩
            have n0 := Aside0.mk (HP.out.below hb)
            have n1 := Aside0.mk (Kd.R_below H10.out hb)
            clear HP H10 hb
            have HP := n0
            have H10 := n1
            clear n0 n1
            refine ⟨_, rfl, ?_⟩
            refine hK.out _ _ trivial (fun hHeld => ?_)
            clear hK K
            refine norm_ (a' := ?_) ?_ ?_
            rotate_left
            · show Act.put _ (some 95) _ = _
              simp only [Act.put, List.setIfInBounds_toArray, List.set_cons_zero, List.set_cons_succ, i64_w, i32_w]
              rfl
            refine pure_ (i := 11) (N := some 98) (v := ?_) (a' := ?_) #[true, true, true, true, true, true, true, true, true, true, true, true, false] rfl rfl (any_of HT_.out (by kernel_rfl)) (fun _ _ _ h => h) (Or.inl ⟨by rfl, ?_⟩) ?_ ?_
            rotate_left
            · intro w'
              go_simp
              with_reducible rfl
            rotate_left
            · simp only [Act.put, List.setIfInBounds_toArray, List.set_cons_zero, List.set_cons_succ, i64_w, i32_w]
              rfl
            refine pure_ (i := 12) (N := some 99) (v := ?_) (a' := ?_) #[true, true, true, true, true, true, true, true, true, true, true, true, true] rfl rfl (any_of HT_.out (by kernel_rfl)) (fun _ _ _ h => h) (Or.inl ⟨by rfl, ?_⟩) ?_ ?_
            rotate_left
            · intro w'
              go_simp
              with_reducible rfl
            rotate_left
            · simp only [Act.put, List.setIfInBounds_toArray, List.set_cons_zero, List.set_cons_succ, i64_w, i32_w]
              rfl
            refine done_ (done_of HT_.out (by kernel_rfl)) ?_
            clear H18 HRF
            go_wp2_with fail
            refine (bitioOf_calls A10 c10 BS w17 (Kd.R_reads' H10.out).2.2 (Kd.R_reads' H10.out).2.1 2000 (ofl BS) (bof_f BS HB8.out (by have := HBL.out; omega) 2000 (by have := HBL.out; omega))).mono ?_
            rintro e w18 ⟨g2, v2, rfl, hg2, hrs, hb⟩
            obtain ⟨z, hz, eo⟩ := HOB.out
            rw [eo] at hrs
            obtain ⟨n2, hn2⟩ : ∃ n2, n2 = w17.heap.size := ⟨_, rfl⟩
            rw [← hn2] at hrs hg2
            have hin := Kd.R_mono (Kd.R_bound HP.out.in_) (ok' := fun k => k < n2) (fun k ok => by rw [hn2]; exact ok.2.2.1)
            have H6 := Aside0.mk (Kd.R_below hin hb)
            have HRS := Aside0.mk hrs
            have h0n := HP.out.bel.size
            rw [← hn2] at h0n
            have HB := Aside0.mk (below_step HP.out.bel hb)
            clear eo hrs hin hb hn2 HP H10 HOB HB8 HBF HBL
            go_wp2_with fail
            go_loopw [12] (fun v12 wr => ∃ (j : Nat), v12 = .int .i64 (j : Int) ∧ j ≤ ins.length ∧ (∃ v, Aside0 (RS wr n2 g2 v ((ins.drop j).flatMap (fun p => putL p.1 p.2) ++ List.replicate z 0))) ∧ Aside0 (Kd.R kNum 45 wr w.heap.size (fun k => k < n2) (.slice A6 ins.length c6) ins) ∧ Aside0 (Below w.heap.size w wr)) (fun v12 _ => ins.length - (intOf v12).toNat)
            case atStart => exact ⟨0, by simp, by omega, ⟨v2, ⟨by rw [List.drop_zero, ← HXS.out]; exact HRS.out⟩⟩, H6, HB⟩
            case round =>
              clear HRS H6 HB
              obtain ⟨j, rfl, hj, ⟨v3, HRS⟩, H6, HB⟩ := hrel
              by_cases hjl : j < ins.length
              · have hjb : decide ((j : Int) < (ins.length : Int)) = true := decide_eq_true (by omega)
                obtain ⟨ad, rfl, hx, hy⟩ := puts_at (Kd.R_reads' H6.out).2.2 j hjl
                obtain ⟨n, hn⟩ : ∃ n, n = (ins[j]).1 := ⟨_, rfl⟩
                obtain ⟨wd, hwd⟩ : ∃ wd, wd = (ins[j]).2 := ⟨_, rfl⟩
                have hpe := (HI.out.2 _ (List.getElem_mem hjl)).1
                have hdr : (ins.drop j).flatMap (fun p => putL p.1 p.2) ++ List.replicate z 0 = putL n wd ++ ((ins.drop (j + 1)).flatMap (fun p => putL p.1 p.2) ++ List.replicate z 0) := by
                  rw [List.drop_eq_getElem_cons hjl, List.flatMap_cons, List.append_assoc, hn, hwd]
                rw [← hn] at hx hpe
                rw [← hwd] at hy hpe
                have htk := take_put n wd ((ins.drop (j + 1)).flatMap (fun p => putL p.1 p.2) ++ List.replicate z 0) hpe
                have hct := bitioTake_calls n2 g2 v3 _ wd wr HRS.out hg2
                rw [hdr, htk.1, htk.2.1, htk.2.2] at hct
                have HNW := Aside0.mk (And.intro hn hwd)
                clear hdr htk hpe hn hwd
                go_wp2_with fail
                refine hct.mono ?_
                rintro e w20 ⟨rfl, ⟨v4, h4⟩, hF⟩
                have HB20 := Aside0.mk (Below.trans HB.out (hF.below HB.out.size (by omega) (by simp [Value.ownBlock])))
                have H620 := Aside0.mk (Kd.R_step H6.out (fun k ok hk => hF.at k hk (by omega)))
                have HR20 := Aside0.mk h4
                clear hct h4 hF HB H6 HRS hx hy
                obtain ⟨ad2, e2, hx2, hy2⟩ := puts_at (Kd.R_reads' H620.out).2.2 j hjl
                obtain rfl : ad = ad2 := by injection e2
                rw [← HNW.out.1] at hx2
                rw [← HNW.out.2] at hy2
                go_wp2
                go_roundw
                case rel => exact ⟨j + 1, by simp, by omega, ⟨v4, HR20⟩, H620, HB20⟩
                case measure => simp [intOf]; omega
              · obtain rfl : ins.length = j := by omega
                have hjb : decide ((ins.length : Int) < (ins.length : Int)) = false := decide_eq_false (by omega)
                rw [List.drop_length, List.flatMap_nil, List.nil_append] at HRS
                have hwf := weight_f (List.replicate z (0 : Int)) (by rw [List.length_replicate]; omega) 2000 (by rw [List.length_replicate]; omega)
                rw [wt_rep z] at hwf
                have hpc := bitioPad_calls n2 g2 v3 _ wr HRS.out hg2 2000 0 hwf
                have hp0 : pdE (List.replicate z (0 : Int)) 0 = 0 := by unfold pdE; rw [if_neg (by rw [List.length_replicate]; omega), if_pos rfl]
                have hl0 : pdL (List.replicate z (0 : Int)) 0 = [] := by unfold pdL; rw [hp0]; rfl
                rw [hp0, hl0] at hpc
                clear hp0 hl0 hwf
                go_wp2_with fail
                refine hpc.mono ?_
                rintro e w21 ⟨rfl, ⟨v5, h5⟩, hF⟩
                have HB21 := Aside0.mk (Below.trans HB.out (hF.below HB.out.size (by omega) (by simp [Value.ownBlock])))
                have HS5 := Aside0.mk h5
                clear hpc h5 hF
                go_wp2_with (go_at_call 22; refine (bitioLeft_calls _ _ _ _ _ HS5.out).mono ?_; rintro e w22 ⟨rfl, hb⟩; have n0 := Aside0.mk (below_step HB21.out hb); clear HB21 hb; have HB21 := n0; clear n0)
                go_ret
                exact ⟨by simp, HB21.out⟩
          · skip
            have hcvb := own_string (P := Try.prog) Try.underlying22 Try.underlying5 Try.underlying9 (Kd.own_of_R H18.out)
            refine value_ (w1 := ?_) (v := ?_) (by rfl) rfl ?_ ?_
            rotate_left 2
            · go_simp
              constructor
              · rfl
              · rfl
            refine hK.out _ _ trivial (fun hHeld => ?_)
            clear hK K
            refine norm_ (a' := ?_) ?_ ?_
            rotate_left
            · show Act.put _ (some 91) _ = _
              simp only [Act.put, List.setIfInBounds_toArray, List.set_cons_zero, List.set_cons_succ, i64_w, i32_w]
              rfl
            refine one_ (i := 1) (N := some 88) #[true, true, true, true, true, false, false, false, false, false, false, false, false] rfl rfl (one_of HT_.out (by kernel_rfl)) (by decide) (fun K hK => ?_)
            have hcva := own_string (P := Try.prog) Try.underlying22 Try.underlying5 Try.underlying9 (Kd.own_of_R H10.out)
            refine value_ (w1 := ?_) (v := ?_) (by rfl) rfl ?_ ?_
            rotate_left 2
            · go_simp
              constructor
              · rfl
              · rfl
            refine hK.out _ _ trivial (fun hHeld => ?_)
            clear hK K
            refine norm_ (a' := ?_) ?_ ?_
            rotate_left
            · show Act.put _ (some 88) _ = _
              simp only [Act.put, List.setIfInBounds_toArray, List.set_cons_zero, List.set_cons_succ, i64_w, i32_w]
              rfl
            refine pure_ (i := 5) (N := some 92) (v := ?_) (a' := ?_) #[true, true, true, true, true, true, false, false, false, false, false, false, false] rfl rfl (any_of HT_.out (by kernel_rfl)) (fun _ _ _ h => h) (Or.inl ⟨by rfl, ?_⟩) ?_ ?_
            rotate_left
            · intro w'
              go_simp
              with_reducible rfl
            rotate_left
            · simp only [Act.put, List.setIfInBounds_toArray, List.set_cons_zero, List.set_cons_succ, i64_w, i32_w]
              rfl
            refine pure_ (i := 6) (N := some 93) (v := ?_) (a' := ?_) #[true, true, true, true, true, true, true, false, false, false, false, false, false] rfl rfl (any_of HT_.out (by kernel_rfl)) (fun _ _ _ h => h) (Or.inl ⟨by rfl, ?_⟩) ?_ ?_
            rotate_left
            · intro w'
              go_simp
              with_reducible rfl
            rotate_left
            · simp only [Act.put, List.setIfInBounds_toArray, List.set_cons_zero, List.set_cons_succ, i64_w, i32_w]
              rfl
            refine pure_ (i := 7) (N := some 94) (v := ?_) (a' := ?_) #[true, true, true, true, true, true, true, true, false, false, false, false, false] rfl rfl (any_of HT_.out (by kernel_rfl)) (fun _ _ _ h => h) (Or.inl ⟨by rfl, ?_⟩) ?_ ?_
            rotate_left
            · intro w'
              go_simp
              with_reducible rfl
            rotate_left
            · simp only [Act.put, List.setIfInBounds_toArray, List.set_cons_zero, List.set_cons_succ, i64_w, i32_w]
              rfl
            refine pure_ (i := 9) (N := some 96) (v := ?_) (a' := ?_) #[true, true, true, true, true, true, true, true, false, true, false, false, false] rfl rfl (any_of HT_.out (by kernel_rfl)) (fun _ _ _ h => h) (Or.inl ⟨by rfl, ?_⟩) ?_ ?_
            rotate_left
            · intro w'
              go_simp
              with_reducible rfl
            rotate_left
            · simp only [Act.put, List.setIfInBounds_toArray, List.set_cons_zero, List.set_cons_succ, i64_w, i32_w]
              rfl
            refine pure_ (i := 10) (N := some 97) (v := ?_) (a' := ?_) #[true, true, true, true, true, true, true, true, false, true, true, false, false] rfl rfl (any_of HT_.out (by kernel_rfl)) (fun _ _ _ h => h) (Or.inl ⟨by rfl, ?_⟩) ?_ ?_
            rotate_left
            · intro w'
              go_simp
              with_reducible rfl
            rotate_left
            · simp only [Act.put, List.setIfInBounds_toArray, List.set_cons_zero, List.set_cons_succ, i64_w, i32_w]
              rfl
            refine one_ (i := 8) (N := some 95) #[true, true, true, true, true, true, true, true, true, true, true, false, false] rfl rfl (one_of HT_.out (by kernel_rfl)) (by decide) (fun K hK => ?_)
            refine goes_ Try.func16 (by kernel_rfl) rfl #[.pointer (some ⟨g, 0, none⟩)] (by rfl) rfl rfl (by (try simp only [List.map_toArray, List.map_cons, List.map_nil]); first | done | rfl | (go_simp; done) | simp [Act.eval]) ?_
            refine (bitioLen_calls _ _ _ _ _ HP.out.ws).mono ?_
            rintro e w17 ⟨rfl, hb⟩
            have n0 := Aside0.mk (HP.out.below hb)
            have n1 := Aside0.mk (Kd.R_below H10.out hb)
            clear HP H10 hb
            have HP := n0
            have H10 := n1
            clear n0 n1
            refine ⟨_, rfl, ?_⟩
            refine hK.out _ _ trivial (fun hHeld => ?_)
            clear hK K
            refine norm_ (a' := ?_) ?_ ?_
            rotate_left
            · show Act.put _ (some 95) _ = _
              simp only [Act.put, List.setIfInBounds_toArray, List.set_cons_zero, List.set_cons_succ, i64_w, i32_w]
              rfl
            refine pure_ (i := 11) (N := some 98) (v := ?_) (a' := ?_) #[true, true, true, true, true, true, true, true, true, true, true, true, false] rfl rfl (any_of HT_.out (by kernel_rfl)) (fun _ _ _ h => h) (Or.inl ⟨by rfl, ?_⟩) ?_ ?_
            rotate_left
            · intro w'
              go_simp
              with_reducible rfl
            rotate_left
            · simp only [Act.put, List.setIfInBounds_toArray, List.set_cons_zero, List.set_cons_succ, i64_w, i32_w]
              rfl
            refine pure_ (i := 12) (N := some 99) (v := ?_) (a' := ?_) #[true, true, true, true, true, true, true, true, true, true, true, true, true] rfl rfl (any_of HT_.out (by kernel_rfl)) (fun _ _ _ h => h) (Or.inl ⟨by rfl, ?_⟩) ?_ ?_
            rotate_left
            · intro w'
              go_simp
              with_reducible rfl
            rotate_left
            · simp only [Act.put, List.setIfInBounds_toArray, List.set_cons_zero, List.set_cons_succ, i64_w, i32_w]
              rfl
            refine done_ (done_of HT_.out (by kernel_rfl)) ?_
            clear H18 HRF
            go_wp2_with fail
            refine (bitioOf_calls A10 c10 BS w17 (Kd.R_reads' H10.out).2.2 (Kd.R_reads' H10.out).2.1 2000 (ofl BS) (bof_f BS HB8.out (by have := HBL.out; omega) 2000 (by have := HBL.out; omega))).mono ?_
            rintro e w18 ⟨g2, v2, rfl, hg2, hrs, hb⟩
            obtain ⟨z, hz, eo⟩ := HOB.out
            rw [eo] at hrs
            obtain ⟨n2, hn2⟩ : ∃ n2, n2 = w17.heap.size := ⟨_, rfl⟩
            rw [← hn2] at hrs hg2
            have hin := Kd.R_mono (Kd.R_bound HP.out.in_) (ok' := fun k => k < n2) (fun k ok => by rw [hn2]; exact ok.2.2.1)
            have H6 := Aside0.mk (Kd.R_below hin hb)
            have HRS := Aside0.mk hrs
            have h0n := HP.out.bel.size
            rw [← hn2] at h0n
            have HB := Aside0.mk (below_step HP.out.bel hb)
            clear eo hrs hin hb hn2 HP H10 HOB HB8 HBF HBL
            go_wp2_with fail
            go_loopw [12] (fun v12 wr => ∃ (j : Nat), v12 = .int .i64 (j : Int) ∧ j ≤ ins.length ∧ (∃ v, Aside0 (RS wr n2 g2 v ((ins.drop j).flatMap (fun p => putL p.1 p.2) ++ List.replicate z 0))) ∧ Aside0 (Kd.R kNum 45 wr w.heap.size (fun k => k < n2) (.slice A6 ins.length c6) ins) ∧ Aside0 (Below w.heap.size w wr)) (fun v12 _ => ins.length - (intOf v12).toNat)
            case atStart => exact ⟨0, by simp, by omega, ⟨v2, ⟨by rw [List.drop_zero, ← HXS.out]; exact HRS.out⟩⟩, H6, HB⟩
            case round =>
              clear HRS H6 HB
              obtain ⟨j, rfl, hj, ⟨v3, HRS⟩, H6, HB⟩ := hrel
              by_cases hjl : j < ins.length
              · have hjb : decide ((j : Int) < (ins.length : Int)) = true := decide_eq_true (by omega)
                obtain ⟨ad, rfl, hx, hy⟩ := puts_at (Kd.R_reads' H6.out).2.2 j hjl
                obtain ⟨n, hn⟩ : ∃ n, n = (ins[j]).1 := ⟨_, rfl⟩
                obtain ⟨wd, hwd⟩ : ∃ wd, wd = (ins[j]).2 := ⟨_, rfl⟩
                have hpe := (HI.out.2 _ (List.getElem_mem hjl)).1
                have hdr : (ins.drop j).flatMap (fun p => putL p.1 p.2) ++ List.replicate z 0 = putL n wd ++ ((ins.drop (j + 1)).flatMap (fun p => putL p.1 p.2) ++ List.replicate z 0) := by
                  rw [List.drop_eq_getElem_cons hjl, List.flatMap_cons, List.append_assoc, hn, hwd]
                rw [← hn] at hx hpe
                rw [← hwd] at hy hpe
                have htk := take_put n wd ((ins.drop (j + 1)).flatMap (fun p => putL p.1 p.2) ++ List.replicate z 0) hpe
                have hct := bitioTake_calls n2 g2 v3 _ wd wr HRS.out hg2
                rw [hdr, htk.1, htk.2.1, htk.2.2] at hct
                have HNW := Aside0.mk (And.intro hn hwd)
                clear hdr htk hpe hn hwd
                go_wp2_with fail
                refine hct.mono ?_
                rintro e w20 ⟨rfl, ⟨v4, h4⟩, hF⟩
                have HB20 := Aside0.mk (Below.trans HB.out (hF.below HB.out.size (by omega) (by simp [Value.ownBlock])))
                have H620 := Aside0.mk (Kd.R_step H6.out (fun k ok hk => hF.at k hk (by omega)))
                have HR20 := Aside0.mk h4
                clear hct h4 hF HB H6 HRS hx hy
                obtain ⟨ad2, e2, hx2, hy2⟩ := puts_at (Kd.R_reads' H620.out).2.2 j hjl
                obtain rfl : ad = ad2 := by injection e2
                rw [← HNW.out.1] at hx2
                rw [← HNW.out.2] at hy2
                go_wp2
                go_roundw
                case rel => exact ⟨j + 1, by simp, by omega, ⟨v4, HR20⟩, H620, HB20⟩
                case measure => simp [intOf]; omega
              · obtain rfl : ins.length = j := by omega
                have hjb : decide ((ins.length : Int) < (ins.length : Int)) = false := decide_eq_false (by omega)
                rw [List.drop_length, List.flatMap_nil, List.nil_append] at HRS
                have hwf := weight_f (List.replicate z (0 : Int)) (by rw [List.length_replicate]; omega) 2000 (by rw [List.length_replicate]; omega)
                rw [wt_rep z] at hwf
                have hpc := bitioPad_calls n2 g2 v3 _ wr HRS.out hg2 2000 0 hwf
                have hp0 : pdE (List.replicate z (0 : Int)) 0 = 0 := by unfold pdE; rw [if_neg (by rw [List.length_replicate]; omega), if_pos rfl]
                have hl0 : pdL (List.replicate z (0 : Int)) 0 = [] := by unfold pdL; rw [hp0]; rfl
                rw [hp0, hl0] at hpc
                clear hp0 hl0 hwf
                go_wp2_with fail
                refine hpc.mono ?_
                rintro e w21 ⟨rfl, ⟨v5, h5⟩, hF⟩
                have HB21 := Aside0.mk (Below.trans HB.out (hF.below HB.out.size (by omega) (by simp [Value.ownBlock])))
                have HS5 := Aside0.mk h5
                clear hpc h5 hF
                go_wp2_with (go_at_call 22; refine (bitioLeft_calls _ _ _ _ _ HS5.out).mono ?_; rintro e w22 ⟨rfl, hb⟩; have n0 := Aside0.mk (below_step HB21.out hb); clear HB21 hb; have HB21 := n0; clear n0)
                go_ret
                exact ⟨by simp, HB21.out⟩
    · have h1b : decide ((i : Int) < (l0.length : Int)) = false := decide_eq_false h1
      go_wp2_with fail
      obtain ⟨xs, hxs⟩ : ∃ xs, xs = ins.flatMap fun p => putL p.1 p.2 := ⟨_, rfl⟩
      rw [← hxs] at HP
      have hbit : ∀ x ∈ xs, bit x := by
        rw [hxs]; intro x hx
        obtain ⟨p, hp, hx2⟩ := List.mem_flatMap.1 hx
        exact putL_bit _ _ (HI.out.2 p hp).2 x hx2
      have hxl : xs.length ≤ 640 := by
        rw [hxs, List.length_flatMap]
        have hb : ∀ (q : List (Int × Int)), (q.map fun p => (putL p.1 p.2).length).sum ≤ 32 * q.length := by
          intro q
          induction q with
          | nil => simp
          | cons a q ih => rw [List.map_cons, List.sum_cons, List.length_cons]; have := putL_len32 a.1 a.2; omega
        have := hb ins
        have := HI.out.1
        omega
      have hil : ins.length ≤ 20 := by have := HI.out.1; omega
      have HBF := Aside0.mk (bytes_some hbit (by omega) 1000 (by omega))
      have HRF := Aside0.mk (rbytes_f xs hbit (by omega) 10000 (by omega))
      have HOB := Aside0.mk (ofl_bytes xs hbit)
      have HB8 := Aside0.mk (bytes_in xs hbit ((xs.length + 7) / 8))
      have hBl : ((List.range ((xs.length + 7) / 8)).map (byte xs)).length ≤ 100 := by rw [List.length_map, List.length_range]; omega
      generalize (List.range ((xs.length + 7) / 8)).map (byte xs) = BS at HBF HRF HOB HB8 hBl
      have HBL := Aside0.mk hBl
      have HXS := Aside0.mk hxs
      have HBIT := Aside0.mk hbit
      clear hxs hbit hBl
      refine (bitioBytes_calls _ _ _ _ _ HP.out.ws 1000 BS 0 HBF.out).mono ?_
      rintro e w15 ⟨vb, rfl, hu, hB⟩
      obtain ⟨A10, c10, e10⟩ := Kd.R_slice hu
      subst e10
      have H10 := Aside0.mk hu
      have n0 := Aside0.mk (HP.out.below hB)
      clear HP hu hB
      have HP := n0
      clear n0
      obtain ⟨A5, c5, e5⟩ := Kd.R_slice HP.out.all
      subst e5
      obtain ⟨A6, c6, e6⟩ := Kd.R_slice HP.out.in_
      subst e6
      go_wp2_with fail
      have n0 := Aside0.mk (HP.out.below (below_drew1 (Below.refl w15.heap.size w15)))
      have n1 := Aside0.mk (Kd.R_drew H10.out)
      clear HP H10
      have HP := n0
      have H10 := n1
      clear n0 n1
      refine start_ (n := 13) (S := fun _ => True) (ds := []) #[false, false, false, false, false, false, false, false, false, false, false, false, false] (by kernel_rfl) rfl rfl trivial (fun hHeld => ?_)
      refine with_tabW puts16b.tab puts16b.bits (fun HT_ HW_ => ?_)
      refine pure_ (i := 0) (N := some 87) (v := ?_) (a' := ?_) #[true, false, false, false, false, false, false, false, false, false, false, false, false] rfl rfl (any_of HT_.out (by kernel_rfl)) (fun _ _ _ h => h) (Or.inl ⟨by rfl, ?_⟩) ?_ ?_
      rotate_left
      · intro w'
        go_simp
        with_reducible rfl
      rotate_left
      · simp only [Act.put, List.setIfInBounds_toArray, List.set_cons_zero, List.set_cons_succ, i64_w, i32_w]
        rfl
      refine pure_ (i := 2) (N := some 89) (v := ?_) (a' := ?_) #[true, false, true, false, false, false, false, false, false, false, false, false, false] rfl rfl (any_of HT_.out (by kernel_rfl)) (fun _ _ _ h => h) (Or.inl ⟨by rfl, ?_⟩) ?_ ?_
      rotate_left
      · intro w'
        go_simp
        with_reducible rfl
      rotate_left
      · simp only [Act.put, List.setIfInBounds_toArray, List.set_cons_zero, List.set_cons_succ, i64_w, i32_w]
        rfl
      refine two_ (i := 1) (j := 3) (Ni := some 88) (Nj := some 90) #[true, true, true, false, false, false, false, false, false, false, false, false, false] #[true, false, true, true, false, false, false, false, false, false, false, false, false] rfl rfl rfl rfl (two_of HT_.out (by kernel_rfl)) (by decide) (by decide) (fun K hK => ?_) (fun K hK => ?_)
      · skip
        have hcva := own_string (P := Try.prog) Try.underlying22 Try.underlying5 Try.underlying9 (Kd.own_of_R H10.out)
        refine value_ (w1 := ?_) (v := ?_) (by rfl) rfl ?_ ?_
        rotate_left 2
        · go_simp
          constructor
          · rfl
          · rfl
        refine hK.out _ _ trivial (fun hHeld => ?_)
        clear hK K
        refine norm_ (a' := ?_) ?_ ?_
        rotate_left
        · show Act.put _ (some 88) _ = _
          simp only [Act.put, List.setIfInBounds_toArray, List.set_cons_zero, List.set_cons_succ, i64_w, i32_w]
          rfl
        refine one_ (i := 3) (N := some 90) #[true, true, true, true, false, false, false, false, false, false, false, false, false] rfl rfl (one_of HT_.out (by kernel_rfl)) (by decide) (fun K hK => ?_)
        refine goes_ Try.func18 (by kernel_rfl) rfl #[.slice A5 xs.length c5] (by rfl) rfl rfl (by (try simp only [List.map_toArray, List.map_cons, List.map_nil]); first | done | rfl | (go_simp; done) | simp [Act.eval]) ?_
        refine (shuttleref01_Bytes.calls 10000 A5 c5 xs BS _ (Kd.R_reads' HP.out.all).2.2 (Kd.R_reads' HP.out.all).2.1 HRF.out).mono ?_
        rintro e w16 ⟨v18, rfl, h18, hb⟩
        have H18 := Aside0.mk h18
        have n0 := Aside0.mk (HP.out.below hb)
        have n1 := Aside0.mk (Kd.R_below H10.out hb)
        clear HP H10 h18 hb
        have HP := n0
        have H10 := n1
        clear n0 n1
        refine ⟨_, rfl, ?_⟩
        refine hK.out _ _ trivial (fun hHeld => ?_)
        clear hK K
        refine norm_ (a' := ?_) ?_ ?_
        rotate_left
        · show Act.put _ (some 90) _ = _
          simp only [Act.put, List.setIfInBounds_toArray, List.set_cons_zero, List.set_cons_succ, i64_w, i32_w]
          rfl
        refine one_ (i := 4) (N := some 91) #[true, true, true, true, true, false, false, false, false, false, false, false, false] rfl rfl (one_of HT_.out (by kernel_rfl)) (by decide) (fun K hK => ?_)
        have hcvb := own_string (P := Try.prog) Try.underlying22 Try.underlying5 Try.underlying9 (Kd.own_of_R H18.out)
        refine value_ (w1 := ?_) (v := ?_) (by rfl) rfl ?_ ?_
        rotate_left 2
        · go_simp
          constructor
          · rfl
          · rfl
        refine hK.out _ _ trivial (fun hHeld => ?_)
        clear hK K
        refine norm_ (a' := ?_) ?_ ?_
        rotate_left
        · show Act.put _ (some 91) _ = _
          simp only [Act.put, List.setIfInBounds_toArray, List.set_cons_zero, List.set_cons_succ, i64_w, i32_w]
          rfl
        refine pure_ (i := 5) (N := some 92) (v := ?_) (a' := ?_) #[true, true, true, true, true, true, false, false, false, false, false, false, false] rfl rfl (any_of HT_.out (by kernel_rfl)) (fun _ _ _ h => h) (Or.inl ⟨by rfl, ?_⟩) ?_ ?_
        rotate_left
        · intro w'
          go_simp
          with_reducible rfl
        rotate_left
        · simp only [Act.put, List.setIfInBounds_toArray, List.set_cons_zero, List.set_cons_succ, i64_w, i32_w]
          rfl
        refine pure_ (i := 6) (N := some 93) (v := ?_) (a' := ?_) #[true, true, true, true, true, true, true, false, false, false, false, false, false] rfl rfl (any_of HT_.out (by kernel_rfl)) (fun _ _ _ h => h) (Or.inl ⟨by rfl, ?_⟩) ?_ ?_
        rotate_left
        · intro w'
          go_simp
          with_reducible rfl
        rotate_left
        · simp only [Act.put, List.setIfInBounds_toArray, List.set_cons_zero, List.set_cons_succ, i64_w, i32_w]
          rfl
        refine pure_ (i := 7) (N := some 94) (v := ?_) (a' := ?_) #[true, true, true, true, true, true, true, true, false, false, false, false, false] rfl rfl (any_of HT_.out (by kernel_rfl)) (fun _ _ _ h => h) (Or.inl ⟨by rfl, ?_⟩) ?_ ?_
        rotate_left
        · intro w'
          go_simp
          with_reducible rfl
        rotate_left
        · simp only [Act.put, List.setIfInBounds_toArray, List.set_cons_zero, List.set_cons_succ, i64_w, i32_w]
          rfl
        refine pure_ (i := 9) (N := some 96) (v := ?_) (a' := ?_) #[true, true, true, true, true, true, true, true, false, true, false, false, false] rfl rfl (any_of HT_.out (by kernel_rfl)) (fun _ _ _ h => h) (Or.inl ⟨by rfl, ?_⟩) ?_ ?_
        rotate_left
        · intro w'
          go_simp
          with_reducible rfl
        rotate_left
        · simp only [Act.put, List.setIfInBounds_toArray, List.set_cons_zero, List.set_cons_succ, i64_w, i32_w]
          rfl
        refine pure_ (i := 10) (N := some 97) (v := ?_) (a' := ?_) #[true, true, true, true, true, true, true, true, false, true, true, false, false] rfl rfl (any_of HT_.out (by kernel_rfl)) (fun _ _ _ h => h) (Or.inl ⟨by rfl, ?_⟩) ?_ ?_
        rotate_left
        · intro w'
          go_simp
          with_reducible rfl
        rotate_left
        · simp only [Act.put, List.setIfInBounds_toArray, List.set_cons_zero, List.set_cons_succ, i64_w, i32_w]
          rfl
        refine one_ (i := 8) (N := some 95) #[true, true, true, true, true, true, true, true, true, true, true, false, false] rfl rfl (one_of HT_.out (by kernel_rfl)) (by decide) (fun K hK => ?_)
        refine goes_ Try.func16 (by kernel_rfl) rfl #[.pointer (some ⟨g, 0, none⟩)] (by rfl) rfl rfl (by (try simp only [List.map_toArray, List.map_cons, List.map_nil]); first | done | rfl | (go_simp; done) | simp [Act.eval]) ?_
        refine (bitioLen_calls _ _ _ _ _ HP.out.ws).mono ?_
        rintro e w17 ⟨rfl, hb⟩
        have n0 := Aside0.mk (HP.out.below hb)
        have n1 := Aside0.mk (Kd.R_below H10.out hb)
        clear HP H10 hb
        have HP := n0
        have H10 := n1
        clear n0 n1
        refine ⟨_, rfl, ?_⟩
        refine hK.out _ _ trivial (fun hHeld => ?_)
        clear hK K
        refine norm_ (a' := ?_) ?_ ?_
        rotate_left
        · show Act.put _ (some 95) _ = _
          simp only [Act.put, List.setIfInBounds_toArray, List.set_cons_zero, List.set_cons_succ, i64_w, i32_w]
          rfl
        refine pure_ (i := 11) (N := some 98) (v := ?_) (a' := ?_) #[true, true, true, true, true, true, true, true, true, true, true, true, false] rfl rfl (any_of HT_.out (by kernel_rfl)) (fun _ _ _ h => h) (Or.inl ⟨by rfl, ?_⟩) ?_ ?_
        rotate_left
        · intro w'
          go_simp
          with_reducible rfl
        rotate_left
        · simp only [Act.put, List.setIfInBounds_toArray, List.set_cons_zero, List.set_cons_succ, i64_w, i32_w]
          rfl
        refine pure_ (i := 12) (N := some 99) (v := ?_) (a' := ?_) #[true, true, true, true, true, true, true, true, true, true, true, true, true] rfl rfl (any_of HT_.out (by kernel_rfl)) (fun _ _ _ h => h) (Or.inl ⟨by rfl, ?_⟩) ?_ ?_
        rotate_left
        · intro w'
          go_simp
          with_reducible rfl
        rotate_left
        · simp only [Act.put, List.setIfInBounds_toArray, List.set_cons_zero, List.set_cons_succ, i64_w, i32_w]
          rfl
        refine done_ (done_of HT_.out (by kernel_rfl)) ?_
        clear H18 HRF
        go_wp2_with fail
        refine (bitioOf_calls A10 c10 BS w17 (Kd.R_reads' H10.out).2.2 (Kd.R_reads' H10.out).2.1 2000 (ofl BS) (bof_f BS HB8.out (by have := HBL.out; omega) 2000 (by have := HBL.out; omega))).mono ?_
        rintro e w18 ⟨g2, v2, rfl, hg2, hrs, hb⟩
        obtain ⟨z, hz, eo⟩ := HOB.out
        rw [eo] at hrs
        obtain ⟨n2, hn2⟩ : ∃ n2, n2 = w17.heap.size := ⟨_, rfl⟩
        rw [← hn2] at hrs hg2
        have hin := Kd.R_mono (Kd.R_bound HP.out.in_) (ok' := fun k => k < n2) (fun k ok => by rw [hn2]; exact ok.2.2.1)
        have H6 := Aside0.mk (Kd.R_below hin hb)
        have HRS := Aside0.mk hrs
        have h0n := HP.out.bel.size
        rw [← hn2] at h0n
        have HB := Aside0.mk (below_step HP.out.bel hb)
        clear eo hrs hin hb hn2 HP H10 HOB HB8 HBF HBL
        go_wp2_with fail
        go_loopw [12] (fun v12 wr => ∃ (j : Nat), v12 = .int .i64 (j : Int) ∧ j ≤ ins.length ∧ (∃ v, Aside0 (RS wr n2 g2 v ((ins.drop j).flatMap (fun p => putL p.1 p.2) ++ List.replicate z 0))) ∧ Aside0 (Kd.R kNum 45 wr w.heap.size (fun k => k < n2) (.slice A6 ins.length c6) ins) ∧ Aside0 (Below w.heap.size w wr)) (fun v12 _ => ins.length - (intOf v12).toNat)
        case atStart => exact ⟨0, by simp, by omega, ⟨v2, ⟨by rw [List.drop_zero, ← HXS.out]; exact HRS.out⟩⟩, H6, HB⟩
        case round =>
          clear HRS H6 HB
          obtain ⟨j, rfl, hj, ⟨v3, HRS⟩, H6, HB⟩ := hrel
          by_cases hjl : j < ins.length
          · have hjb : decide ((j : Int) < (ins.length : Int)) = true := decide_eq_true (by omega)
            obtain ⟨ad, rfl, hx, hy⟩ := puts_at (Kd.R_reads' H6.out).2.2 j hjl
            obtain ⟨n, hn⟩ : ∃ n, n = (ins[j]).1 := ⟨_, rfl⟩
            obtain ⟨wd, hwd⟩ : ∃ wd, wd = (ins[j]).2 := ⟨_, rfl⟩
            have hpe := (HI.out.2 _ (List.getElem_mem hjl)).1
            have hdr : (ins.drop j).flatMap (fun p => putL p.1 p.2) ++ List.replicate z 0 = putL n wd ++ ((ins.drop (j + 1)).flatMap (fun p => putL p.1 p.2) ++ List.replicate z 0) := by
              rw [List.drop_eq_getElem_cons hjl, List.flatMap_cons, List.append_assoc, hn, hwd]
            rw [← hn] at hx hpe
            rw [← hwd] at hy hpe
            have htk := take_put n wd ((ins.drop (j + 1)).flatMap (fun p => putL p.1 p.2) ++ List.replicate z 0) hpe
            have hct := bitioTake_calls n2 g2 v3 _ wd wr HRS.out hg2
            rw [hdr, htk.1, htk.2.1, htk.2.2] at hct
            have HNW := Aside0.mk (And.intro hn hwd)
            clear hdr htk hpe hn hwd
            go_wp2_with fail
            refine hct.mono ?_
            rintro e w20 ⟨rfl, ⟨v4, h4⟩, hF⟩
            have HB20 := Aside0.mk (Below.trans HB.out (hF.below HB.out.size (by omega) (by simp [Value.ownBlock])))
            have H620 := Aside0.mk (Kd.R_step H6.out (fun k ok hk => hF.at k hk (by omega)))
            have HR20 := Aside0.mk h4
            clear hct h4 hF HB H6 HRS hx hy
            obtain ⟨ad2, e2, hx2, hy2⟩ := puts_at (Kd.R_reads' H620.out).2.2 j hjl
            obtain rfl : ad = ad2 := by injection e2
            rw [← HNW.out.1] at hx2
            rw [← HNW.out.2] at hy2
            go_wp2
            go_roundw
            case rel => exact ⟨j + 1, by simp, by omega, ⟨v4, HR20⟩, H620, HB20⟩
            case measure => simp [intOf]; omega
          · obtain rfl : ins.length = j := by omega
            have hjb : decide ((ins.length : Int) < (ins.length : Int)) = false := decide_eq_false (by omega)
            rw [List.drop_length, List.flatMap_nil, List.nil_append] at HRS
            have hwf := weight_f (List.replicate z (0 : Int)) (by rw [List.length_replicate]; omega) 2000 (by rw [List.length_replicate]; omega)
            rw [wt_rep z] at hwf
            have hpc := bitioPad_calls n2 g2 v3 _ wr HRS.out hg2 2000 0 hwf
            have hp0 : pdE (List.replicate z (0 : Int)) 0 = 0 := by unfold pdE; rw [if_neg (by rw [List.length_replicate]; omega), if_pos rfl]
            have hl0 : pdL (List.replicate z (0 : Int)) 0 = [] := by unfold pdL; rw [hp0]; rfl
            rw [hp0, hl0] at hpc
            clear hp0 hl0 hwf
            go_wp2_with fail
            refine hpc.mono ?_
            rintro e w21 ⟨rfl, ⟨v5, h5⟩, hF⟩
            have HB21 := Aside0.mk (Below.trans HB.out (hF.below HB.out.size (by omega) (by simp [Value.ownBlock])))
            have HS5 := Aside0.mk h5
            clear hpc h5 hF
            go_wp2_with (go_at_call 22; refine (bitioLeft_calls _ _ _ _ _ HS5.out).mono ?_; rintro e w22 ⟨rfl, hb⟩; have n0 := Aside0.mk (below_step HB21.out hb); clear HB21 hb; have HB21 := n0; clear n0)
            go_ret
            exact ⟨by simp, HB21.out⟩
      · skip
        refine goes_ Try.func18 (by kernel_rfl) rfl #[.slice A5 xs.length c5] (by rfl) rfl rfl (by (try simp only [List.map_toArray, List.map_cons, List.map_nil]); first | done | rfl | (go_simp; done) | simp [Act.eval]) ?_
        refine (shuttleref01_Bytes.calls 10000 A5 c5 xs BS _ (Kd.R_reads' HP.out.all).2.2 (Kd.R_reads' HP.out.all).2.1 HRF.out).mono ?_
        rintro e w16 ⟨v18, rfl, h18, hb⟩
        have H18 := Aside0.mk h18
        have n0 := Aside0.mk (HP.out.below hb)
        have n1 := Aside0.mk (Kd.R_below H10.out hb)
        clear HP H10 h18 hb
        have HP := n0
        have H10 := n1
        clear n0 n1
        refine ⟨_, rfl, ?_⟩
        refine hK.out _ _ trivial (fun hHeld => ?_)
        clear hK K
        refine norm_ (a' := ?_) ?_ ?_
        rotate_left
        · show Act.put _ (some 90) _ = _
          simp only [Act.put, List.setIfInBounds_toArray, List.set_cons_zero, List.set_cons_succ, i64_w, i32_w]
          rfl
        refine two_ (i := 1) (j := 4) (Ni := some 88) (Nj := some 91) #[true, true, true, true, false, false, false, false, false, false, false, false, false] #[true, false, true, true, true, false, false, false, false, false, false, false, false] rfl rfl rfl rfl (two_of HT_.out (by kernel_rfl)) (by decide) (by decide) (fun K hK => ?_) (fun K hK => ?_)
        · skip
          have hcva := own_string (P := Try.prog) Try.underlying22 Try.underlying5 Try.underlying9 (Kd.own_of_R H10.out)
          refine value_ (w1 := ?_) (v := ?_) (by rfl) rfl ?_ ?_
          rotate_left 2
          · go_simp
            constructor
            · rfl
            · rfl
          refine hK.out _ _ trivial (fun hHeld => ?_)
          clear hK K
          refine norm_ (a' := ?_) ?_ ?_
          rotate_left
          · show Act.put _ (some 88) _ = _
            simp only [Act.put, List.setIfInBounds_toArray, List.set_cons_zero, List.set_cons_succ, i64_w, i32_w]
            rfl
          refine one_ (i := 4) (N := some 91) #[true, true, true, true, true, false, false, false, false, false, false, false, false] rfl rfl (one_of HT_.out (by kernel_rfl)) (by decide) (fun K hK => ?_)
          have hcvb := own_string (P := Try.prog) Try.underlying22 Try.underlying5 Try.underlying9 (Kd.own_of_R H18.out)
          refine value_ (w1 := ?_) (v := ?_) (by rfl) rfl ?_ ?_
          rotate_left 2
          · go_simp
            constructor
            · rfl
            · rfl
          refine hK.out _ _ trivial (fun hHeld => ?_)
          clear hK K
          refine norm_ (a' := ?_) ?_ ?_
          rotate_left
          · show Act.put _ (some 91) _ = _
            simp only [Act.put, List.setIfInBounds_toArray, List.set_cons_zero, List.set_cons_succ, i64_w, i32_w]
            rfl
          refine pure_ (i := 5) (N := some 92) (v := ?_) (a' := ?_) #[true, true, true, true, true, true, false, false, false, false, false, false, false] rfl rfl (any_of HT_.out (by kernel_rfl)) (fun _ _ _ h => h) (Or.inl ⟨by rfl, ?_⟩) ?_ ?_
          rotate_left
          · intro w'
            go_simp
            with_reducible rfl
          rotate_left
          · simp only [Act.put, List.setIfInBounds_toArray, List.set_cons_zero, List.set_cons_succ, i64_w, i32_w]
            rfl
          refine pure_ (i := 6) (N := some 93) (v := ?_) (a' := ?_) #[true, true, true, true, true, true, true, false, false, false, false, false, false] rfl rfl (any_of HT_.out (by kernel_rfl)) (fun _ _ _ h => h) (Or.inl ⟨by rfl, ?_⟩) ?_ ?_
          rotate_left
          · intro w'
            go_simp
            with_reducible rfl
          rotate_left
          · simp only [Act.put, List.setIfInBounds_toArray, List.set_cons_zero, List.set_cons_succ, i64_w, i32_w]
            rfl
          refine pure_ (i := 7) (N := some 94) (v := ?_) (a' := ?_) #[true, true, true, true, true, true, true, true, false, false, false, false, false] rfl rfl (any_of HT_.out (by kernel_rfl)) (fun _ _ _ h => h) (Or.inl ⟨by rfl, ?_⟩) ?_ ?_
          rotate_left
          · intro w'
            go_simp
            with_reducible rfl
          rotate_left
          · simp only [Act.put, List.setIfInBounds_toArray, List.set_cons_zero, List.set_cons_succ, i64_w, i32_w]
            rfl
          refine pure_ (i := 9) (N := some 96) (v := ?_) (a' := ?_) #[true, true, true, true, true, true, true, true, false, true, false, false, false] rfl rfl (any_of HT_.out (by kernel_rfl)) (fun _ _ _ h => h) (Or.inl ⟨by rfl, ?_⟩) ?_ ?_
          rotate_left
          · intro w'
            go_simp
            with_reducible rfl
          rotate_left
          · simp only [Act.put, List.setIfInBounds_toArray, List.set_cons_zero, List.set_cons_succ, i64_w, i32_w]
            rfl
          refine pure_ (i := 10) (N := some 97) (v := ?_) (a' := ?_) #[true, true, true, true, true, true, true, true, false, true, true, false, false] rfl rfl (any_of HT_.out (by kernel_rfl)) (fun _ _ _ h => h) (Or.inl ⟨by rfl, ?_⟩) ?_ ?_
          rotate_left
          · intro w'
            go_simp
            with_reducible rfl
          rotate_left
          · simp only [Act.put, List.setIfInBounds_toArray, List.set_cons_zero, List.set_cons_succ, i64_w, i32_w]
            rfl
          refine one_ (i := 8) (N := some 95) #[true, true, true, true, true, true, true, true, true, true, true, false, false] rfl rfl (one_of HT_.out (by kernel_rfl)) (by decide) (fun K hK => ?_)
          refine goes_ Try.func16 (by kernel_rfl) rfl #[.pointer (some ⟨g, 0, none⟩)] (by rfl) rfl rfl (by (try simp only [List.map_toArray, List.map_cons, List.map_nil]); first | done | rfl | (go_simp; done) | simp [Act.eval]) ?_
          refine (bitioLen_calls _ _ _ _ _ HP.out.ws).mono ?_
          rintro e w17 ⟨rfl, hb⟩
          have n0 := Aside0.mk (HP.out.below hb)
          have n1 := Aside0.mk (Kd.R_below H10.out hb)
          clear HP H10 hb
          have HP := n0
          have H10 := n1
          clear n0 n1
          refine ⟨_, rfl, ?_⟩
          refine hK.out _ _ trivial (fun hHeld => ?_)
          clear hK K
          refine norm_ (a' := ?_) ?_ ?_
          rotate_left
          · show Act.put _ (some 95) _ = _
            simp only [Act.put, List.setIfInBounds_toArray, List.set_cons_zero, List.set_cons_succ, i64_w, i32_w]
            rfl
          refine pure_ (i := 11) (N := some 98) (v := ?_) (a' := ?_) #[true, true, true, true, true, true, true, true, true, true, true, true, false] rfl rfl (any_of HT_.out (by kernel_rfl)) (fun _ _ _ h => h) (Or.inl ⟨by rfl, ?_⟩) ?_ ?_
          rotate_left
          · intro w'
            go_simp
            with_reducible rfl
          rotate_left
          · simp only [Act.put, List.setIfInBounds_toArray, List.set_cons_zero, List.set_cons_succ, i64_w, i32_w]
            rfl
          refine pure_ (i := 12) (N := some 99) (v := ?_) (a' := ?_) #[true, true, true, true, true, true, true, true, true, true, true, true, true] rfl rfl (any_of HT_.out (by kernel_rfl)) (fun _ _ _ h => h) (Or.inl ⟨by rfl, ?_⟩) ?_ ?_
          rotate_left
          · intro w'
            go_simp
            with_reducible rfl
          rotate_left
          · simp only [Act.put, List.setIfInBounds_toArray, List.set_cons_zero, List.set_cons_succ, i64_w, i32_w]
            rfl
          refine done_ (done_of HT_.out (by kernel_rfl)) ?_
          clear H18 HRF
          go_wp2_with fail
          refine (bitioOf_calls A10 c10 BS w17 (Kd.R_reads' H10.out).2.2 (Kd.R_reads' H10.out).2.1 2000 (ofl BS) (bof_f BS HB8.out (by have := HBL.out; omega) 2000 (by have := HBL.out; omega))).mono ?_
          rintro e w18 ⟨g2, v2, rfl, hg2, hrs, hb⟩
          obtain ⟨z, hz, eo⟩ := HOB.out
          rw [eo] at hrs
          obtain ⟨n2, hn2⟩ : ∃ n2, n2 = w17.heap.size := ⟨_, rfl⟩
          rw [← hn2] at hrs hg2
          have hin := Kd.R_mono (Kd.R_bound HP.out.in_) (ok' := fun k => k < n2) (fun k ok => by rw [hn2]; exact ok.2.2.1)
          have H6 := Aside0.mk (Kd.R_below hin hb)
          have HRS := Aside0.mk hrs
          have h0n := HP.out.bel.size
          rw [← hn2] at h0n
          have HB := Aside0.mk (below_step HP.out.bel hb)
          clear eo hrs hin hb hn2 HP H10 HOB HB8 HBF HBL
          go_wp2_with fail
          go_loopw [12] (fun v12 wr => ∃ (j : Nat), v12 = .int .i64 (j : Int) ∧ j ≤ ins.length ∧ (∃ v, Aside0 (RS wr n2 g2 v ((ins.drop j).flatMap (fun p => putL p.1 p.2) ++ List.replicate z 0))) ∧ Aside0 (Kd.R kNum 45 wr w.heap.size (fun k => k < n2) (.slice A6 ins.length c6) ins) ∧ Aside0 (Below w.heap.size w wr)) (fun v12 _ => ins.length - (intOf v12).toNat)
          case atStart => exact ⟨0, by simp, by omega, ⟨v2, ⟨by rw [List.drop_zero, ← HXS.out]; exact HRS.out⟩⟩, H6, HB⟩
          case round =>
            clear HRS H6 HB
            obtain ⟨j, rfl, hj, ⟨v3, HRS⟩, H6, HB⟩ := hrel
            by_cases hjl : j < ins.length
            · have hjb : decide ((j : Int) < (ins.length : Int)) = true := decide_eq_true (by omega)
              obtain ⟨ad, rfl, hx, hy⟩ := puts_at (Kd.R_reads' H6.out).2.2 j hjl
              obtain ⟨n, hn⟩ : ∃ n, n = (ins[j]).1 := ⟨_, rfl⟩
              obtain ⟨wd, hwd⟩ : ∃ wd, wd = (ins[j]).2 := ⟨_, rfl⟩
              have hpe := (HI.out.2 _ (List.getElem_mem hjl)).1
              have hdr : (ins.drop j).flatMap (fun p => putL p.1 p.2) ++ List.replicate z 0 = putL n wd ++ ((ins.drop (j + 1)).flatMap (fun p => putL p.1 p.2) ++ List.replicate z 0) := by
                rw [List.drop_eq_getElem_cons hjl, List.flatMap_cons, List.append_assoc, hn, hwd]
              rw [← hn] at hx hpe
              rw [← hwd] at hy hpe
              have htk := take_put n wd ((ins.drop (j + 1)).flatMap (fun p => putL p.1 p.2) ++ List.replicate z 0) hpe
              have hct := bitioTake_calls n2 g2 v3 _ wd wr HRS.out hg2
              rw [hdr, htk.1, htk.2.1, htk.2.2] at hct
              have HNW := Aside0.mk (And.intro hn hwd)
              clear hdr htk hpe hn hwd
              go_wp2_with fail
              refine hct.mono ?_
              rintro e w20 ⟨rfl, ⟨v4, h4⟩, hF⟩
              have HB20 := Aside0.mk (Below.trans HB.out (hF.below HB.out.size (by omega) (by simp [Value.ownBlock])))
              have H620 := Aside0.mk (Kd.R_step H6.out (fun k ok hk => hF.at k hk (by omega)))
              have HR20 := Aside0.mk h4
              clear hct h4 hF HB H6 HRS hx hy
              obtain ⟨ad2, e2, hx2, hy2⟩ := puts_at (Kd.R_reads' H620.out).2.2 j hjl
              obtain rfl : ad = ad2 := by injection e2
              rw [← HNW.out.1] at hx2
              rw [← HNW.out.2] at hy2
              go_wp2
              go_roundw
              case rel => exact ⟨j + 1, by simp, by omega, ⟨v4, HR20⟩, H620, HB20⟩
              case measure => simp [intOf]; omega
            · obtain rfl : ins.length = j := by omega
              have hjb : decide ((ins.length : Int) < (ins.length : Int)) = false := decide_eq_false (by omega)
              rw [List.drop_length, List.flatMap_nil, List.nil_append] at HRS
              have hwf := weight_f (List.replicate z (0 : Int)) (by rw [List.length_replicate]; omega) 2000 (by rw [List.length_replicate]; omega)
              rw [wt_rep z] at hwf
              have hpc := bitioPad_calls n2 g2 v3 _ wr HRS.out hg2 2000 0 hwf
              have hp0 : pdE (List.replicate z (0 : Int)) 0 = 0 := by unfold pdE; rw [if_neg (by rw [List.length_replicate]; omega), if_pos rfl]
              have hl0 : pdL (List.replicate z (0 : Int)) 0 = [] := by unfold pdL; rw [hp0]; rfl
              rw [hp0, hl0] at hpc
              clear hp0 hl0 hwf
              go_wp2_with fail
              refine hpc.mono ?_
              rintro e w21 ⟨rfl, ⟨v5, h5⟩, hF⟩
              have HB21 := Aside0.mk (Below.trans HB.out (hF.below HB.out.size (by omega) (by simp [Value.ownBlock])))
              have HS5 := Aside0.mk h5
              clear hpc h5 hF
              go_wp2_with (go_at_call 22; refine (bitioLeft_calls _ _ _ _ _ HS5.out).mono ?_; rintro e w22 ⟨rfl, hb⟩; have n0 := Aside0.mk (below_step HB21.out hb); clear HB21 hb; have HB21 := n0; clear n0)
              go_ret
              exact ⟨by simp, HB21.out⟩
        · skip
          have hcvb := own_string (P := Try.prog) Try.underlying22 Try.underlying5 Try.underlying9 (Kd.own_of_R H18.out)
          refine value_ (w1 := ?_) (v := ?_) (by rfl) rfl ?_ ?_
          rotate_left 2
          · go_simp
            constructor
            · rfl
            · rfl
          refine hK.out _ _ trivial (fun hHeld => ?_)
          clear hK K
          refine norm_ (a' := ?_) ?_ ?_
          rotate_left
          · show Act.put _ (some 91) _ = _
            simp only [Act.put, List.setIfInBounds_toArray, List.set_cons_zero, List.set_cons_succ, i64_w, i32_w]
            rfl
          refine one_ (i := 1) (N := some 88) #[true, true, true, true, true, false, false, false, false, false, false, false, false] rfl rfl (one_of HT_.out (by kernel_rfl)) (by decide) (fun K hK => ?_)
          have hcva := own_string (P := Try.prog) Try.underlying22 Try.underlying5 Try.underlying9 (Kd.own_of_R H10.out)
          refine value_ (w1 := ?_) (v := ?_) (by rfl) rfl ?_ ?_
          rotate_left 2
          · go_simp
            constructor
            · rfl
            · rfl
          refine hK.out _ _ trivial (fun hHeld => ?_)
          clear hK K
          refine norm_ (a' := ?_) ?_ ?_
          rotate_left
          · show Act.put _ (some 88) _ = _
            simp only [Act.put, List.setIfInBounds_toArray, List.set_cons_zero, List.set_cons_succ, i64_w, i32_w]
            rfl
          refine pure_ (i := 5) (N := some 92) (v := ?_) (a' := ?_) #[true, true, true, true, true, true, false, false, false, false, false, false, false] rfl rfl (any_of HT_.out (by kernel_rfl)) (fun _ _ _ h => h) (Or.inl ⟨by rfl, ?_⟩) ?_ ?_
          rotate_left
          · intro w'
            go_simp
            with_reducible rfl
          rotate_left
          · simp only [Act.put, List.setIfInBounds_toArray, List.set_cons_zero, List.set_cons_succ, i64_w, i32_w]
            rfl
          refine pure_ (i := 6) (N := some 93) (v := ?_) (a' := ?_) #[true, true, true, true, true, true, true, false, false, false, false, false, false] rfl rfl (any_of HT_.out (by kernel_rfl)) (fun _ _ _ h => h) (Or.inl ⟨by rfl, ?_⟩) ?_ ?_
          rotate_left
          · intro w'
            go_simp
            with_reducible rfl
          rotate_left
          · simp only [Act.put, List.setIfInBounds_toArray, List.set_cons_zero, List.set_cons_succ, i64_w, i32_w]
            rfl
          refine pure_ (i := 7) (N := some 94) (v := ?_) (a' := ?_) #[true, true, true, true, true, true, true, true, false, false, false, false, false] rfl rfl (any_of HT_.out (by kernel_rfl)) (fun _ _ _ h => h) (Or.inl ⟨by rfl, ?_⟩) ?_ ?_
          rotate_left
          · intro w'
            go_simp
            with_reducible rfl
          rotate_left
          · simp only [Act.put, List.setIfInBounds_toArray, List.set_cons_zero, List.set_cons_succ, i64_w, i32_w]
            rfl
          refine pure_ (i := 9) (N := some 96) (v := ?_) (a' := ?_) #[true, true, true, true, true, true, true, true, false, true, false, false, false] rfl rfl (any_of HT_.out (by kernel_rfl)) (fun _ _ _ h => h) (Or.inl ⟨by rfl, ?_⟩) ?_ ?_
          rotate_left
          · intro w'
            go_simp
            with_reducible rfl
          rotate_left
          · simp only [Act.put, List.setIfInBounds_toArray, List.set_cons_zero, List.set_cons_succ, i64_w, i32_w]
            rfl
          refine pure_ (i := 10) (N := some 97) (v := ?_) (a' := ?_) #[true, true, true, true, true, true, true, true, false, true, true, false, false] rfl rfl (any_of HT_.out (by kernel_rfl)) (fun _ _ _ h => h) (Or.inl ⟨by rfl, ?_⟩) ?_ ?_
          rotate_left
          · intro w'
            go_simp
            with_reducible rfl
          rotate_left
          · simp only [Act.put, List.setIfInBounds_toArray, List.set_cons_zero, List.set_cons_succ, i64_w, i32_w]
            rfl
          refine one_ (i := 8) (N := some 95) #[true, true, true, true, true, true, true, true, true, true, true, false, false] rfl rfl (one_of HT_.out (by kernel_rfl)) (by decide) (fun K hK => ?_)
          refine goes_ Try.func16 (by kernel_rfl) rfl #[.pointer (some ⟨g, 0, none⟩)] (by rfl) rfl rfl (by (try simp only [List.map_toArray, List.map_cons, List.map_nil]); first | done | rfl | (go_simp; done) | simp [Act.eval]) ?_
          refine (bitioLen_calls _ _ _ _ _ HP.out.ws).mono ?_
          rintro e w17 ⟨rfl, hb⟩
          have n0 := Aside0.mk (HP.out.below hb)
          have n1 := Aside0.mk (Kd.R_below H10.out hb)
          clear HP H10 hb
          have HP := n0
          have H10 := n1
          clear n0 n1
          refine ⟨_, rfl, ?_⟩
          refine hK.out _ _ trivial (fun hHeld => ?_)
          clear hK K
          refine norm_ (a' := ?_) ?_ ?_
          rotate_left
          · show Act.put _ (some 95) _ = _
            simp only [Act.put, List.setIfInBounds_toArray, List.set_cons_zero, List.set_cons_succ, i64_w, i32_w]
            rfl
          refine pure_ (i := 11) (N := some 98) (v := ?_) (a' := ?_) #[true, true, true, true, true, true, true, true, true, true, true, true, false] rfl rfl (any_of HT_.out (by kernel_rfl)) (fun _ _ _ h => h) (Or.inl ⟨by rfl, ?_⟩) ?_ ?_
          rotate_left
          · intro w'
            go_simp
            with_reducible rfl
          rotate_left
          · simp only [Act.put, List.setIfInBounds_toArray, List.set_cons_zero, List.set_cons_succ, i64_w, i32_w]
            rfl
          refine pure_ (i := 12) (N := some 99) (v := ?_) (a' := ?_) #[true, true, true, true, true, true, true, true, true, true, true, true, true] rfl rfl (any_of HT_.out (by kernel_rfl)) (fun _ _ _ h => h) (Or.inl ⟨by rfl, ?_⟩) ?_ ?_
          rotate_left
          · intro w'
            go_simp
            with_reducible rfl
          rotate_left
          · simp only [Act.put, List.setIfInBounds_toArray, List.set_cons_zero, List.set_cons_succ, i64_w, i32_w]
            rfl
          refine done_ (done_of HT_.out (by kernel_rfl)) ?_
          clear H18 HRF
          go_wp2_with fail
          refine (bitioOf_calls A10 c10 BS w17 (Kd.R_reads' H10.out).2.2 (Kd.R_reads' H10.out).2.1 2000 (ofl BS) (bof_f BS HB8.out (by have := HBL.out; omega) 2000 (by have := HBL.out; omega))).mono ?_
          rintro e w18 ⟨g2, v2, rfl, hg2, hrs, hb⟩
          obtain ⟨z, hz, eo⟩ := HOB.out
          rw [eo] at hrs
          obtain ⟨n2, hn2⟩ : ∃ n2, n2 = w17.heap.size := ⟨_, rfl⟩
          rw [← hn2] at hrs hg2
          have hin := Kd.R_mono (Kd.R_bound HP.out.in_) (ok' := fun k => k < n2) (fun k ok => by rw [hn2]; exact ok.2.2.1)
          have H6 := Aside0.mk (Kd.R_below hin hb)
          have HRS := Aside0.mk hrs
          have h0n := HP.out.bel.size
          rw [← hn2] at h0n
          have HB := Aside0.mk (below_step HP.out.bel hb)
          clear eo hrs hin hb hn2 HP H10 HOB HB8 HBF HBL
          go_wp2_with fail
          go_loopw [12] (fun v12 wr => ∃ (j : Nat), v12 = .int .i64 (j : Int) ∧ j ≤ ins.length ∧ (∃ v, Aside0 (RS wr n2 g2 v ((ins.drop j).flatMap (fun p => putL p.1 p.2) ++ List.replicate z 0))) ∧ Aside0 (Kd.R kNum 45 wr w.heap.size (fun k => k < n2) (.slice A6 ins.length c6) ins) ∧ Aside0 (Below w.heap.size w wr)) (fun v12 _ => ins.length - (intOf v12).toNat)
          case atStart => exact ⟨0, by simp, by omega, ⟨v2, ⟨by rw [List.drop_zero, ← HXS.out]; exact HRS.out⟩⟩, H6, HB⟩
          case round =>
            clear HRS H6 HB
            obtain ⟨j, rfl, hj, ⟨v3, HRS⟩, H6, HB⟩ := hrel
            by_cases hjl : j < ins.length
            · have hjb : decide ((j : Int) < (ins.length : Int)) = true := decide_eq_true (by omega)
              obtain ⟨ad, rfl, hx, hy⟩ := puts_at (Kd.R_reads' H6.out).2.2 j hjl
              obtain ⟨n, hn⟩ : ∃ n, n = (ins[j]).1 := ⟨_, rfl⟩
              obtain ⟨wd, hwd⟩ : ∃ wd, wd = (ins[j]).2 := ⟨_, rfl⟩
              have hpe := (HI.out.2 _ (List.getElem_mem hjl)).1
              have hdr : (ins.drop j).flatMap (fun p => putL p.1 p.2) ++ List.replicate z 0 = putL n wd ++ ((ins.drop (j + 1)).flatMap (fun p => putL p.1 p.2) ++ List.replicate z 0) := by
                rw [List.drop_eq_getElem_cons hjl, List.flatMap_cons, List.append_assoc, hn, hwd]
              rw [← hn] at hx hpe
              rw [← hwd] at hy hpe
              have htk := take_put n wd ((ins.drop (j + 1)).flatMap (fun p => putL p.1 p.2) ++ List.replicate z 0) hpe
              have hct := bitioTake_calls n2 g2 v3 _ wd wr HRS.out hg2
              rw [hdr, htk.1, htk.2.1, htk.2.2] at hct
              have HNW := Aside0.mk (And.intro hn hwd)
              clear hdr htk hpe hn hwd
              go_wp2_with fail
              refine hct.mono ?_
              rintro e w20 ⟨rfl, ⟨v4, h4⟩, hF⟩
              have HB20 := Aside0.mk (Below.trans HB.out (hF.below HB.out.size (by omega) (by simp [Value.ownBlock])))
              have H620 := Aside0.mk (Kd.R_step H6.out (fun k ok hk => hF.at k hk (by omega)))
              have HR20 := Aside0.mk h4
              clear hct h4 hF HB H6 HRS hx hy
              obtain ⟨ad2, e2, hx2, hy2⟩ := puts_at (Kd.R_reads' H620.out).2.2 j hjl
              obtain rfl : ad = ad2 := by injection e2
              rw [← HNW.out.1] at hx2
              rw [← HNW.out.2] at hy2
              go_wp2
              go_roundw
              case rel => exact ⟨j + 1, by simp, by omega, ⟨v4, HR20⟩, H620, HB20⟩
              case measure => simp [intOf]; omega
            · obtain rfl : ins.length = j := by omega
              have hjb : decide ((ins.length : Int) < (ins.length : Int)) = false := decide_eq_false (by omega)
              rw [List.drop_length, List.flatMap_nil, List.nil_append] at HRS
              have hwf := weight_f (List.replicate z (0 : Int)) (by rw [List.length_replicate]; omega) 2000 (by rw [List.length_replicate]; omega)
              rw [wt_rep z] at hwf
              have hpc := bitioPad_calls n2 g2 v3 _ wr HRS.out hg2 2000 0 hwf
              have hp0 : pdE (List.replicate z (0 : Int)) 0 = 0 := by unfold pdE; rw [if_neg (by rw [List.length_replicate]; omega), if_pos rfl]
              have hl0 : pdL (List.replicate z (0 : Int)) 0 = [] := by unfold pdL; rw [hp0]; rfl
              rw [hp0, hl0] at hpc
              clear hp0 hl0 hwf
              go_wp2_with fail
              refine hpc.mono ?_
              rintro e w21 ⟨rfl, ⟨v5, h5⟩, hF⟩
              have HB21 := Aside0.mk (Below.trans HB.out (hF.below HB.out.size (by omega) (by simp [Value.ownBlock])))
              have HS5 := Aside0.mk h5
              clear hpc h5 hF
              go_wp2_with (go_at_call 22; refine (bitioLeft_calls _ _ _ _ _ HS5.out).mono ?_; rintro e w22 ⟨rfl, hb⟩; have n0 := Aside0.mk (below_step HB21.out hb); clear HB21 hb; have HB21 := n0; clear n0)
              go_ret
              exact ⟨by simp, HB21.out⟩
end Go.Proofs.Ytmajbcglpcagoaa.B
