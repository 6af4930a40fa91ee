/- Texts of this seat, one behind the other (merge.py): the walks of the functions that the law ShuttleMends uses, and plain words on what they come to. No condition. -/
import Derived.Laws.BytesArg
import Derived.Test.YteileaajmnbmpaaDoorXMShuttleMends1
namespace Go.Proofs.YteileaajmnbmpaaDoor.P
open Go Go.Proofs Go.RowKit Go.Proofs.YteileaajmnbmpaaDoorW.PrintWords Go.Proofs.YteileaajmnbmpaaDoorW.PrintLast Go.Proofs.YteileaajmnbmpaaDoorW.PrintMore
set_option linter.unusedVariables false
set_option linter.unusedSimpArgs false
-- YteileaajmnbmpaaDoorPVTrace
theorem Put1.row (a : Nat) (w : World) (cs : Array Value) : Put1 a w (w.setRow a cs) := ⟨rfl, rfl, rfl, by simp [World.setRow], fun k hk => setRow_other w a k cs (by omega)⟩
theorem es_lt (n : Nat) : ∀ (u : List Nat) (t s : Nat), okr n t u → s < 64 → es s u < 64
  | [], _, s, _, h => h
  | i :: u, t, s, hu, h => es_lt n u (t + 1) (dst s i) hu.2 (by have := hu.1.1; unfold dst; omega)
def toI (u : List Nat) : List Int := u.map fun k : Nat => (k : Int)
theorem toI_app (u v : List Nat) : toI (u ++ v) = toI u ++ toI v := by unfold toI; rw [List.map_append]
theorem u8_infoV : (Tryd.prog.info? 5).map (fun i => (i.zero, i.size, i.bytes)) = some (some (.int .u8 0), 1, 1) := by kernel_rfl
/-- What the way needs at a step. -/
theorem alone_at {g : Nat → Int} {N n : Nat} {b : List Nat} (h : Alone g N n b) (t : Nat) (ht : t < N) : ∃ p q i, b = p ++ i :: q ∧ p = b.take t ∧ b.take (t + 1) = p ++ [i] ∧ p.length = t ∧ q.length + (t + 1) = N ∧ i < 2 ∧ es 0 p < 64 ∧ es 0 (b.take (t + 1)) = dst (es 0 p) i := by
  obtain ⟨h1, h2, h3, h4⟩ := h
  have hlt : t < b.length := by omega
  have hb : b = b.take t ++ b[t] :: b.drop (t + 1) := by
    rw [← List.drop_eq_getElem_cons hlt, List.take_append_drop]
  have ht1 : b.take (t + 1) = b.take t ++ [b[t]] := List.take_succ_eq_append_getElem hlt
  have hg := okr_get n b 0 t hlt h2
  have hok : okr n 0 (b.take t) := by rw [hb, okr_app] at h2; exact h2.1
  refine ⟨b.take t, b.drop (t + 1), b[t], hb, rfl, ht1, by rw [List.length_take]; omega, by rw [List.length_drop]; omega, hg.1, es_lt n _ 0 0 hok (by decide), ?_⟩
  rw [ht1, es_app]; rfl
theorem hmeasK {t n k : Nat} (h : t < n) (e : k = t + 1) : n - (intOf (Value.int IntKind.i64 (k : Int))).toNat < n - (intOf (Value.int IntKind.i64 (t : Int))).toNat := by
  have q : ∀ z : Int, intOf (Value.int IntKind.i64 z) = z := fun z => rfl
  rw [q, q, Int.toNat_natCast, Int.toNat_natCast]; omega
def trace7.T : Bool × List (List Nat × List Nat) := (true, [([], []), ([], []), ([1], [1]), ([0, 2], [0, 2]), ([], []), ([], []), ([4], [4]), ([6, 5], [5, 6]), ([7], [7]), ([], []), ([], []), ([10], [10]), ([9, 11], [9, 11]), ([3, 8, 12], [3, 8, 12]), ([], []), ([], []), ([], []), ([14, 15], [14, 15]), ([17, 16], [16, 17]), ([18], [18]), ([13, 19], [13, 19])])
def trace7.B : List Nat := [0, 0, 2, 7, 0, 0, 16, 112, 240, 0, 0, 1024, 3584, 8191, 0, 0, 0, 49152, 245760, 507904, 1048575]
theorem trace7.tab : rtab .any (opsOf Tryd.f45 7) = trace7.T := by kernel_rfl
theorem trace7.bits : waitsOk trace7.T.2 trace7.B = true := by kernel_rfl
set_option maxRecDepth 100000 in
set_option maxHeartbeats 8000000 in
theorem trace_calls {w : World} {A : Option Addr} {c : Nat} {L : List Int} (hL : Kd.C (Kd.int .i64) w A L.length L) (hc : L.length ≤ c) (N n : Nat) (hN : L.length = 4 * N) (hN2 : N ≤ 4000) (hLb : ∀ j, -31 ≤ L.getD j 0 ∧ L.getD j 0 ≤ 31) (hn : n ≤ N) {G : Nat} (hG : EB w G 128)
    {H cc : Nat} {Q : List Int} (hH : w.heap[H]? = some (.cells (ints Q) 102 (0, 0))) (hQ : CI (fun j => L.getD j 0) N n 0 Q) (b : List Nat) (hA : Alone (fun j => L.getD j 0) N n b) :
    Calls Tryd.prog 45 #[.slice A (4 * N) c, .int .i64 (n : Int), .pointer (some ⟨G, 0, none⟩), .slice (some ⟨H, 0, none⟩) (N + 1) cc] w fun e w' => ∃ v, e = .returned v ∧ Kd.R (Kd.int .u8) 5 w' w.heap.size (fun _ => True) v (toI (b.take n)) ∧ Below w.heap.size w w' := by
  have HL := Aside0.mk hL
  have HCC := Aside0.mk hc
  have HNL := Aside0.mk hN
  have HLB := Aside0.mk hLb
  have HG := Aside0.mk hG
  have HH := Aside0.mk hH
  have HQ := Aside0.mk hQ
  have HAL := Aside0.mk hA
  obtain ⟨M, hM⟩ : ∃ M, M = N + 1 := ⟨_, rfl⟩
  rw [← hM]
  have hNb : (N : Int) ≤ 4000 := by omega
  have hMb : (M : Int) ≤ 4001 := by omega
  have HN := Aside0.mk (And.intro hN2 (And.intro hn hM))
  clear hL hc hN hLb hG hH hQ hA hM hN2 hn
  go_enter Tryd.func45, Tryd.ntmps45
  go_wp2_with fail
  go_loopw [9, 10, 14] (fun v9 v10 v14 wr => ∃ t : Nat, v14 = .int .i64 (t : Int) ∧ t ≤ n ∧ v10 = .int .i64 ((es 0 (b.take t) : Nat) : Int) ∧ Aside0 (Kd.R (Kd.int .u8) 5 wr w.heap.size (fun _ => True) v9 (toI (b.take t))) ∧ Aside0 (Below w.heap.size w wr)) (fun _ _ v14 _ => n - (intOf v14).toNat)
  case atStart => exact ⟨0, by simp, by omega, by simp [es], ⟨Kd.R_nil _ _ _ _ _⟩, ⟨Below.refl _ _⟩⟩
  case round =>
    obtain ⟨t, rfl, ht, rfl, HO, HB⟩ := hrel
    by_cases hlt : t < n
    · have HLT := Aside0.mk hlt
      obtain ⟨p, q, i, hb, hp, hbt, hpl, hql, hi, hs, hes⟩ := alone_at HAL.out t (by have := HN.out; omega)
      have hpick := alone_pick (g := fun j => L.getD j 0) (fun j => HLB.out j) (by have := HN.out; omega) HAL.out hb hi
      obtain ⟨s, hsd⟩ : ∃ s, s = es 0 p := ⟨_, rfl⟩
      rw [← hp, ← hsd]
      rw [← hsd, hpl] at hpick
      rw [← hsd] at hs
      rw [← hsd] at hes
      have htn : (t : Int) < (n : Int) := by omega
      have hs0 : (0 : Int) ≤ (s : Int) := by omega
      have hs64 : (s : Int) < 64 := by omega
      have HS := Aside0.mk hs
      have HES := Aside0.mk (And.intro hes (And.intro hbt hp))
      obtain ⟨k1, hk1e⟩ : ∃ k1, k1 = t + 1 := ⟨_, rfl⟩
      have hkk : (t : Int) + 1 = (k1 : Int) := by omega
      have hk1M : (k1 : Int) < (M : Int) := by have := HN.out; omega
      have hkM : (t : Int) < (M : Int) := by omega
      have hk10 : (0 : Int) ≤ (k1 : Int) := by omega
      have hk0 : (0 : Int) ≤ (t : Int) := by omega
      obtain ⟨p4, hp4⟩ : ∃ p4, p4 = 4 * t := ⟨_, rfl⟩
      have h4k : 4 * (t : Int) = (p4 : Int) := by omega
      have hp0 : (0 : Int) ≤ (p4 : Int) := by omega
      have hpl2 : (p4 : Int) ≤ 16000 := by omega
      have HE := Aside0.mk (EB.below' HG.out HB.out)
      obtain ⟨e0, e1, e2, e3, e4, e5, e6⟩ := HE.out.edge s 0 hs (by decide)
      simp only [Nat.reduceMul, Nat.add_zero, Nat.add_assoc, Nat.reduceAdd, show 14 * s = s * 14 from Nat.mul_comm 14 s] at e0 e1 e2 e3 e4 e5 e6
      obtain ⟨d0, hd0⟩ : ∃ d, d = dst s 0 := ⟨_, rfl⟩
      obtain ⟨r0, hr0⟩ : ∃ r, r = ob s 0 0 := ⟨_, rfl⟩
      obtain ⟨r1, hr1⟩ : ∃ r, r = ob s 0 1 := ⟨_, rfl⟩
      obtain ⟨r2, hr2⟩ : ∃ r, r = ob s 0 2 := ⟨_, rfl⟩
      obtain ⟨r3, hr3⟩ : ∃ r, r = ob s 0 3 := ⟨_, rfl⟩
      rw [← hd0] at e1
      rw [← hr0] at e3
      rw [← hr1] at e4
      rw [← hr2] at e5
      rw [← hr3] at e6
      have HD0 := Aside0.mk hd0
      have HPK := Aside0.mk hpick
      have HQL := Aside0.mk (And.intro hql (And.intro hk1e hp4))
      have HI := Aside0.mk hi
      clear hlt ht hb hp hbt hpl hql hi hs hes hpick hsd hr0 hr1 hr2 hr3 hd0 hk1e hp4
      go_wp2_with fail
      have hba := below_alloc (Below.refl wr.heap.size wr) (.cells #[.int .i64 (s : Int), .int .i64 (d0 : Int), .int .u8 0, .int .u8 r0, .int .u8 r1, .int .u8 r2, .int .u8 r3] 79)
      have hbb := blk_new wr (.cells #[.int .i64 (s : Int), .int .i64 (d0 : Int), .int .u8 0, .int .u8 r0, .int .u8 r1, .int .u8 r2, .int .u8 r3] 79)
      obtain ⟨w5, hw5⟩ : ∃ w5, w5 = wr.alloc (.cells #[.int .i64 (s : Int), .int .i64 (d0 : Int), .int .u8 0, .int .u8 r0, .int .u8 r1, .int .u8 r2, .int .u8 r3] 79) := ⟨_, rfl⟩
      obtain ⟨a12, ha12⟩ : ∃ a12, a12 = wr.heap.size := ⟨_, rfl⟩
      have HA12 := Aside0.mk (show w.heap.size ≤ a12 by rw [ha12]; exact HB.out.size)
      rw [← hw5] at hba hbb
      rw [← ha12] at hbb
      rw [← hw5, ← ha12]
      have hd6 : Below w5.heap.size w5 w5.drew := below_drew1 (Below.refl _ _)
      have hbw := below_step hba hd6
      have HB6 := Aside0.mk (below_step HB.out hbw)
      have HO6 := Aside0.mk (Kd.R_below (Kd.R_elderB HO.out a12 (by rw [ha12]; exact Nat.le_refl _)) hbw)
      have HK6 := Aside0.mk (show w5.drew.heap[a12]? = some (.cells #[.int .i64 (s : Int), .int .i64 (d0 : Int), .int .u8 0, .int .u8 r0, .int .u8 r1, .int .u8 r2, .int .u8 r3] 79 (0, 0)) from (hd6.block a12 (blk_lt hbb)).trans hbb)
      have HH6 := Aside0.mk ((HB6.out.block H (blk_lt HH.out)).trans HH.out)
      have HDL := Aside0.mk (show (L.drop p4).length = 4 * N - p4 by rw [List.length_drop, HNL.out])
      obtain ⟨i0, hi0, hz0, hz1, hz2⟩ := info_parts i64_info
      obtain ⟨A', hcut0, hA2, hC2⟩ := print_drop_of (P := Tryd.prog) (Value.int .i64) 0 23 3 .i64 Tryd.underlying23 hi0 hz1 A c L (p4 : Int) (by omega) (by have := HNL.out; have := HQL.out; have := HN.out; omega) HCC.out
      have hcut : ∀ W : World, (Instr.slice 23 (.slice A (4 * N) c) (some (.int .i64 (p4 : Int))) none none).run Tryd.prog W = .ok (.slice A' (4 * N - p4) (c - p4)) W := by
        intro W
        have h := hcut0 W
        simp only [Int.toNat_natCast] at h
        rw [HNL.out, HDL.out] at h
        exact h
      have hbest := best_calls (w := w5.drew) (A := A') (c := c - p4) (L := L.drop p4) (Kd.C_of_reads (by have h := hA2 w5.drew (Kd.reads_of_C (Kd.C_below HL.out HB6.out)); rw [Int.toNat_natCast] at h; exact h)) (by have h := HCC.out; rw [List.length_drop]; omega)
        (by rw [HDL.out]; have := HQL.out; have := HN.out; omega) (fun j => by rw [List.getD_eq_getElem?_getD, List.getElem?_drop, ← List.getD_eq_getElem?_getD]; exact HLB.out _) (fun j => L.getD j 0) t (fun j _ => by rw [List.getD_eq_getElem?_getD, List.getElem?_drop, ← List.getD_eq_getElem?_getD, HQL.out.2.2])
        (EB.below' HG.out HB6.out) s HS.out 1 (by omega) 2 (H := H) (o := k1 * 64) (col (fun j => L.getD j 0) N n (N - k1)) (fun u hu => by
          rw [show k1 * 64 + u = 64 * k1 + u by omega]
          refine (blk_cell HH6.out _).trans ((ints_get Q _ (by have := HQ.out.1; have := HQL.out; omega)).trans ?_)
          rw [HQ.out.2 k1 u (by omega) (by have := HQL.out; omega) hu]) (fun u => by
          have h := col_fit (g := fun j => L.getD j 0) (fun j => HLB.out j) N n (N - k1) (by have := HN.out; omega) u
          rcases h with h | h
          · exact .inl h
          · exact .inr (by have := HN.out; omega)) (blk_lt HH6.out)
      rw [HDL.out, show 14 * s = s * 14 by omega] at hbest
      obtain ⟨V, hV⟩ : ∃ V, V = col (fun j => L.getD j 0) N n (N - t) s := ⟨_, rfl⟩
      have hcv : w5.drew.cell? ⟨H, t * 64 + s, none⟩ = some (.int .i64 V) := by
        rw [show t * 64 + s = 64 * t + s by omega]
        refine (blk_cell HH6.out _).trans ((ints_get Q _ (by have := HQ.out.1; have := HQL.out; have := HS.out; omega)).trans ?_)
        rw [HQ.out.2 t s (by omega) (by have := HQL.out; omega) HS.out, hV]
      obtain ⟨B0, hB0⟩ : ∃ B0, B0 = bst (fun j => L.getD j 0) t s (col (fun j => L.getD j 0) N n (N - k1)) 1 := ⟨_, rfl⟩
      rw [← hB0] at hbest
      have hpk : B0 = V ↔ i = 0 := by
        have h := HPK.out
        have e1 : q.length = N - k1 := by have := HQL.out; omega
        have e2 : q.length + 1 = N - t := by have := HQL.out; omega
        rw [e2, e1, ← hB0, ← hV] at h
        exact h
      have HPK2 := Aside0.mk hpk
      have HBE := Aside0.mk hbest
      have HCV := Aside0.mk hcv
      clear hbest hA2 hC2 hcut0 hi0 hz0 hz1 hz2 hd6 hbw hba hbb hw5 ha12 hV hB0 hpk hcv HO HB HPK e0 e1 e2 e3 e4 e5 e6
      have hw4 : wrap64 (p4 : Int) = (p4 : Int) := by unfold wrap64; omega
      have hwk1 : wrap64 (k1 : Int) = (k1 : Int) := by unfold wrap64; omega
      have hmul4 : wrap64 (4 * (t : Int)) = (p4 : Int) := by rw [h4k]; exact hw4
      have hadd1 : wrap64 ((t : Int) + 1) = (k1 : Int) := by rw [hkk]; exact hwk1
      go_wp2_with fail
      refine start_ (n := 21) (S := (fun w' => w'.cell? ⟨H, t * 64 + s, none⟩ = some (.int .i64 V))) (ds := []) #[false, false, false, false, false, false, false, false, false, false, false, false, false, false, false, false, false, false, false, false, false] (by kernel_rfl) rfl rfl HCV.out (fun hHeld => ?_)
      refine with_tabW trace7.tab trace7.bits (fun HT_ HW_ => ?_)
      refine pure_ (i := 0) (N := some 23) (v := ?_) (a' := ?_) #[true, false, false, false, false, false, false, false, false, false, false, false, false, false, false, false, false, false, false, false, false] rfl rfl (any_of HT_.out (by kernel_rfl)) (fun _ _ _ h => h) (Or.inl ⟨by rfl, ?_⟩) ?_ ?_
      rotate_left
      · intro w'
        go_simp
        with_reducible rfl
      rotate_left
      · simp only [Act.put, List.setIfInBounds_toArray, List.set_cons_zero, List.set_cons_succ, i64_w, i32_w]
        rfl
      refine pure_ (i := 1) (N := some 24) (v := ?_) (a' := ?_) #[true, true, false, false, false, false, false, false, false, false, false, false, false, false, false, false, false, false, false, false, false] rfl rfl (any_of HT_.out (by kernel_rfl)) (fun _ _ _ h => h) (Or.inl ⟨by rfl, ?_⟩) ?_ ?_
      rotate_left
      · intro w'
        go_simp
        with_reducible rfl
      rotate_left
      · simp only [Act.put, List.setIfInBounds_toArray, List.set_cons_zero, List.set_cons_succ, i64_w, i32_w]
        rfl
      refine pure_ (i := 2) (N := some 25) (v := ?_) (a' := ?_) #[true, true, true, false, false, false, false, false, false, false, false, false, false, false, false, false, false, false, false, false, false] rfl rfl (any_of HT_.out (by kernel_rfl)) (fun _ _ _ h => h) (Or.inl ⟨by rfl, ?_⟩) ?_ ?_
      rotate_left
      · intro w'
        go_simp
        with_reducible rfl
      rotate_left
      · simp only [Act.put, List.setIfInBounds_toArray, List.set_cons_zero, List.set_cons_succ, i64_w, i32_w]
        rfl
      refine pure_ (i := 3) (N := some 26) (v := ?_) (a' := ?_) #[true, true, true, true, false, false, false, false, false, false, false, false, false, false, false, false, false, false, false, false, false] rfl rfl (any_of HT_.out (by kernel_rfl)) (fun _ _ _ h => h) (Or.inl ⟨by rfl, ?_⟩) ?_ ?_
      rotate_left
      · intro w'
        go_simp
        with_reducible rfl
      rotate_left
      · simp only [Act.put, List.setIfInBounds_toArray, List.set_cons_zero, List.set_cons_succ, i64_w, i32_w]
        rfl
      refine pure_ (i := 4) (N := some 27) (v := ?_) (a' := ?_) #[true, true, true, true, true, false, false, false, false, false, false, false, false, false, false, false, false, false, false, false, false] rfl rfl (any_of HT_.out (by kernel_rfl)) (fun _ _ _ h => h) (Or.inl ⟨by rfl, ?_⟩) ?_ ?_
      rotate_left
      · intro w'
        go_simp
        with_reducible rfl
      rotate_left
      · simp only [Act.put, List.setIfInBounds_toArray, List.set_cons_zero, List.set_cons_succ, i64_w, i32_w]
        rfl
      refine pure_ (i := 5) (N := some 28) (v := ?_) (a' := ?_) #[true, true, true, true, true, true, false, false, false, false, false, false, false, false, false, false, false, false, false, false, false] rfl rfl (any_of HT_.out (by kernel_rfl)) (fun _ _ _ h => h) (Or.inl ⟨by rfl, ?_⟩) ?_ ?_
      rotate_left
      · intro w'
        go_simp
        with_reducible rfl
      rotate_left
      · simp only [Act.put, List.setIfInBounds_toArray, List.set_cons_zero, List.set_cons_succ, i64_w, i32_w]
        rfl
      refine pure_ (i := 6) (N := some 29) (v := ?_) (a' := ?_) #[true, true, true, true, true, true, true, false, false, false, false, false, false, false, false, false, false, false, false, false, false] rfl rfl (any_of HT_.out (by kernel_rfl)) (fun _ _ _ h => h) (Or.inl ⟨by rfl, ?_⟩) ?_ ?_
      rotate_left
      · intro w'
        go_simp
        with_reducible rfl
      rotate_left
      · simp only [Act.put, List.setIfInBounds_toArray, List.set_cons_zero, List.set_cons_succ, i64_w, i32_w]
        rfl
      refine pure_ (i := 7) (N := some 30) (v := ?_) (a' := ?_) #[true, true, true, true, true, true, true, true, false, false, false, false, false, false, false, false, false, false, false, false, false] rfl rfl (any_of HT_.out (by kernel_rfl)) (fun _ _ _ h => h) (Or.inl ⟨by rfl, ?_⟩) ?_ ?_
      rotate_left
      · intro w'
        go_simp
        with_reducible rfl
      rotate_left
      · simp only [Act.put, List.setIfInBounds_toArray, List.set_cons_zero, List.set_cons_succ, i64_w, i32_w]
        rfl
      refine pure_ (i := 8) (N := some 31) (v := ?_) (a' := ?_) #[true, true, true, true, true, true, true, true, true, false, false, false, false, false, false, false, false, false, false, false, false] rfl rfl (any_of HT_.out (by kernel_rfl)) (fun _ _ _ h => h) (Or.inl ⟨by rfl, ?_⟩) ?_ ?_
      rotate_left
      · intro w'
        go_simp
        with_reducible rfl
      rotate_left
      · simp only [Act.put, List.setIfInBounds_toArray, List.set_cons_zero, List.set_cons_succ, i64_w, i32_w]
        rfl
      refine pure_ (i := 9) (N := some 32) (v := ?_) (a' := ?_) #[true, true, true, true, true, true, true, true, true, true, false, false, false, false, false, false, false, false, false, false, false] rfl rfl (any_of HT_.out (by kernel_rfl)) (fun _ _ _ h => h) (Or.inl ⟨by rfl, ?_⟩) ?_ ?_
      rotate_left
      · intro w'
        go_simp
        with_reducible rfl
      rotate_left
      · simp only [Act.put, List.setIfInBounds_toArray, List.set_cons_zero, List.set_cons_succ, i64_w, i32_w]
        rfl
      refine pure_ (i := 10) (N := some 33) (v := ?_) (a' := ?_) #[true, true, true, true, true, true, true, true, true, true, true, false, false, false, false, false, false, false, false, false, false] rfl rfl (any_of HT_.out (by kernel_rfl)) (fun _ _ _ h => h) (Or.inl ⟨by rfl, ?_⟩) ?_ ?_
      rotate_left
      · intro w'
        go_simp
        with_reducible rfl
      rotate_left
      · simp only [Act.put, List.setIfInBounds_toArray, List.set_cons_zero, List.set_cons_succ, i64_w, i32_w]
        rfl
      refine pure_ (i := 11) (N := some 34) (v := ?_) (a' := ?_) #[true, true, true, true, true, true, true, true, true, true, true, true, false, false, false, false, false, false, false, false, false] rfl rfl (any_of HT_.out (by kernel_rfl)) (fun _ _ _ h => h) (Or.inl ⟨by rfl, ?_⟩) ?_ ?_
      rotate_left
      · intro w'
        go_simp
        with_reducible rfl
      rotate_left
      · simp only [Act.put, List.setIfInBounds_toArray, List.set_cons_zero, List.set_cons_succ, i64_w, i32_w]
        rfl
      refine pure_ (i := 12) (N := some 35) (v := ?_) (a' := ?_) #[true, true, true, true, true, true, true, true, true, true, true, true, true, false, false, false, false, false, false, false, false] rfl rfl (any_of HT_.out (by kernel_rfl)) (fun _ _ _ h => h) (Or.inl ⟨by rfl, ?_⟩) ?_ ?_
      rotate_left
      · intro w'
        go_simp
        with_reducible rfl
      rotate_left
      · simp only [Act.put, List.setIfInBounds_toArray, List.set_cons_zero, List.set_cons_succ, i64_w, i32_w]
        rfl
      refine pure_ (i := 14) (N := some 37) (v := ?_) (a' := ?_) #[true, true, true, true, true, true, true, true, true, true, true, true, true, false, true, false, false, false, false, false, false] rfl rfl (any_of HT_.out (by kernel_rfl)) (fun _ _ _ h => h) (Or.inl ⟨by rfl, ?_⟩) ?_ ?_
      rotate_left
      · intro w'
        go_simp
        with_reducible rfl
      rotate_left
      · simp only [Act.put, List.setIfInBounds_toArray, List.set_cons_zero, List.set_cons_succ, i64_w, i32_w]
        rfl
      refine pure_ (i := 15) (N := some 38) (v := ?_) (a' := ?_) #[true, true, true, true, true, true, true, true, true, true, true, true, true, false, true, true, false, false, false, false, false] rfl rfl (any_of HT_.out (by kernel_rfl)) (fun _ _ _ h => h) (Or.inl ⟨by rfl, ?_⟩) ?_ ?_
      rotate_left
      · intro w'
        go_simp
        with_reducible rfl
      rotate_left
      · simp only [Act.put, List.setIfInBounds_toArray, List.set_cons_zero, List.set_cons_succ, i64_w, i32_w]
        rfl
      refine pure_ (i := 16) (N := some 39) (v := ?_) (a' := ?_) #[true, true, true, true, true, true, true, true, true, true, true, true, true, false, true, true, true, false, false, false, false] rfl rfl (any_of HT_.out (by kernel_rfl)) (fun _ _ _ h => h) (Or.inl ⟨by rfl, ?_⟩) ?_ ?_
      rotate_left
      · intro w'
        go_simp
        with_reducible rfl
      rotate_left
      · simp only [Act.put, List.setIfInBounds_toArray, List.set_cons_zero, List.set_cons_succ, i64_w, i32_w]
        rfl
      refine pure_ (i := 17) (N := some 40) (v := ?_) (a' := ?_) #[true, true, true, true, true, true, true, true, true, true, true, true, true, false, true, true, true, true, false, false, false] rfl rfl (any_of HT_.out (by kernel_rfl)) (fun _ _ _ h => h) (Or.inl ⟨by rfl, ?_⟩) ?_ ?_
      rotate_left
      · intro w'
        go_simp
        with_reducible rfl
      rotate_left
      · simp only [Act.put, List.setIfInBounds_toArray, List.set_cons_zero, List.set_cons_succ, i64_w, i32_w]
        rfl
      refine pure_ (i := 18) (N := some 41) (v := ?_) (a' := ?_) #[true, true, true, true, true, true, true, true, true, true, true, true, true, false, true, true, true, true, true, false, false] rfl rfl (any_of HT_.out (by kernel_rfl)) (fun _ _ _ h => h) (Or.inl ⟨by rfl, ?_⟩) ?_ ?_
      rotate_left
      · intro w'
        go_simp
        with_reducible rfl
      rotate_left
      · simp only [Act.put, List.setIfInBounds_toArray, List.set_cons_zero, List.set_cons_succ, i64_w, i32_w]
        rfl
      refine take_ (i := 19) (N := some 42) (v := ?_) (a' := ?_) #[true, true, true, true, true, true, true, true, true, true, true, true, true, false, true, true, true, true, true, true, false] rfl rfl (take_ofW HT_.out HW_.out (by kernel_rfl)) (fun _ _ _ h => h) (Or.inl ⟨by rfl, ?_⟩) hHeld ?_ ?_
      rotate_left
      · rintro w' s0
        go_simp
        with_reducible rfl
      rotate_left
      · simp only [Act.put, List.setIfInBounds_toArray, List.set_cons_zero, List.set_cons_succ, i64_w, i32_w]
        rfl
      refine one_ (i := 13) (N := some 36) #[true, true, true, true, true, true, true, true, true, true, true, true, true, true, true, true, true, true, true, true, false] rfl rfl (one_of HT_.out (by kernel_rfl)) (by decide) (fun K hK => ?_)
      refine goes_ Tryd.func54 (by kernel_rfl) rfl #[.slice A' (4 * N - p4) (c - p4), .slice (some ⟨G, s * 14, none⟩) 1 2, .pointer (some ⟨H, k1 * 64, none⟩)] (by rfl) rfl rfl (by (try simp only [List.map_toArray, List.map_cons, List.map_nil]); first | done | rfl | (go_simp; done) | simp [Act.eval]) ?_
      refine HBE.out.mono ?_
      rintro e w7 ⟨rfl, hb⟩
      clear hw4 hwk1 hmul4 hadd1
      have HB7 := Aside0.mk (below_step HB6.out hb)
      have HO7 := Aside0.mk (Kd.R_below HO6.out hb)
      have HK7 := Aside0.mk ((hb.block a12 (blk_lt HK6.out)).trans HK6.out)
      have HE7 := Aside0.mk (EB.below' HG.out HB7.out)
      have HCV7 := Aside0.mk ((hb.cell (p := ⟨H, t * 64 + s, none⟩) (blk_lt HH6.out)).trans HCV.out)
      clear hb HBE HB6 HO6 HK6 HE HH6 HCV
      refine ⟨_, rfl, ?_⟩
      refine hK.out _ _ HCV7.out (fun hHeld => ?_)
      clear hK K
      refine norm_ (a' := ?_) ?_ ?_
      rotate_left
      · show Act.put _ (some 36) _ = _
        simp only [Act.put, List.setIfInBounds_toArray, List.set_cons_zero, List.set_cons_succ, i64_w, i32_w]
        rfl
      refine pure_ (i := 20) (N := some 43) (v := ?_) (a' := ?_) #[true, true, true, true, true, true, true, true, true, true, true, true, true, true, true, true, true, true, true, true, true] rfl rfl (any_of HT_.out (by kernel_rfl)) (fun _ _ _ h => h) (Or.inl ⟨by rfl, ?_⟩) ?_ ?_
      rotate_left
      · intro w'
        go_simp
        with_reducible rfl
      rotate_left
      · simp only [Act.put, List.setIfInBounds_toArray, List.set_cons_zero, List.set_cons_succ, i64_w, i32_w]
        rfl
      refine done_ (done_of HT_.out (by kernel_rfl)) ?_
      clear hHeld HCV7
      by_cases hi0 : i = 0
      · have hbn : (B0 != V) = false := bne_eq_false_iff_eq.2 (HPK2.out.2 hi0)
        subst hi0
        have HDD := Aside0.mk (show d0 = es 0 (b.take (t + 1)) by rw [HES.out.1, HD0.out])
        rw [hbn]
        clear hbn
        have hk1 := blk_cell HK7.out 1
        have hk2 := blk_cell HK7.out 2
        go_wp2_with (first
          | ((with_reducible refine gate_builtin (b := .append) (xs := #[.tmp 50, .tmp 53]) rfl ?_); at_builtin; refine Kd.R_append (Kd.int .u8) (w0 := w) w.heap.size rfl (.tmp 50) (.tmp 53) 22 5 (.int .u8 0) 1 rfl Tryd.underlying22 u8_infoV rfl (by decide) (by omega) u9 (toI (b.take t)) 0 [.int .u8 0] (fun k => True ∧ k ≠ a12) (fun _ => False) rfl (by first | rfl | (go_simp; done) | (go_simp; rfl)) rfl (fun _ hk => hk.elim) (fun k hk => ⟨trivial, by have := blk_lt HK7.out; omega⟩) HO7.out HB7.out HB7.out.size (by unfold toI; rw [List.length_map, List.length_take]; have := HN.out; have := HLT.out; omega) ?_; intro v54 w54 ho hb hg hat; have HO9 := Aside0.mk (Kd.R_drop (Kd.R_mono ho (ok' := fun k => True ∧ True) (fun _ _ => ⟨trivial, trivial⟩))); have HB9 := Aside0.mk hb; have HK9 := Aside0.mk (blk_grown HK7.out hg (Kd.R_ne HO7.out HK7.out (by decide))); clear ho hb hg hat HK7 HO7 HB7 hk1 hk2; have hk1 := blk_cell HK9.out 1; have hk2 := blk_cell HK9.out 2)
          | fail)
        have HOK := Aside0.mk (show Kd.R (Kd.int .u8) 5 w54 w.heap.size (fun _ => True) v54 (toI (b.take k1)) by
          have e : toI (b.take k1) = toI (b.take t) ++ [0] := by rw [HQL.out.2.1, HES.out.2.1, ← HES.out.2.2, toI_app]; rfl
          rw [e]; exact HO9.out)
        exact ⟨⟨k1, rfl, by have := HLT.out; have := HQL.out; omega, by rw [HQL.out.2.1, ← HDD.out], HOK, HB9⟩, hmeasK HLT.out HQL.out.2.1⟩
      · have hbn : (B0 != V) = true := bne_iff_ne.2 (fun e => hi0 (HPK2.out.1 e))
        obtain rfl : i = 1 := by have := HI.out; omega
        obtain ⟨d1, hd1⟩ : ∃ d, d = dst s 1 := ⟨_, rfl⟩
        obtain ⟨f0, hf0⟩ : ∃ r, r = ob s 1 0 := ⟨_, rfl⟩
        obtain ⟨f1, hf1⟩ : ∃ r, r = ob s 1 1 := ⟨_, rfl⟩
        obtain ⟨f2, hf2⟩ : ∃ r, r = ob s 1 2 := ⟨_, rfl⟩
        obtain ⟨f3, hf3⟩ : ∃ r, r = ob s 1 3 := ⟨_, rfl⟩
        have HDD := Aside0.mk (show d1 = es 0 (b.take (t + 1)) by rw [HES.out.1, hd1])
        obtain ⟨e0, e1, e2, e3, e4, e5, e6⟩ := HE7.out.edge s 1 HS.out (by decide)
        simp only [Nat.reduceMul, Nat.add_zero, Nat.add_assoc, Nat.reduceAdd, show 14 * s = s * 14 from Nat.mul_comm 14 s] at e0 e1 e2 e3 e4 e5 e6
        rw [← hd1] at e1
        rw [← hf0] at e3
        rw [← hf1] at e4
        rw [← hf2] at e5
        rw [← hf3] at e6
        rw [hbn]
        clear hbn hi0 hd1 hf0 hf1 hf2 hf3
        have hz0 := blk_frozen HK7.out 0
        go_wp2_with (first
          | ((with_reducible refine gate_ (.store 79 (.tmp 12) (.tmp 49)) rfl ?_); refine Aside0.out ?_)
          | fail)
        refine Aside0.mk ?_
        refine wpList_store_row rfl 79 (.tmp 12) (.tmp 49) rfl a12 #[.int .i64 (s : Int), .int .i64 (d1 : Int), .int .u8 1, .int .u8 f0, .int .u8 f1, .int .u8 f2, .int .u8 f3] rfl rfl 79 _ HK7.out (by kernel_rfl) rfl (by simp [Value.oneCell']) ?_
        have hp := Put1.row a12 w7 #[.int .i64 (s : Int), .int .i64 (d1 : Int), .int .u8 1, .int .u8 f0, .int .u8 f1, .int .u8 f2, .int .u8 f3]
        have HK8 := Aside0.mk (setRow_heap w7 a12 _ #[.int .i64 (s : Int), .int .i64 (d1 : Int), .int .u8 1, .int .u8 f0, .int .u8 f1, .int .u8 f2, .int .u8 f3] _ _ HK7.out)
        have HO8 := Aside0.mk (Kd.R_step HO7.out (fun k hk _ => hp.block k hk.2))
        have HB8 := Aside0.mk (below_setRow HB7.out HA12.out #[.int .i64 (s : Int), .int .i64 (d1 : Int), .int .u8 1, .int .u8 f0, .int .u8 f1, .int .u8 f2, .int .u8 f3])
        obtain ⟨w8, hw8⟩ : ∃ w8, w8 = w7.setRow a12 #[.int .i64 (s : Int), .int .i64 (d1 : Int), .int .u8 1, .int .u8 f0, .int .u8 f1, .int .u8 f2, .int .u8 f3] := ⟨_, rfl⟩
        rw [← hw8] at HK8 HO8 HB8 ⊢
        clear hp hw8 e0 e1 e2 e3 e4 e5 e6 HK7 HO7 HB7 HE7 hz0
        have hk1 := blk_cell HK8.out 1
        have hk2 := blk_cell HK8.out 2
        go_wp2_with (first
          | ((with_reducible refine gate_builtin (b := .append) (xs := #[.tmp 50, .tmp 53]) rfl ?_); at_builtin; refine Kd.R_append (Kd.int .u8) (w0 := w) w.heap.size rfl (.tmp 50) (.tmp 53) 22 5 (.int .u8 0) 1 rfl Tryd.underlying22 u8_infoV rfl (by decide) (by omega) u9 (toI (b.take t)) 1 [.int .u8 1] (fun k => True ∧ k ≠ a12) (fun _ => False) rfl (by first | rfl | (go_simp; done) | (go_simp; rfl)) rfl (fun _ hk => hk.elim) (fun k hk => ⟨trivial, by have := blk_lt HK8.out; omega⟩) HO8.out HB8.out HB8.out.size (by unfold toI; rw [List.length_map, List.length_take]; have := HN.out; have := HLT.out; omega) ?_; intro v54 w54 ho hb hg hat; have HO9 := Aside0.mk (Kd.R_drop (Kd.R_mono ho (ok' := fun k => True ∧ True) (fun _ _ => ⟨trivial, trivial⟩))); have HB9 := Aside0.mk hb; have HK9 := Aside0.mk (blk_grown HK8.out hg (Kd.R_ne HO8.out HK8.out (by decide))); clear ho hb hg hat HK8 HO8 HB8 hk1 hk2; have hk1 := blk_cell HK9.out 1; have hk2 := blk_cell HK9.out 2)
          | fail)
        have HOK := Aside0.mk (show Kd.R (Kd.int .u8) 5 w54 w.heap.size (fun _ => True) v54 (toI (b.take k1)) by
          have e : toI (b.take k1) = toI (b.take t) ++ [1] := by rw [HQL.out.2.1, HES.out.2.1, ← HES.out.2.2, toI_app]; rfl
          rw [e]; exact HO9.out)
        exact ⟨⟨k1, rfl, by have := HLT.out; have := HQL.out; omega, by rw [HQL.out.2.1, ← HDD.out], HOK, HB9⟩, hmeasK HLT.out HQL.out.2.1⟩
    · obtain rfl : t = n := by omega
      have hd : decide ((t : Int) < (t : Int)) = false := decide_eq_false (by omega)
      clear hlt ht
      go_wp2_with fail
      go_ret
      exact ⟨_, by simp, HO.out, HB.out⟩
end Go.Proofs.YteileaajmnbmpaaDoor.P
namespace Go.Proofs.YteileaajmnbmpaaDoor.P
open Go.RowKit Go.Proofs.YteileaajmnbmpaaDoorW.PrintWords Go.Proofs.YteileaajmnbmpaaDoorW.PrintLast Go.Proofs.YteileaajmnbmpaaDoorW.PrintMore
-- YteileaajmnbmpaaDoorP44
section
attribute [local go_sem] max2_int min2_int max_two min_two max_three min_three max_four min_four
set_option linter.unusedVariables false
set_option linter.unusedSimpArgs false

/-! ### soft_Clip: function 37 -/
def soft_Clip.f (a0 : Int) : Option (Int) := some (mx (mn a0 31) (-31))
set_option maxHeartbeats 8000000 in
set_option maxRecDepth 100000 in
theorem soft_Clip.calls (a0 : Int) (r : Int) (w : World) (h : soft_Clip.f a0 = some r) :
    Calls Tryd.prog 37 #[.int .i64 a0] w fun e w' => e = .returned (.int .i64 r) ∧ Drawn0 w w' := by
  have H : (some (mx (mn a0 31) (-31))) = some r := h
  clear h
  obtain ⟨ji2, hji2⟩ : ∃ j_ : Int, (mn a0 31) = j_ := ⟨_, rfl⟩
  replace H : (some (mx (ji2) (-31))) = some r := by first | (rw [hji2] at H; exact H) | (simp only [hji2] at H ⊢; exact H)
  (try (have hji2h : ji2 ≤ 31 := by (rw [← hji2]; unfold mn; (repeat' split) <;> omega)))
  (try (have hji2g : ji2 ≤ 64 := by omega))
  have hji2_ : (if 31 < a0 then 31 else a0) = ji2 := hji2
  obtain ⟨ji3, hji3⟩ : ∃ j_ : Int, (mx (ji2) (-31)) = j_ := ⟨_, rfl⟩
  replace H : (some ji3) = some r := by first | (rw [hji3] at H; exact H) | (simp only [hji3] at H ⊢; exact H)
  have hji3_ : (if (ji2) < (-31) then (-31) else (ji2)) = ji3 := hji3
  obtain rfl := Option.some.inj H
  go_enter Tryd.func37, Tryd.ntmps37
  go_wp2
  go_ret
  exact ⟨by first | rfl | (simp; done) | (simp only [← hji2, ← hji3] <;> (first | rfl | simp)) | (simp [*]; done), by repeat (first | exact Drawn0.refl _ | apply Drawn0.step)⟩
end
-- YteileaajmnbmpaaDoorP90
section
attribute [local go_sem] max2_int min2_int max_two min_two max_three min_three max_four min_four
set_option linter.unusedVariables false
set_option linter.unusedSimpArgs false

/-! ### viterbi_Decode_1: function 42 -/
def viterbi_Decode_1.f (a0 : Int) : Option (Bool) := (soft_Clip.f a0).bind fun t250 => (some (a0 != t250))
set_option maxHeartbeats 8000000 in
set_option maxRecDepth 100000 in
theorem viterbi_Decode_1.calls (a0 : Int) (r : Bool) (w : World) (h : viterbi_Decode_1.f a0 = some r) :
    Calls Tryd.prog 42 #[.int .i64 a0] w fun e w' => e = .returned (.bool r) ∧ Drawn0 w w' := by
  have H : ((soft_Clip.f a0).bind fun t250 => (some (a0 != t250))) = some r := h
  clear h
  replace H := Option.bind_eq_some_iff.mp H
  obtain ⟨t250, A20, H⟩ := H
  replace H : (some (a0 != t250)) = some r := H
  have A2 := Aside0.mk A20
  clear A20
  obtain rfl := Option.some.inj H
  go_enter Tryd.func42, Tryd.ntmps42
  go_wp2_with (first | ((with_reducible refine gate_callee (f := 37) rfl ?_); refine goesL_ (some 5) rfl rfl Tryd.func37 (by kernel_rfl) rfl #[.int .i64 a0] rfl (by (try simp only [List.map_toArray, List.map_cons, List.map_nil]); first | done | rfl | (simp only [List.length_drop, List.length_take]; rfl)) ?_; (with_reducible refine (soft_Clip.calls a0 t250 _ A2.out).mono ?_); rintro e w' ⟨rfl, ⟨nd, rfl⟩⟩; refine ⟨_, rfl, ?_⟩))
  go_ret
  exact ⟨by first | rfl | (simp; done) | (simp [*]; done), by repeat (first | exact Drawn0.refl _ | apply Drawn0.step)⟩
end
-- YteileaajmnbmpaaDoorP91
section
attribute [local go_sem] max2_int min2_int max_two min_two max_three min_three max_four min_four
set_option linter.unusedVariables false
set_option linter.unusedSimpArgs false

/-! ### slices_IndexFunc_int_int: function 53 -/
def slices_IndexFunc_int_int.l0 : Nat → List Int → Int → Int → Option (Int)
  | 0, _, _, _ => none
  | k + 1, x0, x7, x8 => if x8 < x7 then (if 0 ≤ x8 then (if x8 < (x0.length : Int) then ((viterbi_Decode_1.f (rd x0 x8)).bind fun t252 => (if t252 = true then (some x8) else (slices_IndexFunc_int_int.l0 k x0 x7 (wrap64 (x8 + 1))))) else (none)) else (none)) else (some (-1))
def slices_IndexFunc_int_int.f (k : Nat) (l0 : List Int)  : Option (Int) := slices_IndexFunc_int_int.l0 k l0 (l0.length : Int) 0
theorem slices_IndexFunc_int_int.mono_l : ∀ k, (∀ y0 y1 y2, LeO (slices_IndexFunc_int_int.l0 k y0 y1 y2) (slices_IndexFunc_int_int.l0 (k + 1) y0 y1 y2))
  | 0 => fun _ _ _ r h => by simp [slices_IndexFunc_int_int.l0] at h
  | k + 1 => by
    have ih0 := slices_IndexFunc_int_int.mono_l k
    · intro y0 y1 y2
      unfold slices_IndexFunc_int_int.l0
      repeat' first
      | (with_reducible exact ih0 _ _ _)
      | (with_reducible exact LeO.refl _)
      | (with_reducible exact LeO.none _)
      | (with_reducible refine LeO.ite ?_ ?_)
      | (with_reducible refine LeO.bind ?_ (fun _ => ?_))
      | exact ih0 _ _ _
      | exact LeO.none _
      | refine LeO.ite ?_ ?_
      | refine LeO.bind ?_ (fun _ => ?_)
theorem slices_IndexFunc_int_int.mono : ∀ a0 k, LeO (slices_IndexFunc_int_int.f k a0) (slices_IndexFunc_int_int.f (k + 1) a0) := by
  intro a0 k
  have ih0 := slices_IndexFunc_int_int.mono_l k
  unfold slices_IndexFunc_int_int.f
  repeat' first
      | (with_reducible exact ih0 _ _ _)
      | (with_reducible exact LeO.refl _)
      | (with_reducible exact LeO.none _)
      | (with_reducible refine LeO.ite ?_ ?_)
      | (with_reducible refine LeO.bind ?_ (fun _ => ?_))
      | exact ih0 _ _ _
      | exact LeO.none _
      | refine LeO.ite ?_ ?_
      | refine LeO.bind ?_ (fun _ => ?_)
set_option maxHeartbeats 8000000 in
set_option maxRecDepth 100000 in
theorem slices_IndexFunc_int_int.calls (k : Nat) (A0 : Option Addr) (c0 : Nat) (l0 : List Int)  (r : Int) (w : World) (hr0 : Kd.C (Kd.int .i64) w A0 l0.length l0) (hc0 : l0.length ≤ c0) (h : slices_IndexFunc_int_int.f k l0 = some r) :
    Calls Tryd.prog 53 #[.slice A0 l0.length c0, .func (.func 42) #[] #[]] w fun e w' => e = .returned (.int .i64 r) ∧ Drawn0 w w' := by
  have HR0 := Aside0.mk hr0
  have HC0 := Aside0.mk hc0
  clear hr0 hc0
  have H : (slices_IndexFunc_int_int.l0 k l0 (l0.length : Int) 0) = some r := h
  clear h
  have H' := Aside0.mk H
  clear H
  go_enter Tryd.func53, Tryd.ntmps53
  go_wp2
  go_loopg [8] k (fun kq v8 w' => ∃ (x8_1 : Int), v8 = .int .i64 x8_1 ∧ Aside0 (slices_IndexFunc_int_int.l0 kq l0 (l0.length : Int) x8_1 = some r) ∧ Aside0 (kq ≤ k) ∧ Drawn0 w w')
  case atStart => exact ⟨(0), (by first | rfl | (simp; done) | (simp [*]; done)), H', ⟨Nat.le_refl _⟩, by repeat (first | exact Drawn0.refl _ | apply Drawn0.step)⟩
  case round =>
    clear H'
    try clear p2
    obtain ⟨x8_1, rfl, HA, HK1, ⟨m1, rfl⟩⟩ := hrel
    cases gk with
    | zero => exact absurd HA.out (by simp [slices_IndexFunc_int_int.l0])
    | succ k1 =>
      have H := HA.out
      clear HA
      simp only [slices_IndexFunc_int_int.l0] at H
      by_cases c3 : x8_1 < (l0.length : Int)
      · rw [if_pos c3] at H
        have c3b0 : decide (x8_1 < (l0.length : Int)) = true := decide_eq_true c3
        clear c3
        by_cases c4 : 0 ≤ x8_1
        · rw [if_pos c4] at H
          have c4b0 : decide (0 ≤ x8_1) = true := decide_eq_true c4
          clear c4
          by_cases c5 : x8_1 < (l0.length : Int)
          · rw [if_pos c5] at H
            have c5b0 : decide (x8_1 < (l0.length : Int)) = true := decide_eq_true c5
            clear c5
            replace H := Option.bind_eq_some_iff.mp H
            obtain ⟨t252, A60, H⟩ := H
            replace H : (if t252 = true then (some x8_1) else (slices_IndexFunc_int_int.l0 k1 l0 (l0.length : Int) (wrap64 (x8_1 + 1)))) = some r := H
            have A6 := Aside0.mk A60
            clear A60
            by_cases c7 : t252 = true
            · subst c7
              have H1 : (some x8_1) = some r := by rw [if_pos rfl] at H; exact H
              clear H
              have H := H1
              clear H1
              obtain rfl := Option.some.inj H
              have p251 : 0 ≤ (x8_1 : Int) := of_decide_eq_true (by first | (with_reducible assumption) | assumption)
              have q251 : x8_1 < (l0.length : Int) := of_decide_eq_true (by first | (with_reducible assumption) | assumption)
              obtain ⟨ad251, e251, hx251_0⟩ := Kd.at_int HR0.out x8_1 p251 q251
              cases e251
              replace p251 := eq_true p251
              replace q251 := eq_true q251
              go_wp2_with (first | (go_at_call 42; (with_reducible refine (viterbi_Decode_1.calls (rd l0 x8_1) true _ A6.out).mono ?_); rintro e w' ⟨rfl, ⟨nd, rfl⟩⟩))
              go_ret
              exact ⟨by first | rfl | (simp; done) | (simp [*]; done), by repeat (first | exact Drawn0.refl _ | apply Drawn0.step)⟩
            · replace c7 := Bool.eq_false_iff.mpr c7
              subst c7
              have H1 : (slices_IndexFunc_int_int.l0 k1 l0 (l0.length : Int) (wrap64 (x8_1 + 1))) = some r := by rw [if_neg (show ¬ (false = true) by decide)] at H; exact H
              clear H
              have H := H1
              clear H1
              have H' := Aside0.mk H
              clear H
              have p251 : 0 ≤ (x8_1 : Int) := of_decide_eq_true (by first | (with_reducible assumption) | assumption)
              have q251 : x8_1 < (l0.length : Int) := of_decide_eq_true (by first | (with_reducible assumption) | assumption)
              obtain ⟨ad251, e251, hx251_0⟩ := Kd.at_int HR0.out x8_1 p251 q251
              cases e251
              replace p251 := eq_true p251
              replace q251 := eq_true q251
              go_wp2_with (first | (go_at_call 42; (with_reducible refine (viterbi_Decode_1.calls (rd l0 x8_1) false _ A6.out).mono ?_); rintro e w' ⟨rfl, ⟨nd, rfl⟩⟩))
              go_roundg k1
              case measure => have := HK1.out; omega
              case rel => exact ⟨(wrap64 (x8_1 + 1)), (by first | rfl | (simp; done) | (simp [*]; done)), H', ⟨by have := HK1.out; omega⟩, by repeat (first | exact Drawn0.refl _ | apply Drawn0.step)⟩
          · rw [if_neg c5] at H
            exact absurd H (by simp)
        · rw [if_neg c4] at H
          exact absurd H (by simp)
      · rw [if_neg c3] at H
        have c3b0 : decide (x8_1 < (l0.length : Int)) = false := decide_eq_false c3
        clear c3
        obtain rfl := Option.some.inj H
        go_wp2
        go_ret
        exact ⟨by first | rfl | (simp; done) | (simp [*]; done), by repeat (first | exact Drawn0.refl _ | apply Drawn0.step)⟩
end
-- YteileaajmnbmpaaDoorP92
section
attribute [local go_sem] max2_int min2_int max_two min_two max_three min_three max_four min_four
set_option linter.unusedVariables false
set_option linter.unusedSimpArgs false

/-! ### slices_ContainsFunc_int_int: function 41 -/
def slices_ContainsFunc_int_int.f (k : Nat) (l0 : List Int)  : Option (Bool) := (slices_IndexFunc_int_int.f k l0).bind fun t253 => (some (decide (t253 ≥ 0)))
theorem slices_ContainsFunc_int_int.mono : ∀ a0 k, LeO (slices_ContainsFunc_int_int.f k a0) (slices_ContainsFunc_int_int.f (k + 1) a0) := by
  intro a0 k
  unfold slices_ContainsFunc_int_int.f
  repeat' first
      | (with_reducible exact slices_IndexFunc_int_int.mono _ _)
      | (with_reducible exact LeO.refl _)
      | (with_reducible exact LeO.none _)
      | (with_reducible refine LeO.ite ?_ ?_)
      | (with_reducible refine LeO.bind ?_ (fun _ => ?_))
      | exact slices_IndexFunc_int_int.mono _ _
      | exact LeO.none _
      | refine LeO.ite ?_ ?_
      | refine LeO.bind ?_ (fun _ => ?_)
set_option maxHeartbeats 8000000 in
set_option maxRecDepth 100000 in
theorem slices_ContainsFunc_int_int.calls (k : Nat) (A0 : Option Addr) (c0 : Nat) (l0 : List Int)  (r : Bool) (w : World) (hr0 : Kd.C (Kd.int .i64) w A0 l0.length l0) (hc0 : l0.length ≤ c0) (h : slices_ContainsFunc_int_int.f k l0 = some r) :
    Calls Tryd.prog 41 #[.slice A0 l0.length c0, .func (.func 42) #[] #[]] w fun e w' => e = .returned (.bool r) ∧ Drawn0 w w' := by
  have HR0 := Aside0.mk hr0
  have HC0 := Aside0.mk hc0
  clear hr0 hc0
  have H : ((slices_IndexFunc_int_int.f k l0).bind fun t253 => (some (decide (t253 ≥ 0)))) = some r := h
  clear h
  replace H := Option.bind_eq_some_iff.mp H
  obtain ⟨t253, A30, H⟩ := H
  replace H : (some (decide (t253 ≥ 0))) = some r := H
  have A3 := Aside0.mk A30
  clear A30
  obtain rfl := Option.some.inj H
  go_enter Tryd.func41, Tryd.ntmps41
  go_wp2_with (first | ((with_reducible refine gate_callee (f := 53) rfl ?_); refine goesL_ (some 7) rfl rfl Tryd.func53 (by kernel_rfl) rfl #[.slice A0 l0.length c0, .func (.func 42) #[] #[]] rfl (by (try simp only [List.map_toArray, List.map_cons, List.map_nil]); first | done | rfl | (simp only [List.length_drop, List.length_take]; rfl)) ?_; (with_reducible refine (slices_IndexFunc_int_int.calls k _ _ l0  t253 _ ?side1 ?side2 A3.out).mono ?_); (case side1 => repeat (first | exact HR0.out | (with_reducible refine Kd.C_alloc ?_ _) | (with_reducible refine Kd.C_drewN ?_ _) | (with_reducible refine Kd.C_drew ?_))); (case side2 => exact HC0.out); rintro e w' ⟨rfl, ⟨nd, rfl⟩⟩; refine ⟨_, rfl, ?_⟩))
  go_ret
  exact ⟨by first | rfl | (simp; done) | (simp [*]; done), by repeat (first | exact Drawn0.refl _ | apply Drawn0.step)⟩
end
end Go.Proofs.YteileaajmnbmpaaDoor.P
namespace Go.Proofs.YteileaajmnbmpaaDoor.P
open Go Go.Proofs Go.RowKit Go.Proofs.YteileaajmnbmpaaDoorW.PrintWords Go.Proofs.YteileaajmnbmpaaDoorW.PrintLast Go.Proofs.YteileaajmnbmpaaDoorW.PrintMore
set_option linter.unusedVariables false
set_option linter.unusedSimpArgs false
-- YteileaajmnbmpaaDoorPVDec
theorem clip_f {x : Int} (h : -31 ≤ x ∧ x ≤ 31) : soft_Clip.f x = some x := by
  unfold soft_Clip.f
  refine congrArg some ?_
  have e1 : Go.Proofs.YteileaajmnbmpaaDoorW.PrintWords.mn x 31 = x := by unfold Go.Proofs.YteileaajmnbmpaaDoorW.PrintWords.mn; split <;> omega
  rw [e1]
  unfold Go.Proofs.YteileaajmnbmpaaDoorW.PrintWords.mx; split <;> omega
theorem iindex_l0 (l : List Int) (hl : l.length ≤ 100000) (hb : ∀ x ∈ l, -31 ≤ x ∧ x ≤ 31) (d : Nat) : ∀ k i : Nat, i + d = l.length → d < k →
    slices_IndexFunc_int_int.l0 k l (l.length : Int) (i : Int) = some (-1) := by
  induction d with
  | zero =>
    intro k i hi hk
    obtain ⟨k, rfl⟩ := pred hk
    rw [slices_IndexFunc_int_int.l0.eq_2, if_neg (by omega)]
  | succ d ih =>
    intro k i hi hk
    obtain ⟨k, rfl⟩ := pred hk
    have hlt : i < l.length := by omega
    have hn := ih k (i + 1) (by omega) (by omega)
    have hx := clip_f (hb l[i] (List.getElem_mem hlt))
    rw [slices_IndexFunc_int_int.l0.eq_2, if_pos (by omega), if_pos (by omega), if_pos (by omega), rd_get l i hlt]
    unfold viterbi_Decode_1.f
    rw [hx, Option.bind_some, Option.bind_some, if_neg (by simp), wrap_succ i (by omega)]
    exact hn
theorem contains_f (l : List Int) (hl : l.length ≤ 100000) (hb : ∀ x ∈ l, -31 ≤ x ∧ x ≤ 31) : slices_ContainsFunc_int_int.f (l.length + 1) l = some false := by
  unfold slices_ContainsFunc_int_int.f slices_IndexFunc_int_int.f
  rw [show slices_IndexFunc_int_int.l0 (l.length + 1) l (l.length : Int) 0 = some (-1) from iindex_l0 l hl hb l.length (l.length + 1) 0 (by omega) (by omega), Option.bind_some]
  rfl
def dec10.T : Bool × List (List Nat × List Nat) := (true, [([], []), ([], []), ([], []), ([0, 1, 2], [0, 1, 2]), ([], []), ([4], [4]), ([5], [5]), ([6], [6]), ([3, 3, 0, 1, 2, 3], [3]), ([7, 8, 0, 1, 2, 3, 4, 5, 6, 7, 8], [7]), ([9, 0, 1, 2, 3, 4, 5, 6, 7, 8, 9], [])])
def dec10.B : List Nat := [0, 0, 0, 7, 0, 16, 48, 112, 15, 511, 1023]
theorem dec10.tab : rtab .any (opsOf Tryd.f30 10) = dec10.T := by kernel_rfl
theorem dec10.bits : waitsOk dec10.T.2 dec10.B = true := by kernel_rfl
set_option maxRecDepth 100000 in
set_option maxHeartbeats 8000000 in
theorem vdecode_calls {w : World} (hT : TP w) {A : Option Addr} {c : Nat} {L : List Int} (hL : Kd.C (Kd.int .i64) w A L.length L) (hc : L.length ≤ c) (n : Nat) (hN : L.length = 4 * (n + 6)) (hn : n ≤ 1000) (hLb : ∀ j, -31 ≤ L.getD j 0 ∧ L.getD j 0 ≤ 31) (b : List Nat) (hA : Alone (fun j => L.getD j 0) (n + 6) n b) :
    Calls Tryd.prog 30 #[.slice A (4 * (n + 6)) c] w fun e w' => ∃ v sc, e = .returned (.tuple #[v, sc, .int .i64 0]) ∧ Kd.R (Kd.int .u8) 5 w' w.heap.size (fun _ => True) v (toI (b.take n)) ∧ Below w.heap.size w w' := by
  have HT := Aside0.mk hT
  have HL := Aside0.mk hL
  have HCC := Aside0.mk hc
  have HLB := Aside0.mk hLb
  have HAL := Aside0.mk hA
  have HCF := Aside0.mk (contains_f L (by omega) (fun x hx => by
    obtain ⟨j, hj, rfl⟩ := List.getElem_of_mem hx
    have h := hLb j
    rw [List.getD_eq_getElem?_getD, List.getElem?_eq_getElem hj] at h
    exact h))
  obtain ⟨N, hNd⟩ : ∃ N, N = n + 6 := ⟨_, rfl⟩
  rw [← hNd] at hN ⊢
  rw [← hNd] at HAL
  have HNN := Aside0.mk (And.intro hNd (And.intro hN hn))
  have hq : Int.tdiv ((4 * N : Nat) : Int) 4 = (N : Int) := by rw [Int.tdiv_eq_ediv_of_nonneg (by omega)]; omega
  have hr : Int.tmod ((4 * N : Nat) : Int) 4 = 0 := by rw [Int.tmod_eq_emod_of_nonneg (by omega)]; omega
  have hNb : (N : Int) ≤ 1006 := by omega
  have hsub : (N : Int) - 6 = (n : Int) := by omega
  have hn0 : ¬ (n : Int) < 0 := by omega
  have hn1 : ¬ (n : Int) > 4096 := by omega
  have HST := Aside0.mk (fun w => conv_Steps.calls 0 6 w (by unfold conv_Steps.f; rw [if_neg (by decide)]; exact congrArg some (by unfold wrap64; decide)))
  clear hT hL hc hLb hA hN hn hNd
  go_enter Tryd.func30, Tryd.ntmps30
  go_wp2_with (first
    | (go_at_call 17; refine Aside0.out ?_)
    | fail)
  refine Aside0.mk ?_
  refine (HST.out w).mono ?_
  rintro e w1 ⟨rfl, hd⟩
  have HB1 := Aside0.mk hd.below
  clear hd HST
  have hcf := slices_ContainsFunc_int_int.calls (L.length + 1) A c L false w1 (Kd.C_below HL.out HB1.out) HCC.out HCF.out
  rw [HNN.out.2.1] at hcf
  have HCN := Aside0.mk hcf
  clear hcf
  go_wp2_with (first
    | (go_at_call 41; refine Aside0.out ?_)
    | fail)
  refine Aside0.mk ?_
  refine HCN.out.mono ?_
  rintro e w2 ⟨rfl, hd⟩
  have HB2 := Aside0.mk (below_step HB1.out hd.below)
  have HBU := Aside0.mk (build_calls (TP_of HT.out HB2.out))
  clear hd HCN HB1
  go_wp2_with (first
    | (go_at_call 43; refine Aside0.out ?_)
    | fail)
  refine Aside0.mk ?_
  refine HBU.out.mono ?_
  rintro e w3 ⟨C, rfl, hC, hb⟩
  have HB3 := Aside0.mk (below_step HB2.out hb)
  have HG := Aside0.mk hC
  have HCS := Aside0.mk hC.1
  clear hb hC HBU HB2
  go_wp2_with (first
    | (refine wpList_store_row rfl 94 (.tmp 6) (.tmp 32) rfl w3.heap.size C rfl rfl 94 _ (blk_new w3 _) (by rw [HCS.out]; exact g_size) (by rw [HCS.out]; exact zG) HG.out.one ?_; refine Aside0.out ?_)
    | fail)
  refine Aside0.mk ?_
  have hba := below_alloc (Below.refl w3.heap.size w3) (.cells Tryd.zeroCells94 94)
  have hbb := setRow_heap (w3.alloc (.cells Tryd.zeroCells94 94)) w3.heap.size _ C _ _ (blk_new w3 (.cells Tryd.zeroCells94 94))
  have hbs := below_setRow hba (Nat.le_refl _) C
  obtain ⟨a6, ha6⟩ : ∃ a6, a6 = w3.heap.size := ⟨_, rfl⟩
  obtain ⟨w4, hw4⟩ : ∃ w4, w4 = (w3.alloc (.cells Tryd.zeroCells94 94)).setRow w3.heap.size C := ⟨_, rfl⟩
  rw [← hw4] at hbs hbb ⊢
  have HB4 := Aside0.mk (below_step HB3.out hbs)
  rw [← ha6] at hbb ⊢
  have HE4 := Aside0.mk (show EB w4 a6 128 from ⟨C, hbb, HG.out.1, fun q j hq hj => HG.out.2 q j hq hj⟩)
  clear hba hbb hbs ha6 hw4 HB3 HG HCS
  have hco := columns_calls (w := w4) (A := A) (c := c) (L := L) (Kd.C_below HL.out HB4.out) HCC.out N n HNN.out.2.1 (by have := HNN.out; omega) HLB.out (by have := HNN.out; omega) HE4.out
  have HCO := Aside0.mk hco
  clear hco
  go_wp2_with (first
    | (go_at_call 44; refine Aside0.out ?_)
    | fail)
  refine Aside0.mk ?_
  refine HCO.out.mono ?_
  rintro e w5 ⟨v, rfl, hv⟩
  obtain ⟨H, Q, cc, rfl, hH, hQ, hci, hb⟩ := hv
  have hd : Below w5.heap.size w5 w5.drew := below_drew1 (Below.refl _ _)
  have HB5 := Aside0.mk (below_step (below_step HB4.out hb) hd)
  have HE5 := Aside0.mk (EB.below' (EB.below' HE4.out hb) hd)
  have HQ5 := Aside0.mk (show w5.drew.heap[H]? = some (.cells (ints Q) 102 (0, 0)) from (hd.block H (blk_lt hQ)).trans hQ)
  have HCI := Aside0.mk hci
  have htc := trace_calls (w := w5.drew) (A := A) (c := c) (L := L) (Kd.C_below HL.out HB5.out) HCC.out N n HNN.out.2.1 (by have := HNN.out; omega) HLB.out (by have := HNN.out; omega) HE5.out HQ5.out HCI.out b HAL.out (cc := cc)
  have HTC := Aside0.mk htc
  obtain ⟨S0, hS0⟩ : ∃ S0, S0 = Q.getD 0 0 := ⟨_, rfl⟩
  have HSC := Aside0.mk (show w5.drew.cell? ⟨H, 0, none⟩ = some (.int .i64 S0) from (blk_cell HQ5.out 0).trans ((ints_get Q 0 (by have := HCI.out.1; omega)).trans (by rw [hS0])))
  obtain ⟨M, hM⟩ : ∃ M, M = N + 1 := ⟨_, rfl⟩
  rw [← hM] at HTC ⊢
  have hM0 : (0 : Int) < (M : Int) := by omega
  have hMn : 0 < M := by omega
  clear hd hb hH hQ hci htc hS0 HCO HB4 HE4 hM
  go_wp2_with fail
  refine start_ (n := 11) (S := (fun w' => w'.cell? ⟨H, 0, none⟩ = some (.int .i64 S0))) (ds := []) #[false, false, false, false, false, false, false, false, false, false, false] (by kernel_rfl) rfl rfl HSC.out (fun hHeld => ?_)
  refine with_tabW dec10.tab dec10.bits (fun HT_ HW_ => ?_)
  refine pure_ (i := 0) (N := some 40) (v := ?_) (a' := ?_) #[true, false, false, false, false, false, false, false, false, false, false] rfl rfl (any_of HT_.out (by kernel_rfl)) (fun _ _ _ h => h) (Or.inl ⟨by rfl, ?_⟩) ?_ ?_
  rotate_left
  · intro w'
    go_simp
    with_reducible rfl
  rotate_left
  · simp only [Act.put, List.setIfInBounds_toArray, List.set_cons_zero, List.set_cons_succ, i64_w, i32_w]
    rfl
  refine pure_ (i := 1) (N := some 41) (v := ?_) (a' := ?_) #[true, true, false, false, false, false, false, false, false, false, false] rfl rfl (any_of HT_.out (by kernel_rfl)) (fun _ _ _ h => h) (Or.inl ⟨by rfl, ?_⟩) ?_ ?_
  rotate_left
  · intro w'
    go_simp
    with_reducible rfl
  rotate_left
  · simp only [Act.put, List.setIfInBounds_toArray, List.set_cons_zero, List.set_cons_succ, i64_w, i32_w]
    rfl
  refine pure_ (i := 2) (N := some 42) (v := ?_) (a' := ?_) #[true, true, true, false, false, false, false, false, false, false, false] rfl rfl (any_of HT_.out (by kernel_rfl)) (fun _ _ _ h => h) (Or.inl ⟨by rfl, ?_⟩) ?_ ?_
  rotate_left
  · intro w'
    go_simp
    with_reducible rfl
  rotate_left
  · simp only [Act.put, List.setIfInBounds_toArray, List.set_cons_zero, List.set_cons_succ, i64_w, i32_w]
    rfl
  refine pure_ (i := 4) (N := some 44) (v := ?_) (a' := ?_) #[true, true, true, false, true, false, false, false, false, false, false] rfl rfl (any_of HT_.out (by kernel_rfl)) (fun _ _ _ h => h) (Or.inl ⟨by rfl, ?_⟩) ?_ ?_
  rotate_left
  · intro w'
    go_simp
    with_reducible rfl
  rotate_left
  · simp only [Act.put, List.setIfInBounds_toArray, List.set_cons_zero, List.set_cons_succ, i64_w, i32_w]
    rfl
  refine pure_ (i := 5) (N := some 45) (v := ?_) (a' := ?_) #[true, true, true, false, true, true, false, false, false, false, false] rfl rfl (any_of HT_.out (by kernel_rfl)) (fun _ _ _ h => h) (Or.inl ⟨by rfl, ?_⟩) ?_ ?_
  rotate_left
  · intro w'
    go_simp
    with_reducible rfl
  rotate_left
  · simp only [Act.put, List.setIfInBounds_toArray, List.set_cons_zero, List.set_cons_succ, i64_w, i32_w]
    rfl
  refine pure_ (i := 6) (N := some 46) (v := ?_) (a' := ?_) #[true, true, true, false, true, true, true, false, false, false, false] rfl rfl (any_of HT_.out (by kernel_rfl)) (fun _ _ _ h => h) (Or.inl ⟨by rfl, ?_⟩) ?_ ?_
  rotate_left
  · intro w'
    go_simp
    with_reducible rfl
  rotate_left
  · simp only [Act.put, List.setIfInBounds_toArray, List.set_cons_zero, List.set_cons_succ, i64_w, i32_w]
    rfl
  refine take_ (i := 7) (N := some 47) (v := ?_) (a' := ?_) #[true, true, true, false, true, true, true, true, false, false, false] rfl rfl (take_ofW HT_.out HW_.out (by kernel_rfl)) (fun _ _ _ h => h) (Or.inl ⟨by rfl, ?_⟩) hHeld ?_ ?_
  rotate_left
  · rintro w' s0
    go_simp
    with_reducible rfl
  rotate_left
  · simp only [Act.put, List.setIfInBounds_toArray, List.set_cons_zero, List.set_cons_succ, i64_w, i32_w]
    rfl
  refine one_ (i := 3) (N := some 43) #[true, true, true, true, true, true, true, true, false, false, false] rfl rfl (one_of HT_.out (by kernel_rfl)) (by decide) (fun K hK => ?_)
  refine goes_ Tryd.func45 (by kernel_rfl) rfl #[.slice A (4 * N) c, .int .i64 n, .pointer (some ⟨a6, 0, none⟩), .slice (some ⟨H, 0, none⟩) M cc] (by rfl) rfl rfl (by (try simp only [List.map_toArray, List.map_cons, List.map_nil]); first | done | rfl | (go_simp; done) | simp [Act.eval]) ?_
  refine HTC.out.mono ?_
  rintro e w7 ⟨v, rfl, hv, hb⟩
  have HV := Aside0.mk (Kd.R_lower hv HB5.out.size)
  have HB7 := Aside0.mk (below_step HB5.out hb)
  have HS7 := Aside0.mk ((hb.cell (p := ⟨H, 0, none⟩) (blk_lt HQ5.out)).trans HSC.out)
  clear hv hb HTC
  refine ⟨_, rfl, ?_⟩
  refine hK.out _ _ HS7.out (fun hHeld => ?_)
  clear hK K
  refine norm_ (a' := ?_) ?_ ?_
  rotate_left
  · show Act.put _ (some 43) _ = _
    simp only [Act.put, List.setIfInBounds_toArray, List.set_cons_zero, List.set_cons_succ, i64_w, i32_w]
    rfl
  refine pure_ (i := 8) (N := some 2) (v := ?_) (a' := ?_) #[true, true, true, true, true, true, true, true, true, false, false] rfl rfl (any_of HT_.out (by kernel_rfl)) (fun _ _ _ h => h) (Or.inl ⟨by rfl, ?_⟩) ?_ ?_
  rotate_left
  · intro w'
    go_simp
    with_reducible rfl
  rotate_left
  · simp only [Act.put, List.setIfInBounds_toArray, List.set_cons_zero, List.set_cons_succ, i64_w, i32_w]
    rfl
  refine pure_ (i := 9) (N := some 3) (v := ?_) (a' := ?_) #[true, true, true, true, true, true, true, true, true, true, false] rfl rfl (any_of HT_.out (by kernel_rfl)) (fun _ _ _ h => h) (Or.inl ⟨by rfl, ?_⟩) ?_ ?_
  rotate_left
  · intro w'
    go_simp
    with_reducible rfl
  rotate_left
  · simp only [Act.put, List.setIfInBounds_toArray, List.set_cons_zero, List.set_cons_succ, i64_w, i32_w]
    rfl
  refine pure_ (i := 10) (N := some 4) (v := ?_) (a' := ?_) #[true, true, true, true, true, true, true, true, true, true, true] rfl rfl (any_of HT_.out (by kernel_rfl)) (fun _ _ _ h => h) (Or.inl ⟨by rfl, ?_⟩) ?_ ?_
  rotate_left
  · intro w'
    go_simp
    with_reducible rfl
  rotate_left
  · simp only [Act.put, List.setIfInBounds_toArray, List.set_cons_zero, List.set_cons_succ, i64_w, i32_w]
    rfl
  refine done_ (done_of HT_.out (by kernel_rfl)) ?_
  clear hHeld
  go_wp2_with fail
  have hrs : (Tryd.f30).results = #[.tmp 2, .tmp 3, .tmp 4] := by kernel_rfl
  refine bodyPost_ret (results_tmp3 hrs _ _ _) rfl ?_
  exact ⟨v, _, rfl, HV.out, HB7.out⟩
end Go.Proofs.YteileaajmnbmpaaDoor.P
namespace Go.Proofs.YteileaajmnbmpaaDoor.P
open Go.RowKit Go.Proofs.YteileaajmnbmpaaDoorW.PrintWords Go.Proofs.YteileaajmnbmpaaDoorW.PrintLast Go.Proofs.YteileaajmnbmpaaDoorW.PrintMore
-- YteileaajmnbmpaaDoorP17
section
attribute [local go_sem] max2_int min2_int max_two min_two max_three min_three max_four min_four
set_option linter.unusedVariables false
set_option linter.unusedSimpArgs false

/-! ### version_Bits: function 24 -/
def version_Bits.f (a0 : Int) : Option (Int) := (conv_Steps.f a0).bind fun t159 => (some t159)
set_option maxHeartbeats 8000000 in
set_option maxRecDepth 100000 in
theorem version_Bits.calls (a0 : Int) (r : Int) (w : World) (h : version_Bits.f a0 = some r) :
    Calls Tryd.prog 24 #[.int .i64 a0] w fun e w' => e = .returned (.int .i64 r) ∧ Drawn0 w w' := by
  have H : ((conv_Steps.f a0).bind fun t159 => (some t159)) = some r := h
  clear h
  replace H := Option.bind_eq_some_iff.mp H
  obtain ⟨t159, A20, H⟩ := H
  replace H : (some t159) = some r := H
  have A2 := Aside0.mk A20
  clear A20
  obtain rfl := Option.some.inj H
  go_enter Tryd.func24, Tryd.ntmps24
  go_wp2_with (first | ((with_reducible refine gate_callee (f := 17) rfl ?_); refine goesL_ (some 4) rfl rfl Tryd.func17 (by kernel_rfl) rfl #[.int .i64 a0] rfl (by (try simp only [List.map_toArray, List.map_cons, List.map_nil]); first | done | rfl | (simp only [List.length_drop, List.length_take]; rfl)) ?_; (with_reducible refine (conv_Steps.calls a0 t159 _ A2.out).mono ?_); rintro e w' ⟨rfl, ⟨nd, rfl⟩⟩; refine ⟨_, rfl, ?_⟩))
  go_ret
  exact ⟨by first | rfl | (simp; done) | (simp [*]; done), by repeat (first | exact Drawn0.refl _ | apply Drawn0.step)⟩
end
end Go.Proofs.YteileaajmnbmpaaDoor.P
namespace Go.Proofs.YteileaajmnbmpaaDoor.P
open Go Go.Proofs Go.RowKit Go.Proofs.YteileaajmnbmpaaDoorW.PrintWords Go.Proofs.YteileaajmnbmpaaDoorW.PrintLast Go.Proofs.YteileaajmnbmpaaDoorW.PrintMore
set_option linter.unusedVariables false
set_option linter.unusedSimpArgs false
-- YteileaajmnbmpaaDoorPCBuf
theorem made_one (m : Nat) : madeCells #[Value.int .i64 0] m = ints (List.replicate m 0) := by
  apply Array.ext_getElem?
  intro j
  by_cases h : j < m
  · rw [ints_get _ _ (by simpa using h)]
    have hz : ∀ k, k < 1 → #[Value.int .i64 0][k]! = Value.int .i64 0 := fun k hk => by
      obtain rfl : k = 0 := by omega
      rfl
    unfold madeCells
    rw [show (#[Value.int .i64 0] : Array Value).size = 1 from rfl, Array.getElem?_eq_getElem (by simpa using h), Array.getElem_map, Array.getElem_range, hz _ (Nat.mod_lt _ (by decide)), List.getD_eq_getElem?_getD, List.getElem?_replicate, if_pos h]; rfl
  · rw [Array.getElem?_eq_none (by rw [size_madeCells]; omega), Array.getElem?_eq_none (by rw [ints_size, List.length_replicate]; omega)]
theorem make_ints (m : Nat) (hm : m ≤ 100000) (w : World) : (Instr.makeSlice 23 (.int .i64 (m : Int)) (.int .i64 (m : Int))).run Tryd.prog w = .ok (.slice (some ⟨w.heap.size, 0, none⟩) m m) (w.alloc (.cells (ints (List.replicate m 0)) 3)) := by
  obtain ⟨i, hi, hz0, hz1, hz2⟩ := info_parts i64_info
  have h := run_make (P := Tryd.prog) w 23 3 i (.int .i64 0) Tryd.underlying23 hi hz0 .i64 .i64 (m : Int) (m : Int) (by omega) (by omega) (by rw [hz2]; omega) (by omega)
  rw [hz1] at h
  simp only [Int.toNat_natCast, Nat.mul_one] at h
  rw [show (Value.int IntKind.i64 0).cells = #[Value.int .i64 0] from rfl, made_one] at h
  exact h
/-- A buffer at block g, its soft bits at block h. -/
structure BU (w : World) (S g h n : Nat) (σ : List Int) : Prop where
  box : ∃ C : Array Value, w.heap[g]? = some (.cells C 52 (0, 0)) ∧ C.size = 6 ∧ C[0]? = some (.int .i64 (n : Int)) ∧ C[1]? = some (.slice (some ⟨h, 0, none⟩) (4 * (n + 6)) (4 * (n + 6))) ∧ ∀ v, v < 4 → ∃ c, C[2 + v]? = some (.int .i64 c)
  row : w.heap[h]? = some (.cells (ints σ) 3 (0, 0))
  len : σ.length = 4 * (n + 6)
  lo : S ≤ g ∧ S ≤ h ∧ g ≠ h
theorem BU.below {w w' : World} {S g h n : Nat} {σ : List Int} (b : BU w S g h n σ) (hb : Below w.heap.size w w') : BU w' S g h n σ := by
  obtain ⟨C, hC, r⟩ := b.box
  exact ⟨⟨C, (hb.block g (blk_lt hC)).trans hC, r⟩, (hb.block h (blk_lt b.row)).trans b.row, b.len, b.lo⟩
theorem below_less {B C : Nat} {w w' : World} (h : Below B w w') (hc : C ≤ B) : Below C w w' := ⟨h.os, h.tape, h.output, h.size, fun k hk => h.block k (by omega)⟩
theorem bits_n (n : Nat) (hn : n ≤ 1000) : version_Bits.f (n : Int) = some ((n + 6 : Nat) : Int) := by
  unfold version_Bits.f conv_Steps.f
  rw [if_neg (by omega)]
  simp only [Option.bind_some]
  refine congrArg some ?_
  unfold wrap64; omega
set_option maxRecDepth 100000 in
set_option maxHeartbeats 4000000 in
theorem reset_calls {w : World} {g n : Nat} (hn : n ≤ 1000) (hg : w.heap[g]? = some (.cells #[.int .i64 (n : Int), .slice none 0 0, .int .i64 0, .int .i64 0, .int .i64 0, .int .i64 0] 52 (0, 0))) :
    Calls Tryd.prog 21 #[.pointer (some ⟨g, 0, none⟩)] w fun e w' => e = .returned (.tuple #[]) ∧ ∃ h, BU w' g g h n (List.replicate (4 * (n + 6)) 0) ∧ w.heap.size ≤ h ∧ Below g w w' := by
  have HG := Aside0.mk hg
  have HN := Aside0.mk hn
  have HBN := Aside0.mk (fun w => version_Bits.calls (n : Int) _ w (bits_n n hn))
  obtain ⟨k, hk⟩ : ∃ k, k = n + 6 := ⟨_, rfl⟩
  have HK := Aside0.mk hk
  rw [← hk] at HBN
  have hkb : (k : Int) ≤ 1006 := by omega
  obtain ⟨M, hM⟩ : ∃ M, M = 4 * k := ⟨_, rfl⟩
  have hM2 : 4 * (k : Int) = (M : Int) := by omega
  have hMb : (M : Int) ≤ 5000 := by omega
  have HM := Aside0.mk hM
  have hc0 := blk_cell hg 0
  clear hg hn hk hM
  go_enter Tryd.func21, Tryd.ntmps21
  go_wp2_with (first
    | (go_at_call 24; refine Aside0.out ?_)
    | fail)
  refine Aside0.mk ?_
  refine (HBN.out w).mono ?_
  rintro e w1 ⟨rfl, hd⟩
  have HG1 := Aside0.mk ((hd.below.block g (blk_lt HG.out)).trans HG.out)
  have HB1 := Aside0.mk hd.below
  have hmk := make_ints M (by omega) w1
  have hfz1 := blk_frozen (blk_alloc HG1.out (.cells (ints (List.replicate M 0)) 3)) 1
  have hcl1 := blk_cell (blk_alloc HG1.out (.cells (ints (List.replicate M 0)) 3)) 1
  clear hd HBN hc0
  go_wp2_with (first
    | ((with_reducible refine gate_ (.store 36 (.tmp 17) (.tmp 15)) rfl ?_); refine Aside0.out ?_)
    | fail)
  refine Aside0.mk ?_
  have hba := below_alloc (Below.refl w1.heap.size w1) (.cells (ints (List.replicate M 0)) 3)
  have hbb := blk_new w1 (.cells (ints (List.replicate M 0)) 3)
  obtain ⟨h, hh⟩ : ∃ h, h = w1.heap.size := ⟨_, rfl⟩
  rw [← hh] at hbb ⊢
  obtain ⟨w2, hw2⟩ : ∃ w2, w2 = w1.alloc (.cells (ints (List.replicate M 0)) 3) := ⟨_, rfl⟩
  have HGH := Aside0.mk (show g < h ∧ w.heap.size ≤ h by rw [hh]; exact ⟨blk_lt HG1.out, HB1.out.size⟩)
  rw [← hw2] at hba hbb ⊢
  have hG2 := (hba.block g (blk_lt HG1.out)).trans HG1.out
  have hG3 := blk_put hG2 1 (.slice (some ⟨h, 0, none⟩) M M) rfl
  have hp := Put1.set g 1 w2 (.slice (some ⟨h, 0, none⟩) M M)
  have hr3 := (hp.block h (by have := HGH.out; omega)).trans hbb
  have hb3 : Below g w (w2.setCell ⟨g, 1, none⟩ (.slice (some ⟨h, 0, none⟩) M M)) := (below_less (below_step HB1.out hba) (Nat.le_of_lt (blk_lt HG.out))).trans (hp.below (Nat.le_refl _))
  obtain ⟨w3, hw3⟩ : ∃ w3, w3 = w2.setCell ⟨g, 1, none⟩ (.slice (some ⟨h, 0, none⟩) M M) := ⟨_, rfl⟩
  rw [← hw3] at hG3 hr3 hb3 ⊢
  have hth : w3.there g 2 4 := fun j hj => ⟨by rw [blk_cell hG3]; obtain rfl | rfl | rfl | rfl : j = 0 ∨ j = 1 ∨ j = 2 ∨ j = 3 := by omega
                                               all_goals rfl, blk_frozen hG3 _⟩
  refine wpList_store_mid rfl 36 (.tmp 17) (.tmp 15) rfl g 2 #[.int .i64 0, .int .i64 0, .int .i64 0, .int .i64 0] rfl rfl hth (by kernel_rfl) (by simp [Value.oneCell']) ?_
  obtain ⟨C2, k1, k2, k3, k4⟩ := setCells_blk [.int .i64 0, .int .i64 0, .int .i64 0, .int .i64 0] 2 w3 _ hG3
  have hp2 := Put1.cells_ g [.int .i64 0, .int .i64 0, .int .i64 0, .int .i64 0] 2 w3
  have HR := Aside0.mk (show BU (w3.setCells g 2 [.int .i64 0, .int .i64 0, .int .i64 0, .int .i64 0]) g g h n (List.replicate (4 * (n + 6)) 0) from
    ⟨⟨C2, k1, k2, (k3 0 (.inl (by decide))).trans rfl, (k3 1 (.inl (by decide))).trans (by rw [← HK.out, ← HM.out]; rfl), fun v hv => ⟨0, by
      refine k4 v _ ?_ (by show 2 + v < 6; omega)
      obtain rfl | rfl | rfl | rfl : v = 0 ∨ v = 1 ∨ v = 2 ∨ v = 3 := by omega
      all_goals rfl⟩⟩, by rw [← HK.out, ← HM.out]; exact (hp2.block h (by have := HGH.out; omega)).trans hr3, by rw [List.length_replicate], ⟨Nat.le_refl _, by have := HGH.out; omega, by have := HGH.out; omega⟩⟩)
  have HBF := Aside0.mk (hb3.trans (hp2.below (Nat.le_refl _)))
  obtain ⟨w4, hw4⟩ : ∃ w4, w4 = w3.setCells g 2 [.int .i64 0, .int .i64 0, .int .i64 0, .int .i64 0] := ⟨_, rfl⟩
  rw [show (#[Value.int .i64 0, .int .i64 0, .int .i64 0, .int .i64 0] : Array Value).toList = [.int .i64 0, .int .i64 0, .int .i64 0, .int .i64 0] from rfl, ← hw4]
  rw [← hw4] at HR HBF
  clear hba hbb hh hw2 hw3 hw4 hG2 hG3 hr3 hb3 hp hp2 hth k1 k2 k3 k4 hmk hfz1 hcl1
  go_wp2_with fail
  refine bodyPost_end (results_none rfl _ _ _) rfl ?_
  exact ⟨rfl, h, HR.out, HGH.out.2, HBF.out⟩
set_option maxRecDepth 100000 in
set_option maxHeartbeats 4000000 in
theorem new_calls {w : World} {n : Nat} (hn : n ≤ 1000) :
    Calls Tryd.prog 8 #[.int .i64 (n : Int)] w fun e w' => ∃ g h, e = .returned (.tuple #[.pointer (some ⟨g, 0, none⟩), .int .i64 0]) ∧ BU w' w.heap.size g h n (List.replicate (4 * (n + 6)) 0) ∧ Below w.heap.size w w' := by
  have HN := Aside0.mk hn
  have h1 : ¬ (n : Int) < 0 := by omega
  have h2 : ¬ (n : Int) > 4096 := by omega
  clear hn
  go_enter Tryd.func8, Tryd.ntmps8
  go_wp2_with (first
    | (go_at_call 21; refine Aside0.out ?_)
    | fail)
  refine Aside0.mk ?_
  have hba := below_alloc (Below.refl w.heap.size w) (.cells #[.int .i64 (n : Int), .slice none 0 0, .int .i64 0, .int .i64 0, .int .i64 0, .int .i64 0] 52)
  have hbb := blk_new w (.cells #[.int .i64 (n : Int), .slice none 0 0, .int .i64 0, .int .i64 0, .int .i64 0, .int .i64 0] 52)
  refine (reset_calls HN.out hbb).mono ?_
  rintro e w2 ⟨rfl, h, hu, hh, hb⟩
  have HU := Aside0.mk (show BU w2 w.heap.size w.heap.size h n _ from ⟨hu.box, hu.row, hu.len, ⟨Nat.le_refl _, hu.lo.2.1, hu.lo.2.2⟩⟩)
  have HB := Aside0.mk (hba.trans hb)
  clear hba hbb hu hh hb
  go_wp2_with fail
  go_ret2
  exact ⟨_, h, by simp, HU.out, HB.out⟩
end Go.Proofs.YteileaajmnbmpaaDoor.P
namespace Go.Proofs.YteileaajmnbmpaaDoor.P
open Go.RowKit Go.Proofs.YteileaajmnbmpaaDoorW.PrintWords Go.Proofs.YteileaajmnbmpaaDoorW.PrintLast Go.Proofs.YteileaajmnbmpaaDoorW.PrintMore
-- YteileaajmnbmpaaDoorP42
section
attribute [local go_sem] max2_int min2_int max_two min_two max_three min_three max_four min_four
set_option linter.unusedVariables false
set_option linter.unusedSimpArgs false

/-! ### pattern_Stream: function 36 -/
def pattern_Stream.f (a0 : Int) (a1 : Int) : Option (Int × Int) := (pattern_one.f a0 a1).bind fun t229 => (if t229 = true then (some (Int.tmod (wrap64 (a0 + (Int.tmod a1 4))) 4, 0)) else (some (0, 1)))
set_option maxHeartbeats 8000000 in
set_option maxRecDepth 100000 in
theorem pattern_Stream.calls (a0 : Int) (a1 : Int) (r1 : Int) (r2 : Int) (w : World) (h : pattern_Stream.f a0 a1 = some (r1, r2)) :
    Calls Tryd.prog 36 #[.int .i64 a0, .int .i64 a1] w fun e w' => e = .returned (.tuple #[.int .i64 r1, .int .i64 r2]) ∧ Drawn0 w w' := by
  have H : ((pattern_one.f a0 a1).bind fun t229 => (if t229 = true then (some (Int.tmod (wrap64 (a0 + (Int.tmod a1 4))) 4, 0)) else (some (0, 1)))) = some (r1, r2) := h
  clear h
  replace H := Option.bind_eq_some_iff.mp H
  obtain ⟨t229, A30, H⟩ := H
  replace H : (if t229 = true then (some (Int.tmod (wrap64 (a0 + (Int.tmod a1 4))) 4, 0)) else (some (0, 1))) = some (r1, r2) := H
  have A3 := Aside0.mk A30
  clear A30
  by_cases c4 : t229 = true
  · subst c4
    have H1 : (some (Int.tmod (wrap64 (a0 + (Int.tmod a1 4))) 4, 0)) = some (r1, r2) := by rw [if_pos rfl] at H; exact H
    clear H
    have H := H1
    clear H1
    simp only [Option.some.injEq, Prod.mk.injEq] at H
    obtain ⟨rfl, rfl⟩ := H
    go_enter Tryd.func36, Tryd.ntmps36
    go_wp2_with (first | ((with_reducible refine gate_callee (f := 34) rfl ?_); refine goesL_ (some 8) rfl rfl Tryd.func34 (by kernel_rfl) rfl #[.int .i64 a0, .int .i64 a1] rfl (by (try simp only [List.map_toArray, List.map_cons, List.map_nil]); first | done | rfl | (simp only [List.length_drop, List.length_take]; rfl)) ?_; (with_reducible refine (pattern_one.calls a0 a1 true _ A3.out).mono ?_); rintro e w' ⟨rfl, ⟨nd, rfl⟩⟩; refine ⟨_, rfl, ?_⟩))
    go_ret2
    exact ⟨by first | rfl | (simp; done) | (simp [*]; done), by repeat (first | exact Drawn0.refl _ | apply Drawn0.step)⟩
  · replace c4 := Bool.eq_false_iff.mpr c4
    subst c4
    have H1 : (some (0, 1)) = some (r1, r2) := by rw [if_neg (show ¬ (false = true) by decide)] at H; exact H
    clear H
    have H := H1
    clear H1
    simp only [Option.some.injEq, Prod.mk.injEq] at H
    obtain ⟨rfl, rfl⟩ := H
    go_enter Tryd.func36, Tryd.ntmps36
    go_wp2_with (first | ((with_reducible refine gate_callee (f := 34) rfl ?_); refine goesL_ (some 8) rfl rfl Tryd.func34 (by kernel_rfl) rfl #[.int .i64 a0, .int .i64 a1] rfl (by (try simp only [List.map_toArray, List.map_cons, List.map_nil]); first | done | rfl | (simp only [List.length_drop, List.length_take]; rfl)) ?_; (with_reducible refine (pattern_one.calls a0 a1 false _ A3.out).mono ?_); rintro e w' ⟨rfl, ⟨nd, rfl⟩⟩; refine ⟨_, rfl, ?_⟩))
    go_ret2
    exact ⟨by first | rfl | (simp; done) | (simp [*]; done), by repeat (first | exact Drawn0.refl _ | apply Drawn0.step)⟩
end
-- YteileaajmnbmpaaDoorP43
section
attribute [local go_sem] max2_int min2_int max_two min_two max_three min_three max_four min_four
set_option linter.unusedVariables false
set_option linter.unusedSimpArgs false

/-! ### pattern_Places: function 25 -/
mutual
def pattern_Places.j0 : Nat → Int → Int → Bool → Option (List Int × Int)
  | 0, _, _, _ => none
  | k + 1, x0, x1, x17 => if x17 = true then (some (([] : List Int), 1)) else (pattern_Places.l0 k x0 ([] : List Int) x1 0)
def pattern_Places.l0 : Nat → Int → List Int → Int → Int → Option (List Int × Int)
  | 0, _, _, _, _ => none
  | k + 1, x0, x6, x18, x19 => if x19 < x18 then ((pattern_Stream.f x0 x19).bind fun bt231 => (if bt231.2 = 0 then (if x6.length < 17592186044416 then (pattern_Places.l0 k x0 (x6 ++ [wrap64 ((wrap64 (4 * x19)) + bt231.1)]) x18 (wrap64 (x19 + 1))) else (none)) else (some (([] : List Int), bt231.2)))) else (some (x6, 0))
end
def pattern_Places.f (k : Nat) (a0 : Int) (a1 : Int) : Option (List Int × Int) := (pattern_one.f a0 a1).bind fun t230 => (if t230 = true then (pattern_Places.j0 k a0 a1 (decide (a1 > 16384))) else (pattern_Places.j0 k a0 a1 true))
theorem pattern_Places.mono_l : ∀ k, (∀ y0 y1 y2, LeO (pattern_Places.j0 k y0 y1 y2) (pattern_Places.j0 (k + 1) y0 y1 y2)) ∧ (∀ y0 y1 y2 y3, LeO (pattern_Places.l0 k y0 y1 y2 y3) (pattern_Places.l0 (k + 1) y0 y1 y2 y3))
  | 0 => ⟨fun _ _ _ r h => by simp [pattern_Places.j0] at h, fun _ _ _ _ r h => by simp [pattern_Places.l0] at h⟩
  | k + 1 => by
    obtain ⟨ih0, ih1⟩ := pattern_Places.mono_l k
    refine ⟨?_, ?_⟩
    · intro y0 y1 y2
      unfold pattern_Places.j0
      repeat' first
      | (with_reducible exact ih0 _ _ _)
      | (with_reducible exact ih1 _ _ _ _)
      | (with_reducible exact LeO.refl _)
      | (with_reducible exact LeO.none _)
      | (with_reducible refine LeO.ite ?_ ?_)
      | (with_reducible refine LeO.bind ?_ (fun _ => ?_))
      | exact ih0 _ _ _
      | exact ih1 _ _ _ _
      | exact LeO.none _
      | refine LeO.ite ?_ ?_
      | refine LeO.bind ?_ (fun _ => ?_)
    · intro y0 y1 y2 y3
      unfold pattern_Places.l0
      repeat' first
      | (with_reducible exact ih0 _ _ _)
      | (with_reducible exact ih1 _ _ _ _)
      | (with_reducible exact LeO.refl _)
      | (with_reducible exact LeO.none _)
      | (with_reducible refine LeO.ite ?_ ?_)
      | (with_reducible refine LeO.bind ?_ (fun _ => ?_))
      | exact ih0 _ _ _
      | exact ih1 _ _ _ _
      | exact LeO.none _
      | refine LeO.ite ?_ ?_
      | refine LeO.bind ?_ (fun _ => ?_)
theorem pattern_Places.mono : ∀ a0 a1 k, LeO (pattern_Places.f k a0 a1) (pattern_Places.f (k + 1) a0 a1) := by
  intro a0 a1 k
  obtain ⟨ih0, ih1⟩ := pattern_Places.mono_l k
  unfold pattern_Places.f
  repeat' first
      | (with_reducible exact ih0 _ _ _)
      | (with_reducible exact ih1 _ _ _ _)
      | (with_reducible exact LeO.refl _)
      | (with_reducible exact LeO.none _)
      | (with_reducible refine LeO.ite ?_ ?_)
      | (with_reducible refine LeO.bind ?_ (fun _ => ?_))
      | exact ih0 _ _ _
      | exact ih1 _ _ _ _
      | exact LeO.none _
      | refine LeO.ite ?_ ?_
      | refine LeO.bind ?_ (fun _ => ?_)
set_option maxHeartbeats 8000000 in
set_option maxRecDepth 100000 in
theorem pattern_Places.calls (k : Nat) (a0 : Int) (a1 : Int) (r1 : List Int) (r2 : Int) (w : World) (h : pattern_Places.f k a0 a1 = some (r1, r2)) :
    Calls Tryd.prog 25 #[.int .i64 a0, .int .i64 a1] w fun e w' => ∃ v0_ : Value, e = .returned (.tuple #[v0_, .int .i64 r2]) ∧ Kd.R (Kd.int .i64) 3 w' w.heap.size (fun _ => True) v0_ r1 ∧ Below w.heap.size w w' := by
  have HB := Aside0.mk (Below.refl w.heap.size w)
  have H : ((pattern_one.f a0 a1).bind fun t230 => (if t230 = true then (pattern_Places.j0 k a0 a1 (decide (a1 > 16384))) else (pattern_Places.j0 k a0 a1 true))) = some (r1, r2) := h
  clear h
  have HC3 := Aside0.mk H
  clear H
  go_enter Tryd.func25, Tryd.ntmps25
  go_upto_region 1 with (fail)
  go_cut [17] (fun v17 wc => ∃ (kq : Nat) (x17_2 : Bool), v17 = .bool x17_2 ∧ Aside0 (pattern_Places.j0 kq a0 a1 x17_2 = some (r1, r2)) ∧ Aside0 (kq ≤ k) ∧ Aside0 (Below w.heap.size w wc))
  case first =>
    have H := HC3.out
    clear HC3
    replace H := Option.bind_eq_some_iff.mp H
    obtain ⟨t230, A40, H⟩ := H
    replace H : (if t230 = true then (pattern_Places.j0 k a0 a1 (decide (a1 > 16384))) else (pattern_Places.j0 k a0 a1 true)) = some (r1, r2) := H
    have A4 := Aside0.mk A40
    clear A40
    by_cases c5 : t230 = true
    · subst c5
      have H1 : (pattern_Places.j0 k a0 a1 (decide (a1 > 16384))) = some (r1, r2) := by rw [if_pos rfl] at H; exact H
      clear H
      have H := H1
      clear H1
      have H' := Aside0.mk H
      clear H
      go_wp2_with (first | ((with_reducible refine gate_callee (f := 34) rfl ?_); refine goesL_ (some 12) rfl rfl Tryd.func34 (by kernel_rfl) rfl #[.int .i64 a0, .int .i64 a1] rfl (by (try simp only [List.map_toArray, List.map_cons, List.map_nil]); first | done | rfl | (simp only [List.length_drop, List.length_take]; rfl)) ?_; (with_reducible refine (pattern_one.calls a0 a1 true _ A4.out).mono ?_); rintro e w' ⟨rfl, ⟨nd, rfl⟩⟩; refine ⟨_, rfl, ?_⟩))
      go_meet
      case rel => exact ⟨_, (decide (a1 > 16384)), (by first | rfl | (simp; done) | (simp [*]; done)), H', ⟨by first | omega | exact Nat.le_refl _⟩, ⟨by repeat (first | (with_reducible first | exact HB.out | apply below_alloc | apply pw_below_drewN | apply below_drew1) | exact HB.out)⟩⟩
    · replace c5 := Bool.eq_false_iff.mpr c5
      subst c5
      have H1 : (pattern_Places.j0 k a0 a1 true) = some (r1, r2) := by rw [if_neg (show ¬ (false = true) by decide)] at H; exact H
      clear H
      have H := H1
      clear H1
      have H' := Aside0.mk H
      clear H
      go_wp2_with (first | ((with_reducible refine gate_callee (f := 34) rfl ?_); refine goesL_ (some 12) rfl rfl Tryd.func34 (by kernel_rfl) rfl #[.int .i64 a0, .int .i64 a1] rfl (by (try simp only [List.map_toArray, List.map_cons, List.map_nil]); first | done | rfl | (simp only [List.length_drop, List.length_take]; rfl)) ?_; (with_reducible refine (pattern_one.calls a0 a1 false _ A4.out).mono ?_); rintro e w' ⟨rfl, ⟨nd, rfl⟩⟩; refine ⟨_, rfl, ?_⟩))
      go_meet
      case rel => exact ⟨_, (true), (by first | rfl | (simp; done) | (simp [*]; done)), H', ⟨by first | omega | exact Nat.le_refl _⟩, ⟨by repeat (first | (with_reducible first | exact HB.out | apply below_alloc | apply pw_below_drewN | apply below_drew1) | exact HB.out)⟩⟩
  case rest =>
    clear HC3
    try clear c2
    try clear p2
    try clear c3
    try clear c5
    obtain ⟨kq, x17_2, rfl, HA, HJ2, HB⟩ := hcut
    cases kq with
    | zero => exact absurd HA.out (by simp [pattern_Places.j0])
    | succ kj2 =>
      have H := HA.out
      clear HA
      simp only [pattern_Places.j0] at H
      by_cases c6 : x17_2 = true
      · subst c6
        have H1 : (some (([] : List Int), 1)) = some (r1, r2) := by rw [if_pos rfl] at H; exact H
        clear H
        have H := H1
        clear H1
        simp only [Option.some.injEq, Prod.mk.injEq] at H
        obtain ⟨rfl, rfl⟩ := H
        go_wp2
        go_ret2
        exact ⟨_, by first | rfl | (simp [errW_none, errW_some] <;> rfl) | (simp [*, errW_none, errW_some] <;> rfl), by first | exact Kd.R_nil _ _ _ _ _ | exact Kd.N_nil _ _ _ _ _ | exact Kd.V_nil _ _ _ _ _ | exact Kd.Q_nil _ _ _ _ _ | exact Kd.S_nil _ _ _ _ _, by repeat (first | (with_reducible first | exact HB.out | apply below_alloc | apply pw_below_drewN | apply below_drew1) | exact HB.out)⟩
      · replace c6 := Bool.eq_false_iff.mpr c6
        subst c6
        have H1 : (pattern_Places.l0 kj2 a0 ([] : List Int) a1 0) = some (r1, r2) := by rw [if_neg (show ¬ (false = true) by decide)] at H; exact H
        clear H
        have H := H1
        clear H1
        have H' := Aside0.mk H
        clear H
        go_wp2
        go_loopg [6, 19] kj2 (fun kq v6 v19 w' => ∃ (x6_2 : List Int) (x19_2 : Int), v19 = .int .i64 x19_2 ∧ Aside0 (pattern_Places.l0 kq a0 x6_2 a1 x19_2 = some (r1, r2)) ∧ Aside0 (kq ≤ kj2) ∧ Aside0 (Kd.R (Kd.int .i64) 3 w' w.heap.size (fun _ => True) v6 x6_2) ∧ Aside0 (Below w.heap.size w w'))
        case atStart => exact ⟨(([] : List Int)), (0), (by first | rfl | (simp; done) | (simp [*]; done)), H', ⟨Nat.le_refl _⟩, ⟨by first | exact Kd.R_nil _ _ _ _ _ | exact Kd.N_nil _ _ _ _ _ | exact Kd.V_nil _ _ _ _ _ | exact Kd.Q_nil _ _ _ _ _ | exact Kd.S_nil _ _ _ _ _⟩, ⟨by repeat (first | (with_reducible first | exact HB.out | apply below_alloc | apply pw_below_drewN | apply below_drew1) | exact HB.out)⟩⟩
        case round =>
          clear H'
          try clear c2
          try clear p2
          try clear c3
          try clear c5
          try clear c6
          try clear p2
          obtain ⟨x6_2, x19_2, rfl, HA, HK2, HO_6, HB⟩ := hrel
          cases gk with
          | zero => exact absurd HA.out (by simp [pattern_Places.l0])
          | succ k2 =>
            have H := HA.out
            clear HA
            simp only [pattern_Places.l0] at H
            by_cases c7 : x19_2 < a1
            · rw [if_pos c7] at H
              have c7b0 : decide (x19_2 < a1) = true := decide_eq_true c7
              clear c7
              replace H := Option.bind_eq_some_iff.mp H
              obtain ⟨⟨t231, t232⟩, A80, H⟩ := H
              replace H : (if t232 = 0 then (if x6_2.length < 17592186044416 then (pattern_Places.l0 k2 a0 (x6_2 ++ [wrap64 ((wrap64 (4 * x19_2)) + t231)]) a1 (wrap64 (x19_2 + 1))) else (none)) else (some (([] : List Int), t232))) = some (r1, r2) := H
              have A8 := Aside0.mk A80
              clear A80
              by_cases c9 : t232 = 0
              · rw [if_pos c9] at H
                have c9b0 : (t232 == 0) = true := beq_iff_eq.mpr c9
                have c9b1 : (t232 != 0) = false := bne_eq_false_iff_eq.mpr c9
                clear c9
                by_cases c10 : x6_2.length < 17592186044416
                · rw [if_pos c10] at H
                  have LMc10 := Aside0.mk c10
                  clear c10
                  obtain ⟨y233, hy233⟩ : ∃ y_ : List Int, y_ = (x6_2 ++ [wrap64 ((wrap64 (4 * x19_2)) + t231)]) := ⟨_, rfl⟩
                  replace H : (pattern_Places.l0 k2 a0 y233 a1 (wrap64 (x19_2 + 1))) = some (r1, r2) := by first | (rw [hy233]; with_reducible exact H) | (have H2_ := (Option.bind_some _ _).symm.trans H; rw [hy233]; with_reducible exact H2_) | (have H2_ := (Option.bind_some _ _).symm.trans H; with_reducible exact H2_) | with_reducible exact H | (rw [hy233]; exact H) | exact H
                  have Ny233 := Aside0.mk hy233
                  clear hy233
                  have H' := Aside0.mk H
                  clear H
                  go_wp2_with (first | ((with_reducible refine gate_callee (f := 36) rfl ?_); refine goesL_ (some 25) rfl rfl Tryd.func36 (by kernel_rfl) rfl #[.int .i64 a0, .int .i64 x19_2] rfl (by (try simp only [List.map_toArray, List.map_cons, List.map_nil]); first | done | rfl | (simp only [List.length_drop, List.length_take]; rfl)) ?_; (with_reducible refine (pattern_Stream.calls a0 x19_2 t231 t232 _ A8.out).mono ?_); rintro e w' ⟨rfl, ⟨nd, rfl⟩⟩; refine ⟨_, rfl, ?_⟩) | ((with_reducible refine gate_builtin (b := .append) (xs := #[.tmp 31, .tmp 36]) rfl ?_); at_builtin; refine Kd.R_append (Kd.int .i64) (w0 := w) w.heap.size rfl (.tmp 31) (.tmp 36) 23 3 (.int .i64 0) 8 rfl Tryd.underlying23 info3 rfl (by decide) (by omega) u6 x6_2 (wrap64 ((wrap64 (4 * x19_2)) + t231)) [.int .i64 (wrap64 ((wrap64 (4 * x19_2)) + t231))] (fun _ => True) (fun _ => False) rfl rfl ?aP (fun _ hk => hk.elim) ?aF ?aO ?aB ?aS ?aL ?_; (case aP => exact rfl); (case aB => exact (by repeat (first | (with_reducible first | exact HB.out | apply below_alloc | apply pw_below_drewN | apply below_drew1) | exact HB.out))); (case aF => exact (fun _ _ => trivial)); (case aO => exact (by (with_reducible repeat (first | apply Kd.R_alloc | apply Kd.R_drewN | apply Kd.R_drew)); exact HO_6.out)); (case aS => exact (below_size (by repeat (first | (with_reducible first | exact HB.out | apply below_alloc | apply pw_below_drewN | apply below_drew1) | exact HB.out)))); (case aL => have := LMc10.out; omega); intro v234 w11 ho hb hg hat; rw [← Ny233.out] at ho; have n0_ := Aside0.mk (hb); have n1_ := Aside0.mk (ho); clear HB; clear HO_6; have HB := n0_; have HO235 := n1_; clear n0_ n1_; clear ho hb hg hat))
                  go_roundg k2
                  case measure => have := HJ2.out; have := HK2.out; omega
                  case rel => exact ⟨(y233), (wrap64 (x19_2 + 1)), (by first | rfl | (simp; done) | (simp [*]; done)), H', ⟨by have := HJ2.out; have := HK2.out; omega⟩, ⟨by (with_reducible repeat (first | apply Kd.R_alloc | apply Kd.R_drewN | apply Kd.R_drew)); exact HO235.out⟩, ⟨by repeat (first | (with_reducible first | exact HB.out | apply below_alloc | apply pw_below_drewN | apply below_drew1) | exact HB.out)⟩⟩
                · rw [if_neg c10] at H
                  exact absurd H (by simp)
              · rw [if_neg c9] at H
                have c9b0 : (t232 == 0) = false := beq_eq_false_iff_ne.mpr c9
                have c9b1 : (t232 != 0) = true := bne_iff_ne.mpr c9
                simp only [Option.some.injEq, Prod.mk.injEq] at H
                obtain ⟨rfl, rfl⟩ := H
                go_wp2_with (first | ((with_reducible refine gate_callee (f := 36) rfl ?_); refine goesL_ (some 25) rfl rfl Tryd.func36 (by kernel_rfl) rfl #[.int .i64 a0, .int .i64 x19_2] rfl (by (try simp only [List.map_toArray, List.map_cons, List.map_nil]); first | done | rfl | (simp only [List.length_drop, List.length_take]; rfl)) ?_; (with_reducible refine (pattern_Stream.calls a0 x19_2 t231 t232 _ A8.out).mono ?_); rintro e w' ⟨rfl, ⟨nd, rfl⟩⟩; refine ⟨_, rfl, ?_⟩))
                go_ret2
                exact ⟨_, by first | rfl | (simp [errW_none, errW_some] <;> rfl) | (simp [*, errW_none, errW_some] <;> rfl), by first | exact Kd.R_nil _ _ _ _ _ | exact Kd.N_nil _ _ _ _ _ | exact Kd.V_nil _ _ _ _ _ | exact Kd.Q_nil _ _ _ _ _ | exact Kd.S_nil _ _ _ _ _, by repeat (first | (with_reducible first | exact HB.out | apply below_alloc | apply pw_below_drewN | apply below_drew1) | exact HB.out)⟩
            · rw [if_neg c7] at H
              have c7b0 : decide (x19_2 < a1) = false := decide_eq_false c7
              clear c7
              simp only [Option.some.injEq, Prod.mk.injEq] at H
              obtain ⟨rfl, rfl⟩ := H
              go_wp2
              go_ret2
              exact ⟨_, by first | rfl | (simp [errW_none, errW_some] <;> rfl) | (simp [*, errW_none, errW_some] <;> rfl), by (with_reducible repeat (first | apply Kd.R_alloc | apply Kd.R_drewN | apply Kd.R_drew)); exact HO_6.out, by repeat (first | (with_reducible first | exact HB.out | apply below_alloc | apply pw_below_drewN | apply below_drew1) | exact HB.out)⟩
end
-- YteileaajmnbmpaaDoorP45
section
attribute [local go_sem] max2_int min2_int max_two min_two max_three min_three max_four min_four
set_option linter.unusedVariables false
set_option linter.unusedSimpArgs false

/-! ### soft_Add: function 26 -/
def soft_Add.f (a0 : Int) (a1 : Int) : Option (Int) := (soft_Clip.f a0).bind fun t236 => ((soft_Clip.f a1).bind fun t237 => ((soft_Clip.f (wrap64 (t236 + t237))).bind fun t238 => (some t238)))
set_option maxHeartbeats 8000000 in
set_option maxRecDepth 100000 in
theorem soft_Add.calls (a0 : Int) (a1 : Int) (r : Int) (w : World) (h : soft_Add.f a0 a1 = some r) :
    Calls Tryd.prog 26 #[.int .i64 a0, .int .i64 a1] w fun e w' => e = .returned (.int .i64 r) ∧ Drawn0 w w' := by
  have H : ((soft_Clip.f a0).bind fun t236 => ((soft_Clip.f a1).bind fun t237 => ((soft_Clip.f (wrap64 (t236 + t237))).bind fun t238 => (some t238)))) = some r := h
  clear h
  replace H := Option.bind_eq_some_iff.mp H
  obtain ⟨t236, A30, H⟩ := H
  replace H : ((soft_Clip.f a1).bind fun t237 => ((soft_Clip.f (wrap64 (t236 + t237))).bind fun t238 => (some t238))) = some r := H
  have A3 := Aside0.mk A30
  clear A30
  replace H := Option.bind_eq_some_iff.mp H
  obtain ⟨t237, A40, H⟩ := H
  replace H : ((soft_Clip.f (wrap64 (t236 + t237))).bind fun t238 => (some t238)) = some r := H
  have A4 := Aside0.mk A40
  clear A40
  replace H := Option.bind_eq_some_iff.mp H
  obtain ⟨t238, A50, H⟩ := H
  replace H : (some t238) = some r := H
  have A5 := Aside0.mk A50
  clear A50
  obtain rfl := Option.some.inj H
  go_enter Tryd.func26, Tryd.ntmps26
  go_wp2_with (first | ((with_reducible refine gate_callee (f := 37) rfl ?_); refine goesL_ (some 6) rfl rfl Tryd.func37 (by kernel_rfl) rfl #[.int .i64 a0] rfl (by (try simp only [List.map_toArray, List.map_cons, List.map_nil]); first | done | rfl | (simp only [List.length_drop, List.length_take]; rfl)) ?_; (with_reducible refine (soft_Clip.calls a0 t236 _ A3.out).mono ?_); rintro e w' ⟨rfl, ⟨nd, rfl⟩⟩; refine ⟨_, rfl, ?_⟩) | ((with_reducible refine gate_callee (f := 37) rfl ?_); refine goesL_ (some 8) rfl rfl Tryd.func37 (by kernel_rfl) rfl #[.int .i64 a1] rfl (by (try simp only [List.map_toArray, List.map_cons, List.map_nil]); first | done | rfl | (simp only [List.length_drop, List.length_take]; rfl)) ?_; (with_reducible refine (soft_Clip.calls a1 t237 _ A4.out).mono ?_); rintro e w' ⟨rfl, ⟨nd, rfl⟩⟩; refine ⟨_, rfl, ?_⟩) | ((with_reducible refine gate_callee (f := 37) rfl ?_); refine goesL_ (some 10) rfl rfl Tryd.func37 (by kernel_rfl) rfl #[.int .i64 (wrap64 (t236 + t237))] rfl (by (try simp only [List.map_toArray, List.map_cons, List.map_nil]); first | done | rfl | (simp only [List.length_drop, List.length_take]; rfl)) ?_; (with_reducible refine (soft_Clip.calls (wrap64 (t236 + t237)) t238 _ A5.out).mono ?_); rintro e w' ⟨rfl, ⟨nd, rfl⟩⟩; refine ⟨_, rfl, ?_⟩))
  go_ret
  exact ⟨by first | rfl | (simp; done) | (simp [*]; done), by repeat (first | exact Drawn0.refl _ | apply Drawn0.step)⟩
end
end Go.Proofs.YteileaajmnbmpaaDoor.P
namespace Go.Proofs.YteileaajmnbmpaaDoor.P
open Go Go.Proofs Go.RowKit Go.Proofs.YteileaajmnbmpaaDoorW.PrintWords Go.Proofs.YteileaajmnbmpaaDoorW.PrintLast Go.Proofs.YteileaajmnbmpaaDoorW.PrintMore
set_option linter.unusedVariables false
set_option linter.unusedSimpArgs false
-- YteileaajmnbmpaaDoorPCAdd
/-- Where a version's bit of a step stands. -/
def plc (v t : Nat) : Nat := 4 * t + (v + t % 4) % 4
def plL (v m : Nat) : List Int := (List.range m).map fun t => (plc v t : Int)
theorem plL_len (v m : Nat) : (plL v m).length = m := by simp [plL]
theorem plL_succ (v m : Nat) : plL v (m + 1) = plL v m ++ [(plc v m : Int)] := by unfold plL; rw [List.range_succ, List.map_append]; rfl
theorem plL_get (v m t : Nat) (h : t < m) : (plL v m).getD t 0 = (plc v t : Int) := by
  unfold plL
  rw [List.getD_eq_getElem?_getD, List.getElem?_map, List.getElem?_range h]; rfl
theorem one_f (v t : Nat) (hv : v < 4) : pattern_one.f (v : Int) (t : Int) = some true := by
  unfold pattern_one.f
  have h1 : (decide ((v : Int) ≥ 0)) = true := decide_eq_true (by omega)
  have h2 : (decide ((v : Int) < 4)) = true := decide_eq_true (by omega)
  have h3 : (decide ((t : Int) ≥ 0)) = true := decide_eq_true (by omega)
  simp [h1, h2, h3]
  omega
theorem stream_f (v t : Nat) (hv : v < 4) (ht : t ≤ 1000) : pattern_Stream.f (v : Int) (t : Int) = some ((((v + t % 4) % 4 : Nat) : Int), 0) := by
  unfold pattern_Stream.f
  rw [one_f v t hv, Option.bind_some, if_pos rfl]
  refine congrArg some (Prod.ext ?_ rfl)
  show Int.tmod (wrap64 ((v : Int) + Int.tmod (t : Int) 4)) 4 = _
  have h4 : Int.tmod (t : Int) 4 = ((t % 4 : Nat) : Int) := by rw [Int.tmod_eq_emod_of_nonneg (by omega)]; omega
  rw [h4, wrap_in (by omega) (by omega), Int.tmod_eq_emod_of_nonneg (by omega)]
  omega
theorem places_l0 (v m : Nat) (hv : v < 4) (hm : m ≤ 1000) (d : Nat) : ∀ k i : Nat, i + d = m → d < k → pattern_Places.l0 k (v : Int) (plL v i) (m : Int) (i : Int) = some (plL v m, 0) := by
  induction d with
  | zero =>
    intro k i hi hk
    obtain ⟨k, rfl⟩ := pred hk
    obtain rfl : i = m := by omega
    rw [pattern_Places.l0.eq_2, if_neg (by omega)]
  | succ d ih =>
    intro k i hi hk
    obtain ⟨k, rfl⟩ := pred hk
    have hn := ih k (i + 1) (by omega) (by omega)
    have e : wrap64 (wrap64 (4 * (i : Int)) + (((v + i % 4) % 4 : Nat) : Int)) = (plc v i : Int) := by
      rw [wrap_in (n := 4 * (i : Int)) (by omega) (by omega), wrap_in (by omega) (by omega)]
      unfold plc; omega
    rw [pattern_Places.l0.eq_2, if_pos (by omega), stream_f v i hv (by omega), Option.bind_some, if_pos rfl, if_pos (by rw [plL_len]; omega), e, wrap_succ i (by omega), ← plL_succ]
    exact hn
theorem places_f (v m : Nat) (hv : v < 4) (hm : m ≤ 1000) : pattern_Places.f 2000 (v : Int) (m : Int) = some (plL v m, 0) := by
  unfold pattern_Places.f
  rw [one_f v m hv, Option.bind_some, if_pos rfl, pattern_Places.j0.eq_2, if_neg (by rw [decide_eq_false (by omega)]; decide)]
  exact places_l0 v m hv hm m 1999 0 (by omega) (by omega)
theorem add_f {a s : Int} (ha : -30 ≤ a ∧ a ≤ 30) (hs : s = 1 ∨ s = -1) : soft_Add.f a s = some (a + s) := by
  unfold soft_Add.f
  rw [clip_f (by omega), Option.bind_some, clip_f (by omega), Option.bind_some, wrap_in (by omega) (by omega), clip_f (by omega)]; rfl
theorem so_pm (b : Int) : so b = 1 ∨ so b = -1 := by unfold so; split <;> simp
/-- Behind k of a version's bits. -/
def adK (σ : List Int) (v : Nat) (P : List Int) : Nat → List Int
  | 0 => σ
  | k + 1 => (adK σ v P k).set (plc v k) ((adK σ v P k).getD (plc v k) 0 + so (P.getD k 0))
theorem adK_len (σ : List Int) (v : Nat) (P : List Int) : ∀ k, (adK σ v P k).length = σ.length
  | 0 => rfl
  | k + 1 => by unfold adK; rw [List.length_set, adK_len σ v P k]
theorem adK_get (σ : List Int) (v : Nat) (P : List Int) (j : Nat) : ∀ k, 4 * k ≤ σ.length → (adK σ v P k).getD j 0 = σ.getD j 0 + (if j / 4 < k ∧ j = plc v (j / 4) then so (P.getD (j / 4) 0) else 0)
  | 0, _ => by rw [if_neg (by omega)]; show σ.getD j 0 = _; omega
  | k + 1, h => by
    have ih := adK_get σ v P j k (by omega)
    have hp : plc v k < 4 * k + 4 ∧ 4 * k ≤ plc v k := by unfold plc; omega
    have hpd : plc v k / 4 = k := by omega
    unfold adK
    rw [set_getD _ _ _ _ (by rw [adK_len]; omega)]
    by_cases e : j = plc v k
    · have ej : j / 4 = k := by rw [e]; exact hpd
      rw [if_pos e, if_pos ⟨by omega, by rw [ej]; exact e⟩]
      rw [if_neg (by omega)] at ih
      rw [← e, ih, ej]; omega
    · rw [if_neg e, ih]
      by_cases c : j / 4 < k ∧ j = plc v (j / 4)
      · rw [if_pos c, if_pos ⟨by omega, c.2⟩]
      · rw [if_neg c, if_neg (fun h => c ⟨by
          have := h.1
          by_cases q : j / 4 = k
          · exact absurd (by rw [q] at h; exact h.2) e
          · omega, h.2⟩)]
theorem BU.put {w : World} {S g h n : Nat} {σ : List Int} (b : BU w S g h n σ) (j : Nat) (x : Int) : BU (w.setCell ⟨h, j, none⟩ (.int .i64 x)) S g h n (σ.set j x) := by
  have hp := Put1.set h j w (.int .i64 x)
  obtain ⟨C, hC, r⟩ := b.box
  exact ⟨⟨C, (hp.block g b.lo.2.2).trans hC, r⟩, blk_put b.row j _ (ints_set σ j x), by rw [List.length_set]; exact b.len, b.lo⟩
theorem BU.count {w : World} {S g h n : Nat} {σ : List Int} (b : BU w S g h n σ) (v : Nat) (hv : v < 4) (x : Int) : BU (w.setCell ⟨g, 2 + v, none⟩ (.int .i64 x)) S g h n σ := by
  have hp := Put1.set g (2 + v) w (.int .i64 x)
  obtain ⟨C, hC, h1, h2, h3, h4⟩ := b.box
  refine ⟨⟨C.setIfInBounds (2 + v) (.int .i64 x), blk_put hC (2 + v) _ rfl, by simp [h1], ?_, ?_, fun u hu => ?_⟩, (hp.block h (Ne.symm b.lo.2.2)).trans b.row, b.len, b.lo⟩
  · rw [Array.getElem?_setIfInBounds, if_neg (by omega)]; exact h2
  · rw [Array.getElem?_setIfInBounds, if_neg (by omega)]; exact h3
  · rw [Array.getElem?_setIfInBounds]
    by_cases e : 2 + v = 2 + u
    · rw [if_pos e, if_pos (by omega)]; exact ⟨x, rfl⟩
    · rw [if_neg e]; exact h4 u hu
set_option maxRecDepth 100000 in
set_option maxHeartbeats 4000000 in
theorem cdecode_calls {w : World} (hT : TP w) {S g h n : Nat} {σ : List Int} (b : BU w S g h n σ) (hn : n ≤ 1000) (hσ : ∀ j, -31 ≤ σ.getD j 0 ∧ σ.getD j 0 ≤ 31) (u : List Nat) (hA : Alone (fun j => σ.getD j 0) (n + 6) n u) :
    Calls Tryd.prog 15 #[.pointer (some ⟨g, 0, none⟩)] w fun e w' => ∃ v, e = .returned (.tuple #[v, .int .i64 0]) ∧ Kd.R (Kd.int .u8) 5 w' w.heap.size (fun _ => True) v (toI (u.take n)) ∧ Below w.heap.size w w' := by
  obtain ⟨C, hC, h1, h2, h3, h4⟩ := b.box
  have hc1 := (blk_cell hC 1).trans h3
  have hK : Kd.C (Kd.int .i64) w (some ⟨h, 0, none⟩) σ.length σ := by
    refine Kd.C_of_reads (enc := Value.int .i64) (d := (0 : Int)) (h1 := fun _ => rfl) ⟨rfl, by rw [b.len]; omega, fun hp => ⟨_, rfl, fun j hj => ?_⟩⟩
    have ha : (⟨h, 0, none⟩ : Addr).add j = ⟨h, j, none⟩ := by
      unfold Addr.add; simp; intro e; exact e.symm
    rw [ha]; exact (blk_cell b.row j).trans (ints_get σ j hj)
  have HV := Aside0.mk (vdecode_calls hT hK (c := 4 * (n + 6)) (by rw [b.len]; exact Nat.le_refl _) n b.len hn hσ u hA)
  obtain ⟨M, hM⟩ : ∃ M, M = 4 * (n + 6) := ⟨_, rfl⟩
  rw [← hM] at HV hc1
  clear hC h1 h2 h3 h4 hK hA hσ hn b hM hT
  go_enter Tryd.func15, Tryd.ntmps15
  go_wp2_with (first
    | (go_at_call 30; refine HV.out.mono ?_; rintro e w1 ⟨v, sc, rfl, hv, hb⟩; have HR := Aside0.mk hv; have HB := Aside0.mk hb; clear hv hb HV)
    | fail)
  go_ret2
  exact ⟨v, by simp, HR.out, HB.out⟩
-- YteileaajmnbmpaaDoorPMAdd
theorem add_block (d : Addr) (j : Nat) : (d.add j).block = d.block := by unfold Addr.add; split <;> rfl
/-- A list that lies elsewhere. -/
theorem C_put {w w' : World} {A : Option Addr} {P : List Int} {a : Nat} (h : Kd.C (Kd.int .u8) w A P.length P) (hp : Put1 a w w') (hA : ∀ d, A = some d → d.block ≠ a) : Kd.C (Kd.int .u8) w' A P.length P := by
  have r := Kd.reads_of_C (enc := Value.int .u8) (d := (0 : Int)) (h1 := fun _ => rfl) h
  refine Kd.C_of_reads (enc := Value.int .u8) (d := (0 : Int)) (h1 := fun _ => rfl) ⟨r.1, r.2.1, fun hq => ?_⟩
  obtain ⟨d, hd, hr⟩ := r.2.2 hq
  exact ⟨d, hd, fun j hj => (World.cell?_of_block (a := d.add j) (hp.block _ (by rw [add_block]; exact hA d hd))).trans (hr j hj)⟩
theorem adK_in {σ : List Int} {v : Nat} {P : List Int} (hσ : ∀ j, -29 ≤ σ.getD j 0 ∧ σ.getD j 0 ≤ 29) (t : Nat) (h : 4 * t ≤ σ.length) (j : Nat) : -30 ≤ (adK σ v P t).getD j 0 ∧ (adK σ v P t).getD j 0 ≤ 30 := by
  rw [adK_get σ v P j t h]
  have h1 := hσ j
  have h2 := so_pm (P.getD (j / 4) 0)
  split
  · omega
  · omega
/-- But for two blocks nothing that was there has turned. -/
structure Two (g h : Nat) (w w' : World) : Prop where
  os : w'.os = w.os
  tape : w'.tape = w.tape
  output : w'.output = w.output
  size : w.heap.size ≤ w'.heap.size
  block : ∀ k, k < w.heap.size → k ≠ g → k ≠ h → w'.heap[k]? = w.heap[k]?
theorem Two.of_below {g h : Nat} {w w' : World} (b : Below w.heap.size w w') : Two g h w w' := ⟨b.os, b.tape, b.output, b.size, fun k hk _ _ => b.block k hk⟩
theorem Two.put1 {g h a : Nat} {w w' : World} (p : Put1 a w w') (ha : a = g ∨ a = h) : Two g h w w' := ⟨p.os, p.tape, p.output, Nat.le_of_eq p.size.symm, fun k hk k1 k2 => p.block k (by omega)⟩
theorem Two.trans {g h : Nat} {w w1 w2 : World} (a : Two g h w w1) (b : Two g h w1 w2) : Two g h w w2 :=
  ⟨b.os.trans a.os, b.tape.trans a.tape, b.output.trans a.output, Nat.le_trans a.size b.size, fun k hk k1 k2 => (b.block k (Nat.lt_of_lt_of_le hk a.size) k1 k2).trans (a.block k hk k1 k2)⟩
theorem Two.below {g h S : Nat} {w w' : World} (a : Two g h w w') (hS : S ≤ w.heap.size) (hg : S ≤ g) (hh : S ≤ h) : Below S w w' := ⟨a.os, a.tape, a.output, a.size, fun k hk => a.block k (by omega) (by omega) (by omega)⟩
def madd13.T : Bool × List (List Nat × List Nat) := (true, [([], []), ([0], [0]), ([1], [1]), ([2], [2]), ([], []), ([], []), ([5], [5]), ([6], [6]), ([7], [7]), ([], []), ([8, 9], [8, 9]), ([10], [10]), ([], []), ([], []), ([12, 13], [12, 13]), ([14], [14]), ([15], [15]), ([11, 16, 16], [11, 16]), ([3, 4, 0, 1, 2, 3, 4, 5, 6, 7, 8, 9, 10, 11, 12, 13, 14, 15, 16, 17], [3, 4]), ([18, 17, 17, 0, 1, 2, 3, 4, 5, 6, 7, 8, 9, 10, 11, 12, 13, 14, 15, 16, 17], [17, 18])])
def madd13.B : List Nat := [0, 1, 3, 7, 0, 0, 32, 96, 224, 0, 992, 2016, 0, 0, 12288, 28672, 61440, 131040, 262143, 524287]
theorem madd13.tab : rtab .any (opsOf Tryd.f13 13) = madd13.T := by kernel_rfl
theorem madd13.bits : waitsOk madd13.T.2 madd13.B = true := by kernel_rfl
def madd15.T : Bool × List (List Nat × List Nat) := (true, [([], []), ([], []), ([0], [0]), ([2], [2]), ([3, 1], [1, 3]), ([4], [4]), ([5], [5]), ([0], [0]), ([7], [7]), ([8, 1, 0, 1, 2, 3, 4, 5, 6], [1, 8]), ([9, 6, 0, 1, 2, 3, 4, 5, 6], [6, 9])])
def madd15.B : List Nat := [0, 0, 1, 5, 15, 31, 63, 1, 129, 511, 1023]
theorem madd15.tab : rtab .any (opsOf Tryd.f13 15) = madd15.T := by kernel_rfl
theorem madd15.bits : waitsOk madd15.T.2 madd15.B = true := by kernel_rfl
set_option maxRecDepth 100000 in
set_option maxHeartbeats 8000000 in
theorem add_calls {w : World} {S g h n : Nat} {σ : List Int} (b : BU w S g h n σ) (hn : n ≤ 900) (v : Nat) (hv : v < 4) {A : Option Addr} {P : List Int} {c : Nat} (hP : Kd.C (Kd.int .u8) w A P.length P) (hc : P.length ≤ c) (hPl : P.length = n + 6) (hPb : ∀ x ∈ P, isb x)
    (hA : ∀ d, A = some d → d.block ≠ g ∧ d.block ≠ h) (hσ : ∀ j, -29 ≤ σ.getD j 0 ∧ σ.getD j 0 ≤ 29) :
    Calls Tryd.prog 13 #[.pointer (some ⟨g, 0, none⟩), .int .i64 (v : Int), .slice A (n + 6) c] w fun e w' => e = .returned (.int .i64 0) ∧ BU w' S g h n (adK σ v P (n + 6)) ∧ Two g h w w' := by
  obtain ⟨m, hm⟩ : ∃ m, m = n + 6 := ⟨_, rfl⟩
  have hcN : m ≤ c := by omega
  have hmb : (m : Int) ≤ 906 := by omega
  have hm0 : (0 : Int) < (m : Int) := by omega
  have hv0 : (0 : Int) ≤ (v : Int) := by omega
  have hv4 : (v : Int) < 4 := by omega
  obtain ⟨C0, hC0, k1, k2, k3, k4⟩ := b.box
  have hg0 := (blk_cell hC0 0).trans k2
  have HRT := Aside0.mk (bits_Right.calls 2000 A c P true w hP hc (by
    rw [right_f P (by omega) 2000 (by omega), (big_isb (fun x hx => (isb01 (hPb x hx)).1)).2 hPb]; rfl))
  have HBN := Aside0.mk (fun w => version_Bits.calls (n : Int) _ w (bits_n n (by omega)))
  have HPL := Aside0.mk (fun w => pattern_Places.calls 2000 (v : Int) (m : Int) _ _ w (places_f v m hv (by omega)))
  have HB := Aside0.mk b
  have HP := Aside0.mk hP
  have HL := Aside0.mk (And.intro hm (And.intro hPl (And.intro hPb (And.intro hA (And.intro hσ (And.intro hv hn))))))
  rw [hPl, ← hm] at HRT
  rw [← hm] at HBN ⊢
  clear hC0 k1 k2 k3 k4 hm hPl hPb hA hσ hv hn b hP hc
  go_enter Tryd.func13, Tryd.ntmps13
  go_wp2_with (first
    | (go_at_call 16; refine Aside0.out ?_)
    | fail)
  refine Aside0.mk ?_
  refine HRT.out.mono ?_
  rintro e w1 ⟨rfl, hd⟩
  have HB1 := Aside0.mk (hd.below)
  have hg1 := ((hd.below.cell (p := ⟨g, 0, none⟩) (blk_lt HB.out.box.choose_spec.1)).trans hg0)
  clear hd HRT hg0
  go_wp2_with (first
    | (go_at_call 24; refine Aside0.out ?_)
    | fail)
  refine Aside0.mk ?_
  refine (HBN.out w1).mono ?_
  rintro e w2 ⟨rfl, hd⟩
  have HB2 := Aside0.mk (below_step HB1.out hd.below)
  clear hd HBN hg1 HB1
  go_wp2_with (first
    | (go_at_call 25; refine Aside0.out ?_)
    | fail)
  refine Aside0.mk ?_
  refine (HPL.out w2).mono ?_
  rintro e w3 ⟨v7, rfl, hv7, hb⟩
  have hb7 := Kd.R_mono (Kd.R_bound hv7) (ok' := fun k => w2.heap.size ≤ k) (fun k ok => ok.2.1)
  obtain ⟨A7, c7, rfl⟩ := Kd.R_slice hv7
  have hpl := plL_len v m
  obtain ⟨Q, hQ⟩ : ∃ Q, Q = plL v m := ⟨_, rfl⟩
  rw [← hQ] at hb7 hpl
  rw [← hQ, hpl]
  rw [hpl] at hb7
  have HQ := Aside0.mk (And.intro hQ hpl)
  have HR7 := Aside0.mk hb7
  have HB3 := Aside0.mk (below_step HB2.out hb)
  have HW2 := Aside0.mk HB2.out.size
  clear hv7 hb7 hb hpl hQ HPL HB2
  have HBU := Aside0.mk (HB.out.below HB3.out)
  have HP3 := Aside0.mk (Kd.C_below HP.out HB3.out)
  have HS := Aside0.mk (show S ≤ w.heap.size from Nat.le_of_lt (Nat.lt_of_le_of_lt HB.out.lo.1 (blk_lt HB.out.box.choose_spec.1)))
  have HGH := Aside0.mk (show g < w2.heap.size ∧ h < w2.heap.size from ⟨Nat.lt_of_lt_of_le (blk_lt HB.out.box.choose_spec.1) HW2.out, Nat.lt_of_lt_of_le (blk_lt HB.out.row) HW2.out⟩)
  have HBS := Aside0.mk (Two.of_below (g := g) (h := h) HB3.out)
  clear HB3
  go_wp2_with fail
  go_loopw [47] (fun v47 wr => ∃ t : Nat, v47 = .int .i64 (t : Int) ∧ t ≤ m ∧ Aside0 (BU wr S g h n (adK σ v P t)) ∧ Aside0 (Kd.C (Kd.int .u8) wr A P.length P) ∧ Aside0 (Kd.R (Kd.int .i64) 3 wr w2.heap.size (fun k => w2.heap.size ≤ k) (.slice A7 m c7) Q) ∧ Aside0 (Two g h w wr)) (fun v47 _ => m - (intOf v47).toNat)
  case atStart => exact ⟨0, by simp, by omega, HBU, HP3, HR7, HBS⟩
  case round =>
    clear HBU HP3 HR7 HBS
    obtain ⟨t, rfl, ht, HBU, HPC, HR, HBS⟩ := hrel
    by_cases hlt : t < m
    · have HLT := Aside0.mk hlt
      have htm : (t : Int) < (m : Int) := by omega
      have ht0 : (0 : Int) ≤ (t : Int) := by omega
      have htb : (t : Int) ≤ 905 := by omega
      obtain ⟨a7, rfl, hcx0⟩ := ReadsOf.at_ (Kd.reads_of_C (enc := Value.int .i64) (d := (0 : Int)) (h1 := fun _ => rfl) (Kd.R_reads' HR.out).2.2) (t : Int) ht0 (by rw [HQ.out.2]; exact htm)
      obtain ⟨aP, rfl, hcp0⟩ := ReadsOf.at_ (Kd.reads_of_C (enc := Value.int .u8) (d := (0 : Int)) (h1 := fun _ => rfl) HPC.out) (t : Int) ht0 (by rw [HL.out.2.1, ← HL.out.1]; exact htm)
      rw [Int.toNat_natCast] at hcx0 hcp0
      obtain ⟨q, hq⟩ : ∃ q, q = plc v t := ⟨_, rfl⟩
      obtain ⟨M, hM⟩ : ∃ M, M = 4 * (n + 6) := ⟨_, rfl⟩
      have hqM : (q : Int) < (M : Int) := by have := HL.out.1; have := HLT.out; unfold plc at hq; omega
      have hq0 : (0 : Int) ≤ (q : Int) := by omega
      have hMb : (M : Int) ≤ 4000 := by have := HL.out.1; omega
      have hcx : wr.cell? (a7.add t) = some (.int .i64 (q : Int)) := by
        have e : rdOf 0 Q (t : Int) = (q : Int) := by rw [hq, HQ.out.1]; exact plL_get v m t hlt
        rw [e] at hcx0; exact hcx0
      obtain ⟨u, hu⟩ : ∃ u, u = P.getD t 0 := ⟨_, rfl⟩
      have hcp : wr.cell? (aP.add t) = some (.int .u8 u) := by
        have e : rdOf 0 P (t : Int) = u := by rw [hu]; rfl
        rw [e] at hcp0; exact hcp0
      obtain ⟨x, hx⟩ : ∃ x, x = (adK σ v P t).getD q 0 := ⟨_, rfl⟩
      obtain ⟨C1, hC1, k1, k2, k3, k4⟩ := HBU.out.box
      have hcg := (blk_cell hC1 1).trans k3
      rw [← hM] at hcg
      have hch := (blk_cell HBU.out.row q).trans (ints_get (adK σ v P t) q (by rw [HBU.out.len, ← hM]; omega))
      rw [← hx] at hch
      have hfh := blk_frozen HBU.out.row q
      have HXA := Aside0.mk (adK_in (v := v) (P := P) HL.out.2.2.2.2.1 t (by have := HL.out.1; have e := HBU.out.len; rw [adK_len] at e; omega) q)
      rw [← hx] at HXA
      have HOF := Aside0.mk (fun w => soft_Of.calls u (so u) w (by unfold soft_Of.f so; rw [apply_ite some]))
      have HAD := Aside0.mk (fun w => soft_Add.calls x (so u) (x + so u) w (add_f HXA.out (so_pm u)))
      have HK := Aside0.mk (And.intro hq (And.intro hM (And.intro hu hx)))
      have HCS := Aside0.mk (show wr.drew.cell? ⟨g, 1, none⟩ = some (.slice (some ⟨h, 0, none⟩) M M) ∧ wr.drew.cell? ⟨h, q, none⟩ = some (.int .i64 x) ∧ wr.drew.cell? (aP.add t) = some (.int .u8 u) from ⟨hcg, hch, hcp⟩)
      have HFH := Aside0.mk (show wr.drew.frozen? ⟨h, q, none⟩ = false from hfh)
      clear hlt ht hcx0 hcp0 hq hM hu hx hC1 k1 k2 k3 k4 hcg hch hcp hfh
      go_wp2_with fail
      refine start_ (n := 20) (S := (fun w' => w'.cell? ⟨g, 1, none⟩ = some (.slice (some ⟨h, 0, none⟩) M M) ∧ w'.cell? ⟨h, q, none⟩ = some (.int .i64 x) ∧ w'.cell? (aP.add t) = some (.int .u8 u))) (ds := [19]) #[false, false, false, false, false, false, false, false, false, false, false, false, false, false, false, false, false, false, false, false] (by kernel_rfl) rfl rfl HCS.out (fun hHeld => ?_)
      refine with_tabW madd13.tab madd13.bits (fun HT_ HW_ => ?_)
      refine pure_ (i := 0) (N := some 52) (v := ?_) (a' := ?_) #[true, false, false, false, false, false, false, false, false, false, false, false, false, false, false, false, false, false, false, false] rfl rfl (any_of HT_.out (by kernel_rfl)) (fun _ _ _ h => h) (Or.inl ⟨by rfl, ?_⟩) ?_ ?_
      rotate_left
      · intro w'
        go_simp
        with_reducible rfl
      rotate_left
      · simp only [Act.put, List.setIfInBounds_toArray, List.set_cons_zero, List.set_cons_succ, i64_w, i32_w]
        rfl
      refine pure_ (i := 1) (N := some 53) (v := ?_) (a' := ?_) #[true, true, false, false, false, false, false, false, false, false, false, false, false, false, false, false, false, false, false, false] rfl rfl (any_of HT_.out (by kernel_rfl)) (fun _ _ _ h => h) (Or.inl ⟨by rfl, ?_⟩) ?_ ?_
      rotate_left
      · intro w'
        go_simp
        with_reducible rfl
      rotate_left
      · simp only [Act.put, List.setIfInBounds_toArray, List.set_cons_zero, List.set_cons_succ, i64_w, i32_w]
        rfl
      refine pure_ (i := 2) (N := some 54) (v := ?_) (a' := ?_) #[true, true, true, false, false, false, false, false, false, false, false, false, false, false, false, false, false, false, false, false] rfl rfl (any_of HT_.out (by kernel_rfl)) (fun _ _ _ h => h) (Or.inl ⟨by rfl, ?_⟩) ?_ ?_
      rotate_left
      · intro w'
        go_simp
        with_reducible rfl
      rotate_left
      · simp only [Act.put, List.setIfInBounds_toArray, List.set_cons_zero, List.set_cons_succ, i64_w, i32_w]
        rfl
      refine take_ (i := 3) (N := some 55) (v := ?_) (a' := ?_) #[true, true, true, true, false, false, false, false, false, false, false, false, false, false, false, false, false, false, false, false] rfl rfl (take_ofW HT_.out HW_.out (by kernel_rfl)) (fun _ _ _ h => h) (Or.inl ⟨by rfl, ?_⟩) hHeld ?_ ?_
      rotate_left
      · rintro w' ⟨s0, s1, s2⟩
        go_simp
        with_reducible rfl
      rotate_left
      · simp only [Act.put, List.setIfInBounds_toArray, List.set_cons_zero, List.set_cons_succ, i64_w, i32_w]
        rfl
      refine pure_ (i := 4) (N := some 56) (v := ?_) (a' := ?_) #[true, true, true, true, true, false, false, false, false, false, false, false, false, false, false, false, false, false, false, false] rfl rfl (any_of HT_.out (by kernel_rfl)) (fun _ _ _ h => h) (Or.inl ⟨by rfl, ?_⟩) ?_ ?_
      rotate_left
      · intro w'
        go_simp
        with_reducible rfl
      rotate_left
      · simp only [Act.put, List.setIfInBounds_toArray, List.set_cons_zero, List.set_cons_succ, i64_w, i32_w]
        rfl
      refine pure_ (i := 5) (N := some 57) (v := ?_) (a' := ?_) #[true, true, true, true, true, true, false, false, false, false, false, false, false, false, false, false, false, false, false, false] rfl rfl (any_of HT_.out (by kernel_rfl)) (fun _ _ _ h => h) (Or.inl ⟨by rfl, ?_⟩) ?_ ?_
      rotate_left
      · intro w'
        go_simp
        with_reducible rfl
      rotate_left
      · simp only [Act.put, List.setIfInBounds_toArray, List.set_cons_zero, List.set_cons_succ, i64_w, i32_w]
        rfl
      refine pure_ (i := 6) (N := some 58) (v := ?_) (a' := ?_) #[true, true, true, true, true, true, true, false, false, false, false, false, false, false, false, false, false, false, false, false] rfl rfl (any_of HT_.out (by kernel_rfl)) (fun _ _ _ h => h) (Or.inl ⟨by rfl, ?_⟩) ?_ ?_
      rotate_left
      · intro w'
        go_simp
        with_reducible rfl
      rotate_left
      · simp only [Act.put, List.setIfInBounds_toArray, List.set_cons_zero, List.set_cons_succ, i64_w, i32_w]
        rfl
      refine pure_ (i := 7) (N := some 59) (v := ?_) (a' := ?_) #[true, true, true, true, true, true, true, true, false, false, false, false, false, false, false, false, false, false, false, false] rfl rfl (any_of HT_.out (by kernel_rfl)) (fun _ _ _ h => h) (Or.inl ⟨by rfl, ?_⟩) ?_ ?_
      rotate_left
      · intro w'
        go_simp
        with_reducible rfl
      rotate_left
      · simp only [Act.put, List.setIfInBounds_toArray, List.set_cons_zero, List.set_cons_succ, i64_w, i32_w]
        rfl
      refine take_ (i := 8) (N := some 60) (v := ?_) (a' := ?_) #[true, true, true, true, true, true, true, true, true, false, false, false, false, false, false, false, false, false, false, false] rfl rfl (take_ofW HT_.out HW_.out (by kernel_rfl)) (fun _ _ _ h => h) (Or.inl ⟨by rfl, ?_⟩) hHeld ?_ ?_
      rotate_left
      · rintro w' ⟨s0, s1, s2⟩
        go_simp
        with_reducible rfl
      rotate_left
      · simp only [Act.put, List.setIfInBounds_toArray, List.set_cons_zero, List.set_cons_succ, i64_w, i32_w]
        rfl
      refine pure_ (i := 9) (N := some 61) (v := ?_) (a' := ?_) #[true, true, true, true, true, true, true, true, true, true, false, false, false, false, false, false, false, false, false, false] rfl rfl (any_of HT_.out (by kernel_rfl)) (fun _ _ _ h => h) (Or.inl ⟨by rfl, ?_⟩) ?_ ?_
      rotate_left
      · intro w'
        go_simp
        with_reducible rfl
      rotate_left
      · simp only [Act.put, List.setIfInBounds_toArray, List.set_cons_zero, List.set_cons_succ, i64_w, i32_w]
        rfl
      refine pure_ (i := 10) (N := some 62) (v := ?_) (a' := ?_) #[true, true, true, true, true, true, true, true, true, true, true, false, false, false, false, false, false, false, false, false] rfl rfl (any_of HT_.out (by kernel_rfl)) (fun _ _ _ h => h) (Or.inl ⟨by rfl, ?_⟩) ?_ ?_
      rotate_left
      · intro w'
        go_simp
        with_reducible rfl
      rotate_left
      · simp only [Act.put, List.setIfInBounds_toArray, List.set_cons_zero, List.set_cons_succ, i64_w, i32_w]
        rfl
      refine take_ (i := 11) (N := some 63) (v := ?_) (a' := ?_) #[true, true, true, true, true, true, true, true, true, true, true, true, false, false, false, false, false, false, false, false] rfl rfl (take_ofW HT_.out HW_.out (by kernel_rfl)) (fun _ _ _ h => h) (Or.inl ⟨by rfl, ?_⟩) hHeld ?_ ?_
      rotate_left
      · rintro w' ⟨s0, s1, s2⟩
        go_simp
        with_reducible rfl
      rotate_left
      · simp only [Act.put, List.setIfInBounds_toArray, List.set_cons_zero, List.set_cons_succ, i64_w, i32_w]
        rfl
      refine pure_ (i := 12) (N := some 64) (v := ?_) (a' := ?_) #[true, true, true, true, true, true, true, true, true, true, true, true, true, false, false, false, false, false, false, false] rfl rfl (any_of HT_.out (by kernel_rfl)) (fun _ _ _ h => h) (Or.inl ⟨by rfl, ?_⟩) ?_ ?_
      rotate_left
      · intro w'
        go_simp
        with_reducible rfl
      rotate_left
      · simp only [Act.put, List.setIfInBounds_toArray, List.set_cons_zero, List.set_cons_succ, i64_w, i32_w]
        rfl
      refine pure_ (i := 13) (N := some 65) (v := ?_) (a' := ?_) #[true, true, true, true, true, true, true, true, true, true, true, true, true, true, false, false, false, false, false, false] rfl rfl (any_of HT_.out (by kernel_rfl)) (fun _ _ _ h => h) (Or.inl ⟨by rfl, ?_⟩) ?_ ?_
      rotate_left
      · intro w'
        go_simp
        with_reducible rfl
      rotate_left
      · simp only [Act.put, List.setIfInBounds_toArray, List.set_cons_zero, List.set_cons_succ, i64_w, i32_w]
        rfl
      refine pure_ (i := 14) (N := some 66) (v := ?_) (a' := ?_) #[true, true, true, true, true, true, true, true, true, true, true, true, true, true, true, false, false, false, false, false] rfl rfl (any_of HT_.out (by kernel_rfl)) (fun _ _ _ h => h) (Or.inl ⟨by rfl, ?_⟩) ?_ ?_
      rotate_left
      · intro w'
        go_simp
        with_reducible rfl
      rotate_left
      · simp only [Act.put, List.setIfInBounds_toArray, List.set_cons_zero, List.set_cons_succ, i64_w, i32_w]
        rfl
      refine take_ (i := 15) (N := some 67) (v := ?_) (a' := ?_) #[true, true, true, true, true, true, true, true, true, true, true, true, true, true, true, true, false, false, false, false] rfl rfl (take_ofW HT_.out HW_.out (by kernel_rfl)) (fun _ _ _ h => h) (Or.inl ⟨by rfl, ?_⟩) hHeld ?_ ?_
      rotate_left
      · rintro w' ⟨s0, s1, s2⟩
        go_simp
        with_reducible rfl
      rotate_left
      · simp only [Act.put, List.setIfInBounds_toArray, List.set_cons_zero, List.set_cons_succ, i64_w, i32_w]
        rfl
      refine one_ (i := 16) (N := some 68) #[true, true, true, true, true, true, true, true, true, true, true, true, true, true, true, true, true, false, false, false] rfl rfl (one_of HT_.out (by kernel_rfl)) (by decide) (fun K hK => ?_)
      refine goes_ Tryd.func27 (by kernel_rfl) rfl _ (by rfl) rfl rfl (by (try simp only [List.map_toArray, List.map_cons, List.map_nil]); first | done | rfl | (go_simp; done) | simp [Act.eval]) ?_
      refine (HOF.out _).mono ?_
      rintro e w5 ⟨rfl, hd5⟩
      have HD5 := Aside0.mk hd5
      clear hd5 HOF
      refine ⟨_, rfl, ?_⟩
      refine hK.out _ _ (by obtain ⟨nd, rfl⟩ := HD5.out; exact HCS.out) (fun hHeld => ?_)
      clear hK K
      refine norm_ (a' := ?_) ?_ ?_
      rotate_left
      · show Act.put _ (some 68) _ = _
        simp only [Act.put, List.setIfInBounds_toArray, List.set_cons_zero, List.set_cons_succ, i64_w, i32_w]
        rfl
      refine one_ (i := 17) (N := some 69) #[true, true, true, true, true, true, true, true, true, true, true, true, true, true, true, true, true, true, false, false] rfl rfl (one_of HT_.out (by kernel_rfl)) (by decide) (fun K hK => ?_)
      refine goes_ Tryd.func26 (by kernel_rfl) rfl _ (by rfl) rfl rfl (by (try simp only [List.map_toArray, List.map_cons, List.map_nil]); first | done | rfl | (go_simp; done) | simp [Act.eval]) ?_
      refine (HAD.out _).mono ?_
      rintro e w6 ⟨rfl, hd6⟩
      have HD6 := Aside0.mk hd6
      clear hd6 HAD
      refine ⟨_, rfl, ?_⟩
      refine hK.out _ _ (by obtain ⟨n5, rfl⟩ := HD5.out; obtain ⟨n6, rfl⟩ := HD6.out; exact HCS.out) (fun hHeld => ?_)
      clear hK K
      refine norm_ (a' := ?_) ?_ ?_
      rotate_left
      · show Act.put _ (some 69) _ = _
        simp only [Act.put, List.setIfInBounds_toArray, List.set_cons_zero, List.set_cons_succ, i64_w, i32_w]
        rfl
      refine pure_ (i := 18) (N := some 70) (v := ?_) (a' := ?_) #[true, true, true, true, true, true, true, true, true, true, true, true, true, true, true, true, true, true, true, false] rfl rfl (any_of HT_.out (by kernel_rfl)) (fun _ _ _ h => h) (Or.inl ⟨by rfl, ?_⟩) ?_ ?_
      rotate_left
      · intro w'
        go_simp
        with_reducible rfl
      rotate_left
      · simp only [Act.put, List.setIfInBounds_toArray, List.set_cons_zero, List.set_cons_succ, i64_w, i32_w]
        rfl
      refine last_ (i := 19) (N := none) #[true, true, true, true, true, true, true, true, true, true, true, true, true, true, true, true, true, true, true, true] rfl rfl (one_of HT_.out (by kernel_rfl)) (by decide) (fun K hK => ?_)
      have hcl : w6.cell? ⟨h, q, none⟩ = some (.int .i64 x) := by obtain ⟨n5, rfl⟩ := HD5.out; obtain ⟨n6, rfl⟩ := HD6.out; exact HCS.out.2.1
      have hfz : w6.frozen? ⟨h, q, none⟩ = false := by obtain ⟨n5, rfl⟩ := HD5.out; obtain ⟨n6, rfl⟩ := HD6.out; exact HFH.out
      refine skip_ (w1 := ?_) (by rfl) rfl ?_ ?_
      rotate_left 1
      · go_simp
        rfl
      refine hK.out _ _ ?_
      clear hK K
      refine done_ (done_of HT_.out (by kernel_rfl)) ?_
      clear hHeld hcl hfz
      have hb6 : Below wr.heap.size wr w6 := below_step (below_step (below_drew1 (Below.refl _ _)) HD5.out.below) HD6.out.below
      have hp := Put1.set h q w6 (.int .i64 (x + so u))
      have hlo := HB.out.lo
      have HU7 := Aside0.mk (show BU (w6.setCell ⟨h, q, none⟩ (.int .i64 (x + so u))) S g h n (adK σ v P (t + 1)) by
        have e : adK σ v P (t + 1) = (adK σ v P t).set q (x + so u) := by rw [HK.out.2.2.1, HK.out.2.2.2, HK.out.1]; rfl
        rw [e]; exact (HBU.out.below hb6).put q (x + so u))
      have HPC7 := Aside0.mk (C_put (Kd.C_below HPC.out hb6) hp (fun d hd => (HL.out.2.2.2.1 d hd).2))
      have HR7 := Aside0.mk (Kd.R_step (Kd.R_below HR.out hb6) (fun k hk _ => hp.block k (by have := HGH.out; omega)))
      have HBS7 := Aside0.mk ((HBS.out.trans (Two.of_below hb6)).trans (Two.put1 hp (.inr rfl)))
      have HT1 := Aside0.mk (show wrap64 ((t : Int) + 1) = ((t + 1 : Nat) : Int) ∧ t + 1 ≤ m from ⟨wrap_succ t (by omega), HLT.out⟩)
      have hmz := @hmeasK t m (t + 1) HLT.out rfl
      have HMZ := Aside0.mk hmz
      clear hb6 hp hlo hmz HBU HPC HR HBS HD5 HD6 HCS HFH HXA
      generalize w6.setCell ⟨h, q, none⟩ (.int .i64 (x + so u)) = w7 at HU7 HPC7 HR7 HBS7 ⊢
      go_wp2_with fail
      exact ⟨⟨t + 1, by simp, HT1.out.2, HU7, HPC7, HR7, HBS7⟩, HMZ.out⟩
    · obtain rfl : t = m := by omega
      have hd : decide ((t : Int) < (t : Int)) = false := decide_eq_false (by omega)
      obtain ⟨C1, hC1, k1, k2, k3, k4⟩ := HBU.out.box
      obtain ⟨x, hx⟩ := k4 v (by omega)
      have hcg := (blk_cell hC1 (2 + v)).trans hx
      have hfh := blk_frozen hC1 (2 + v)
      have HCS := Aside0.mk (show wr.drew.cell? ⟨g, 2 + v, none⟩ = some (.int .i64 x) from hcg)
      have HFH := Aside0.mk (show wr.drew.frozen? ⟨g, 2 + v, none⟩ = false from hfh)
      clear hlt ht hC1 k1 k2 k3 k4 hx hcg hfh
      go_wp2_with fail
      refine start_ (n := 11) (S := (fun w' => w'.cell? ⟨g, 2 + v, none⟩ = some (.int .i64 x))) (ds := [10]) #[false, false, false, false, false, false, false, false, false, false, false] (by kernel_rfl) rfl rfl HCS.out (fun hHeld => ?_)
      refine with_tabW madd15.tab madd15.bits (fun HT_ HW_ => ?_)
      refine pure_ (i := 0) (N := some 72) (v := ?_) (a' := ?_) #[true, false, false, false, false, false, false, false, false, false, false] rfl rfl (any_of HT_.out (by kernel_rfl)) (fun _ _ _ h => h) (Or.inl ⟨by rfl, ?_⟩) ?_ ?_
      rotate_left
      · intro w'
        go_simp
        with_reducible rfl
      rotate_left
      · simp only [Act.put, List.setIfInBounds_toArray, List.set_cons_zero, List.set_cons_succ, i64_w, i32_w]
        rfl
      refine pure_ (i := 1) (N := some 73) (v := ?_) (a' := ?_) #[true, true, false, false, false, false, false, false, false, false, false] rfl rfl (any_of HT_.out (by kernel_rfl)) (fun _ _ _ h => h) (Or.inl ⟨by rfl, ?_⟩) ?_ ?_
      rotate_left
      · intro w'
        go_simp
        with_reducible rfl
      rotate_left
      · simp only [Act.put, List.setIfInBounds_toArray, List.set_cons_zero, List.set_cons_succ, i64_w, i32_w]
        rfl
      refine pure_ (i := 2) (N := some 74) (v := ?_) (a' := ?_) #[true, true, true, false, false, false, false, false, false, false, false] rfl rfl (any_of HT_.out (by kernel_rfl)) (fun _ _ _ h => h) (Or.inl ⟨by rfl, ?_⟩) ?_ ?_
      rotate_left
      · intro w'
        go_simp
        with_reducible rfl
      rotate_left
      · simp only [Act.put, List.setIfInBounds_toArray, List.set_cons_zero, List.set_cons_succ, i64_w, i32_w]
        rfl
      refine pure_ (i := 3) (N := some 75) (v := ?_) (a' := ?_) #[true, true, true, true, false, false, false, false, false, false, false] rfl rfl (any_of HT_.out (by kernel_rfl)) (fun _ _ _ h => h) (Or.inl ⟨by rfl, ?_⟩) ?_ ?_
      rotate_left
      · intro w'
        go_simp
        with_reducible rfl
      rotate_left
      · simp only [Act.put, List.setIfInBounds_toArray, List.set_cons_zero, List.set_cons_succ, i64_w, i32_w]
        rfl
      refine pure_ (i := 4) (N := some 76) (v := ?_) (a' := ?_) #[true, true, true, true, true, false, false, false, false, false, false] rfl rfl (any_of HT_.out (by kernel_rfl)) (fun _ _ _ h => h) (Or.inl ⟨by rfl, ?_⟩) ?_ ?_
      rotate_left
      · intro w'
        go_simp
        with_reducible rfl
      rotate_left
      · simp only [Act.put, List.setIfInBounds_toArray, List.set_cons_zero, List.set_cons_succ, i64_w, i32_w]
        rfl
      refine take_ (i := 5) (N := some 77) (v := ?_) (a' := ?_) #[true, true, true, true, true, true, false, false, false, false, false] rfl rfl (take_ofW HT_.out HW_.out (by kernel_rfl)) (fun _ _ _ h => h) (Or.inl ⟨by rfl, ?_⟩) hHeld ?_ ?_
      rotate_left
      · rintro w' s0
        go_simp
        with_reducible rfl
      rotate_left
      · simp only [Act.put, List.setIfInBounds_toArray, List.set_cons_zero, List.set_cons_succ, i64_w, i32_w]
        rfl
      refine pure_ (i := 6) (N := some 78) (v := ?_) (a' := ?_) #[true, true, true, true, true, true, true, false, false, false, false] rfl rfl (any_of HT_.out (by kernel_rfl)) (fun _ _ _ h => h) (Or.inl ⟨by rfl, ?_⟩) ?_ ?_
      rotate_left
      · intro w'
        go_simp
        with_reducible rfl
      rotate_left
      · simp only [Act.put, List.setIfInBounds_toArray, List.set_cons_zero, List.set_cons_succ, i64_w, i32_w]
        rfl
      refine pure_ (i := 7) (N := some 79) (v := ?_) (a' := ?_) #[true, true, true, true, true, true, true, true, false, false, false] rfl rfl (any_of HT_.out (by kernel_rfl)) (fun _ _ _ h => h) (Or.inl ⟨by rfl, ?_⟩) ?_ ?_
      rotate_left
      · intro w'
        go_simp
        with_reducible rfl
      rotate_left
      · simp only [Act.put, List.setIfInBounds_toArray, List.set_cons_zero, List.set_cons_succ, i64_w, i32_w]
        rfl
      refine pure_ (i := 8) (N := some 80) (v := ?_) (a' := ?_) #[true, true, true, true, true, true, true, true, true, false, false] rfl rfl (any_of HT_.out (by kernel_rfl)) (fun _ _ _ h => h) (Or.inl ⟨by rfl, ?_⟩) ?_ ?_
      rotate_left
      · intro w'
        go_simp
        with_reducible rfl
      rotate_left
      · simp only [Act.put, List.setIfInBounds_toArray, List.set_cons_zero, List.set_cons_succ, i64_w, i32_w]
        rfl
      refine pure_ (i := 9) (N := some 81) (v := ?_) (a' := ?_) #[true, true, true, true, true, true, true, true, true, true, false] rfl rfl (any_of HT_.out (by kernel_rfl)) (fun _ _ _ h => h) (Or.inl ⟨by rfl, ?_⟩) ?_ ?_
      rotate_left
      · intro w'
        go_simp
        with_reducible rfl
      rotate_left
      · simp only [Act.put, List.setIfInBounds_toArray, List.set_cons_zero, List.set_cons_succ, i64_w, i32_w]
        rfl
      refine last_ (i := 10) (N := none) #[true, true, true, true, true, true, true, true, true, true, true] rfl rfl (one_of HT_.out (by kernel_rfl)) (by decide) (fun K hK => ?_)
      have hcl := HCS.out
      have hfz := HFH.out
      refine skip_ (w1 := ?_) (by rfl) rfl ?_ ?_
      rotate_left 1
      · go_simp
        rfl
      refine hK.out _ _ ?_
      clear hK K
      refine done_ (done_of HT_.out (by kernel_rfl)) ?_
      clear hHeld hcl hfz
      have hb6 : Below wr.heap.size wr wr.drew := below_drew1 (Below.refl _ _)
      have HU7 := Aside0.mk ((HBU.out.below hb6).count v (by have := HL.out; omega) (wrap64 (x + 1)))
      have HBS7 := Aside0.mk ((HBS.out.trans (Two.of_below hb6)).trans (Two.put1 (Put1.set g (2 + v) wr.drew (.int .i64 (wrap64 (x + 1)))) (.inl rfl)))
      clear hb6 HBU HPC HR HBS HCS HFH
      go_wp2_with fail
      go_ret
      exact ⟨by simp, HU7.out, HBS7.out⟩
end Go.Proofs.YteileaajmnbmpaaDoor.P
namespace Go.Proofs.YteileaajmnbmpaaDoor.P
open Go.RowKit Go.Proofs.YteileaajmnbmpaaDoorW.PrintWords Go.Proofs.YteileaajmnbmpaaDoorW.PrintLast Go.Proofs.YteileaajmnbmpaaDoorW.PrintMore
-- YteileaajmnbmpaaDoorPStr
theorem toList_loop (b : ByteArray) (d : Nat) : ∀ (i : Nat) (r : List UInt8), i + d = b.size → ByteArray.toList.loop b i r = r.reverse ++ b.data.toList.drop i := by
  induction d with
  | zero =>
    intro i r hi
    unfold ByteArray.toList.loop
    have hs : b.data.toList.length = b.size := by rw [Array.length_toList]; rfl
    rw [if_neg (by omega), List.drop_eq_nil_of_le (by omega), List.append_nil]
  | succ d ih =>
    intro i r hi
    unfold ByteArray.toList.loop
    have hs : b.data.toList.length = b.size := by rw [Array.length_toList]; rfl
    rw [if_pos (by omega), ih (i + 1) _ (by omega), List.reverse_cons, List.append_assoc, drop_cons b.data.toList i (by omega)]
    congr 1
    show [b.get! i] ++ _ = _
    rw [show b.get! i = b.data.toList[i]'(by omega) from by
      show b.data[i]! = _
      have h : i < b.data.size := by rw [← Array.length_toList]; omega
      rw [getElem!_pos b.data i h]; simp]
    rfl
theorem toList_data (b : ByteArray) : b.toList = b.data.toList := by
  unfold ByteArray.toList
  rw [toList_loop b b.size 0 [] (by omega)]; simp
theorem str_list (l : List Int) : (strOfNums l).toList = l.map fun n => UInt8.ofNat n.toNat := by
  rw [toList_data, strOfNums_data]
theorem str_inj : ∀ {a b : List Int}, (∀ x ∈ a, 0 ≤ x ∧ x ≤ 255) → (∀ x ∈ b, 0 ≤ x ∧ x ≤ 255) → (strOfNums a).toList = (strOfNums b).toList → a = b
  | [], [], _, _, _ => rfl
  | [], _ :: _, _, _, h => by rw [str_list, str_list] at h; cases h
  | _ :: _, [], _, _, h => by rw [str_list, str_list] at h; cases h
  | x :: a, y :: b, ha, hb, h => by
    rw [str_list, str_list] at h
    simp only [List.map_cons, List.cons.injEq] at h
    have h1 := ha x List.mem_cons_self
    have h2 := hb y List.mem_cons_self
    have e : x = y := by
      have := congrArg UInt8.toNat h.1
      rw [UInt8.toNat_ofNat', UInt8.toNat_ofNat'] at this
      omega
    rw [e, str_inj (fun z hz => ha z (List.mem_cons_of_mem _ hz)) (fun z hz => hb z (List.mem_cons_of_mem _ hz)) (by rw [str_list, str_list]; exact h.2)]
theorem str_beq {a b : List Int} (ha : ∀ x ∈ a, 0 ≤ x ∧ x ≤ 255) (hb : ∀ x ∈ b, 0 ≤ x ∧ x ≤ 255) : ((strOfNums a).toList == (strOfNums b).toList) = decide (a = b) := by
  by_cases h : a = b
  · subst h; simp
  · rw [decide_eq_false h]
    exact beq_eq_false_iff_ne.2 fun e => h (str_inj ha hb e)
-- YteileaajmnbmpaaDoorP1
section
attribute [local go_sem] max2_int min2_int max_two min_two max_three min_three max_four min_four
set_option linter.unusedVariables false
set_option linter.unusedSimpArgs false

/-! ### bits_Of: function 4 -/
mutual
def bits_Of.l0 : Nat → List Int → List Int → Int → Int → Option (List Int)
  | 0, _, _, _, _ => none
  | k + 1, x3, x7, x8, x9 => if x9 < x8 then (if 0 ≤ x9 then (if x9 < (x7.length : Int) then (bits_Of.l1 k x3 (rd x7 x9) x7 x8 x9 0) else (none)) else (none)) else (some x3)
def bits_Of.l1 : Nat → List Int → Int → List Int → Int → Int → Int → Option (List Int)
  | 0, _, _, _, _, _, _ => none
  | k + 1, x3, x5, x7, x8, x9, x13 => if x13 < 8 then (if 0 ≤ (wrap64 (7 - x13)) then (if x3.length < 140737488355328 then (bits_Of.l1 k (x3 ++ [Go.bits .and .u8 (shr .u8 x5 (wrap64 (7 - x13))) 1]) x5 x7 x8 x9 (wrap64 (x13 + 1))) else (none)) else (none)) else (bits_Of.l0 k x3 x7 x8 (wrap64 (x9 + 1)))
end
def bits_Of.f (k : Nat) (l0 : List Int) : Option (List Int) := bits_Of.l0 k ([] : List Int) l0 (l0.length : Int) 0
theorem bits_Of.mono_l : ∀ k, (∀ y0 y1 y2 y3, LeO (bits_Of.l0 k y0 y1 y2 y3) (bits_Of.l0 (k + 1) y0 y1 y2 y3)) ∧ (∀ y0 y1 y2 y3 y4 y5, LeO (bits_Of.l1 k y0 y1 y2 y3 y4 y5) (bits_Of.l1 (k + 1) y0 y1 y2 y3 y4 y5))
  | 0 => ⟨fun _ _ _ _ r h => by simp [bits_Of.l0] at h, fun _ _ _ _ _ _ r h => by simp [bits_Of.l1] at h⟩
  | k + 1 => by
    obtain ⟨ih0, ih1⟩ := bits_Of.mono_l k
    refine ⟨?_, ?_⟩
    · intro y0 y1 y2 y3
      unfold bits_Of.l0
      repeat' first
      | (with_reducible exact ih0 _ _ _ _)
      | (with_reducible exact ih1 _ _ _ _ _ _)
      | (with_reducible exact LeO.refl _)
      | (with_reducible exact LeO.none _)
      | (with_reducible refine LeO.ite ?_ ?_)
      | (with_reducible refine LeO.bind ?_ (fun _ => ?_))
      | exact ih0 _ _ _ _
      | exact ih1 _ _ _ _ _ _
      | exact LeO.none _
      | refine LeO.ite ?_ ?_
      | refine LeO.bind ?_ (fun _ => ?_)
    · intro y0 y1 y2 y3 y4 y5
      unfold bits_Of.l1
      repeat' first
      | (with_reducible exact ih0 _ _ _ _)
      | (with_reducible exact ih1 _ _ _ _ _ _)
      | (with_reducible exact LeO.refl _)
      | (with_reducible exact LeO.none _)
      | (with_reducible refine LeO.ite ?_ ?_)
      | (with_reducible refine LeO.bind ?_ (fun _ => ?_))
      | exact ih0 _ _ _ _
      | exact ih1 _ _ _ _ _ _
      | exact LeO.none _
      | refine LeO.ite ?_ ?_
      | refine LeO.bind ?_ (fun _ => ?_)
theorem bits_Of.mono : ∀ a0 k, LeO (bits_Of.f k a0) (bits_Of.f (k + 1) a0) := by
  intro a0 k
  obtain ⟨ih0, ih1⟩ := bits_Of.mono_l k
  unfold bits_Of.f
  repeat' first
      | (with_reducible exact ih0 _ _ _ _)
      | (with_reducible exact ih1 _ _ _ _ _ _)
      | (with_reducible exact LeO.refl _)
      | (with_reducible exact LeO.none _)
      | (with_reducible refine LeO.ite ?_ ?_)
      | (with_reducible refine LeO.bind ?_ (fun _ => ?_))
      | exact ih0 _ _ _ _
      | exact ih1 _ _ _ _ _ _
      | exact LeO.none _
      | refine LeO.ite ?_ ?_
      | refine LeO.bind ?_ (fun _ => ?_)
set_option maxHeartbeats 8000000 in
set_option maxRecDepth 100000 in
theorem bits_Of.calls (k : Nat) (A0 : Option Addr) (c0 : Nat) (l0 : List Int) (r : List Int) (w : World) (hr0 : Kd.C (Kd.int .u8) w A0 l0.length l0) (hc0 : l0.length ≤ c0) (h : bits_Of.f k l0 = some r) :
    Calls Tryd.prog 4 #[.slice A0 l0.length c0] w fun e w' => ∃ v0_ : Value, e = .returned (v0_) ∧ Kd.R (Kd.int .u8) 5 w' w.heap.size (fun _ => True) v0_ r ∧ Below w.heap.size w w' := by
  have HR0 := Aside0.mk hr0
  have HC0 := Aside0.mk hc0
  clear hr0 hc0
  have HB := Aside0.mk (Below.refl w.heap.size w)
  have H : (bits_Of.l0 k ([] : List Int) l0 (l0.length : Int) 0) = some r := h
  clear h
  have H' := Aside0.mk H
  clear H
  go_enter Tryd.func4, Tryd.ntmps4
  go_wp2
  go_loopg [3, 9] k (fun kq v3 v9 w' => ∃ (x3_1 : List Int) (x9_1 : Int), v9 = .int .i64 x9_1 ∧ Aside0 (bits_Of.l0 kq x3_1 l0 (l0.length : Int) x9_1 = some r) ∧ Aside0 (kq ≤ k) ∧ Aside0 (Kd.R (Kd.int .u8) 5 w' w.heap.size (fun _ => True) v3 x3_1) ∧ Aside0 (Below w.heap.size w w'))
  case atStart => exact ⟨(([] : List Int)), (0), (by first | rfl | (simp; done) | (simp [*]; done)), H', ⟨Nat.le_refl _⟩, ⟨by first | exact Kd.R_nil _ _ _ _ _ | exact Kd.N_nil _ _ _ _ _ | exact Kd.V_nil _ _ _ _ _ | exact Kd.Q_nil _ _ _ _ _ | exact Kd.S_nil _ _ _ _ _⟩, ⟨by repeat (first | (with_reducible first | exact HB.out | apply below_alloc | apply pw_below_drewN | apply below_drew1) | exact HB.out)⟩⟩
  case round =>
    clear H'
    obtain ⟨x3_1, x9_1, rfl, HA, HK1, HO_3, HB⟩ := hrel
    cases gk with
    | zero => exact absurd HA.out (by simp [bits_Of.l0])
    | succ k1 =>
      have H := HA.out
      clear HA
      simp only [bits_Of.l0] at H
      by_cases c2 : x9_1 < (l0.length : Int)
      · rw [if_pos c2] at H
        have c2b0 : decide (x9_1 < (l0.length : Int)) = true := decide_eq_true c2
        clear c2
        by_cases c3 : 0 ≤ x9_1
        · rw [if_pos c3] at H
          have c3b0 : decide (0 ≤ x9_1) = true := decide_eq_true c3
          clear c3
          by_cases c4 : x9_1 < (l0.length : Int)
          · rw [if_pos c4] at H
            have c4b0 : decide (x9_1 < (l0.length : Int)) = true := decide_eq_true c4
            clear c4
            have H' := Aside0.mk H
            clear H
            have p101 : 0 ≤ (x9_1 : Int) := of_decide_eq_true (by first | (with_reducible assumption) | assumption)
            have q101 : x9_1 < (l0.length : Int) := of_decide_eq_true (by first | (with_reducible assumption) | assumption)
            obtain ⟨ad101, e101, hx101_0⟩ := Kd.at_int HR0.out x9_1 p101 q101
            cases e101
            replace hx101_0 := (HB.out.cell (World.block_lt_of_cell? w _ hx101_0)).trans hx101_0
            replace p101 := eq_true p101
            replace q101 := eq_true q101
            go_wp2
            go_loopg [3, 13] k1 (fun kq v3 v13 w' => ∃ (x3_2 : List Int) (x13_2 : Int), v13 = .int .i64 x13_2 ∧ Aside0 (bits_Of.l1 kq x3_2 (rd l0 x9_1) l0 (l0.length : Int) x9_1 x13_2 = some r) ∧ Aside0 (kq ≤ k1) ∧ Aside0 (Kd.R (Kd.int .u8) 5 w' w.heap.size (fun _ => True) v3 x3_2) ∧ Aside0 (Below w.heap.size w w'))
            case atStart => exact ⟨(x3_1), (0), (by first | rfl | (simp; done) | (simp [*]; done)), H', ⟨Nat.le_refl _⟩, ⟨by (with_reducible repeat (first | apply Kd.R_alloc | apply Kd.R_drewN | apply Kd.R_drew)); exact HO_3.out⟩, ⟨by repeat (first | (with_reducible first | exact HB.out | apply below_alloc | apply pw_below_drewN | apply below_drew1) | exact HB.out)⟩⟩
            case round =>
              clear H'
              try clear p1
              try clear q1
              try clear hx1
              try clear c2
              try clear c2b0
              try clear p2
              try clear c3
              try clear c3b0
              try clear c4
              try clear c4b0
              try clear hx101_0
              try clear p101
              try clear q101
              obtain ⟨x3_2, x13_2, rfl, HA, HK2, HO_3, HB⟩ := hrel
              cases gk with
              | zero => exact absurd HA.out (by simp [bits_Of.l1])
              | succ k2 =>
                have H := HA.out
                clear HA
                simp only [bits_Of.l1] at H
                by_cases c5 : x13_2 < 8
                · rw [if_pos c5] at H
                  have c5b0 : decide (x13_2 < 8) = true := decide_eq_true c5
                  clear c5
                  obtain ⟨ji6, hji6⟩ : ∃ j_ : Int, (wrap64 (7 - x13_2)) = j_ := ⟨_, rfl⟩
                  replace H : (if 0 ≤ (ji6) then (if x3_2.length < 140737488355328 then (bits_Of.l1 k2 (x3_2 ++ [Go.bits .and .u8 (shr .u8 (rd l0 x9_1) (ji6)) 1]) (rd l0 x9_1) l0 (l0.length : Int) x9_1 (wrap64 (x13_2 + 1))) else (none)) else (none)) = some r := by first | (rw [hji6] at H; exact H) | (simp only [hji6] at H ⊢; exact H)
                  have hji6w : (IntKind.i64.wrap (7 - x13_2)) = ji6 := (i64_w _).trans hji6
                  by_cases c7 : 0 ≤ (ji6)
                  · rw [if_pos c7] at H
                    have c7b0 := eq_true c7
                    have c7b1 : decide (0 ≤ (ji6)) = true := decide_eq_true c7
                    clear c7
                    obtain ⟨ji8, hji8⟩ : ∃ j_ : Int, (shr .u8 (rd l0 x9_1) (ji6)) = j_ := ⟨_, rfl⟩
                    replace H : (if x3_2.length < 140737488355328 then (bits_Of.l1 k2 (x3_2 ++ [Go.bits .and .u8 (ji8) 1]) (rd l0 x9_1) l0 (l0.length : Int) x9_1 (wrap64 (x13_2 + 1))) else (none)) = some r := by first | (rw [hji8] at H; exact H) | (simp only [hji8] at H ⊢; exact H)
                    have hji8_ : ((rd l0 x9_1) / 2 ^ min (ji6).toNat 8) = ji8 := hji8
                    have hji8z : (ji6) ≤ 8 → ((rd l0 x9_1) / 2 ^ (ji6).toNat) = ji8 := shr_small hji8
                    by_cases c9 : x3_2.length < 140737488355328
                    · rw [if_pos c9] at H
                      have LMc9 := Aside0.mk c9
                      clear c9
                      obtain ⟨y102, hy102⟩ : ∃ y_ : List Int, y_ = (x3_2 ++ [Go.bits .and .u8 (ji8) 1]) := ⟨_, rfl⟩
                      replace H : (bits_Of.l1 k2 y102 (rd l0 x9_1) l0 (l0.length : Int) x9_1 (wrap64 (x13_2 + 1))) = some r := by first | (rw [hy102]; with_reducible exact H) | (have H2_ := (Option.bind_some _ _).symm.trans H; rw [hy102]; with_reducible exact H2_) | (have H2_ := (Option.bind_some _ _).symm.trans H; with_reducible exact H2_) | with_reducible exact H | (rw [hy102]; exact H) | exact H
                      have Ny102 := Aside0.mk hy102
                      clear hy102
                      have H' := Aside0.mk H
                      clear H
                      go_wp2_with (first | ((with_reducible refine gate_builtin (b := .append) (xs := #[.tmp 16, .tmp 22]) rfl ?_); at_builtin; refine Kd.R_append (Kd.int .u8) (w0 := w) w.heap.size rfl (.tmp 16) (.tmp 22) 22 5 (.int .u8 0) 1 rfl Tryd.underlying22 info5 rfl (by decide) (by omega) u3 x3_2 (Go.bits .and .u8 (ji8) 1) [.int .u8 (Go.bits .and .u8 (ji8) 1)] (fun _ => True) (fun _ => False) rfl rfl ?aP (fun _ hk => hk.elim) ?aF ?aO ?aB ?aS ?aL ?_; (case aP => exact rfl); (case aB => exact (by repeat (first | (with_reducible first | exact HB.out | apply below_alloc | apply pw_below_drewN | apply below_drew1) | exact HB.out))); (case aF => exact (fun _ _ => trivial)); (case aO => exact (by (with_reducible repeat (first | apply Kd.R_alloc | apply Kd.R_drewN | apply Kd.R_drew)); exact HO_3.out)); (case aS => exact (below_size (by repeat (first | (with_reducible first | exact HB.out | apply below_alloc | apply pw_below_drewN | apply below_drew1) | exact HB.out)))); (case aL => have := LMc9.out; omega); intro v103 w10 ho hb hg hat; rw [← Ny102.out] at ho; have n0_ := Aside0.mk (hb); have n1_ := Aside0.mk (ho); clear HB; clear HO_3; have HB := n0_; have HO104 := n1_; clear n0_ n1_; clear ho hb hg hat))
                      go_roundg k2
                      case measure => have := HK1.out; have := HK2.out; omega
                      case rel => exact ⟨(y102), (wrap64 (x13_2 + 1)), (by first | rfl | (simp; done) | (simp [*]; done)), H', ⟨by have := HK1.out; have := HK2.out; omega⟩, ⟨by (with_reducible repeat (first | apply Kd.R_alloc | apply Kd.R_drewN | apply Kd.R_drew)); exact HO104.out⟩, ⟨by repeat (first | (with_reducible first | exact HB.out | apply below_alloc | apply pw_below_drewN | apply below_drew1) | exact HB.out)⟩⟩
                    · rw [if_neg c9] at H
                      exact absurd H (by simp)
                  · rw [if_neg c7] at H
                    exact absurd H (by simp)
                · rw [if_neg c5] at H
                  have c5b0 : decide (x13_2 < 8) = false := decide_eq_false c5
                  clear c5
                  have H' := Aside0.mk H
                  clear H
                  go_wp2
                  go_roundg k2
                  case measure => have := HK1.out; have := HK2.out; omega
                  case rel => exact ⟨(x3_2), (wrap64 (x9_1 + 1)), (by first | rfl | (simp; done) | (simp [*]; done)), H', ⟨by have := HK1.out; have := HK2.out; omega⟩, ⟨by (with_reducible repeat (first | apply Kd.R_alloc | apply Kd.R_drewN | apply Kd.R_drew)); exact HO_3.out⟩, ⟨by repeat (first | (with_reducible first | exact HB.out | apply below_alloc | apply pw_below_drewN | apply below_drew1) | exact HB.out)⟩⟩
          · rw [if_neg c4] at H
            exact absurd H (by simp)
        · rw [if_neg c3] at H
          exact absurd H (by simp)
      · rw [if_neg c2] at H
        have c2b0 : decide (x9_1 < (l0.length : Int)) = false := decide_eq_false c2
        clear c2
        obtain rfl := Option.some.inj H
        go_wp2
        go_ret
        exact ⟨_, by first | rfl | (simp [errW_none, errW_some] <;> rfl) | (simp [*, errW_none, errW_some] <;> rfl), by (with_reducible repeat (first | apply Kd.R_alloc | apply Kd.R_drewN | apply Kd.R_drew)); exact HO_3.out, by repeat (first | (with_reducible first | exact HB.out | apply below_alloc | apply pw_below_drewN | apply below_drew1) | exact HB.out)⟩
end
end Go.Proofs.YteileaajmnbmpaaDoor.P
