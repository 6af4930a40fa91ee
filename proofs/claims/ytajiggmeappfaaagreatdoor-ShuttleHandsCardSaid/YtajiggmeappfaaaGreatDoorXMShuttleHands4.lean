/- Texts of this seat, one behind the other (merge.py): the walks of the functions that the law ShuttleHands uses, and plain words on what they come to. No condition. -/
import Derived.Maps.OwnSet
import Derived.Test.YtajiggmeappfaaaGreatDoorXMShuttleHands3
namespace Go.Proofs.YtajiggmeappfaaaGreatDoor.P
open Go.RowKit Go.Proofs.YtajiggmeappfaaaGreatDoorW.PrintWords Go.Proofs.YtajiggmeappfaaaGreatDoorW.PrintLast Go.Proofs.YtajiggmeappfaaaGreatDoorW.PrintMore
set_option maxRecDepth 100000
set_option maxHeartbeats 8000000
set_option linter.unusedVariables false
set_option linter.unusedSimpArgs false
-- YtajiggmeappfaaaGreatDoorPWTick
theorem WH.now_ {w : World} {S g mp : Nat} {now : Int} {V : Nat → Value} {ts : List (Int × Int)} (h : WH w S g mp now V ts) (t : Int) : WH (w.setCell ⟨g, 0, none⟩ (.int .i64 t)) S g mp t V ts := by
 have hp : Put1 g w (w.setCell ⟨g, 0, none⟩ (.int .i64 t)) := Put1.set _ _ _ _
 have hn := h.ne
 obtain ⟨C, hC, hs, h0, h1, h2⟩ := h.box
 obtain ⟨D, hD, q⟩ := h.own
 refine ⟨⟨_, blk_put hC 0 _ rfl, by simp [hs], ?_, ?_, fun j hj => ?_⟩, ⟨D, ownT_block hD (hp.block mp (Ne.symm hn.1)), q⟩, fun j hj => R_keepN (h.row j hj) (fun k hk => hp.block k (hn.2.2.2 j hj k hk).1), h.apart, h.lo, h.nd, h.rng, h.few⟩
 ·rw [Array.getElem?_setIfInBounds, if_pos rfl, if_pos (by omega)]
 ·rw [Array.getElem?_setIfInBounds, if_neg (by omega)]; exact h1
 ·rw [Array.getElem?_setIfInBounds, if_neg (by omega)]; exact h2 j hj
def lessT (ts : List (Int × Int)) (D : List Int) : List (Int × Int) := ts.filter fun p => !(D.contains p.1)
theorem lessT_nil (ts : List (Int × Int)) : lessT ts [] = ts := by unfold lessT; rw [List.filter_eq_self]; intro p _; rfl
theorem lessT_snoc (ts : List (Int × Int)) (D : List Int) (a : Int) : (lessT ts D).filter (fun p => !(p.1 == a)) = lessT ts (D ++ [a]) := by
 unfold lessT
 rw [List.filter_filter]
 apply List.filter_congr
 intro p _
 by_cases e : p.1 = a
 ·simp [e]
 ·simp [e]
theorem sp_nd {ts : List (Int × Int)} (hn : (ts.map (·.1)).Nodup) (j : Nat) : (spk ts j).Nodup := (List.Sublist.map _ List.filter_sublist).nodup hn
theorem sp_mem {ts : List (Int × Int)} {j : Nat} {a : Int} : a ∈ spk ts j ↔ ∃ t, (a, t) ∈ ts ∧ t % 32 = (j : Int) := by
 unfold spk
 rw [List.mem_map]
 constructor
 ·rintro ⟨p, hp, rfl⟩
  obtain ⟨h1, h2⟩ := List.mem_filter.1 hp
  exact ⟨p.2, h1, by simpa using h2⟩
 ·rintro ⟨t, h1, h2⟩
  exact ⟨(a, t), List.mem_filter.2 ⟨h1, by simpa using h2⟩, rfl⟩
theorem lessT_sp {ts : List (Int × Int)} (hn : (ts.map (·.1)).Nodup) {j : Nat} {t : Int} (hj : t % 32 = (j : Int)) (hall : ∀ p ∈ ts, p.2 % 32 = (j : Int) → p.2 = t) : lessT ts (spk ts j) = ts.filter fun p => !(p.2 == t) := by
 unfold lessT
 apply List.filter_congr
 intro p hp
 by_cases e : p.2 = t
 ·have : p.1 ∈ spk ts j := sp_mem.2 ⟨p.2, hp, by rw [e]; exact hj⟩
  simp [e, this]
 ·have : p.1 ∉ spk ts j := fun h => by
   obtain ⟨t', h1, h2⟩ := sp_mem.1 h
   have e2 : p.2 = t' := fst_one hn hp h1
   subst e2
   exact e (hall p hp h2)
  simp [e, this]
theorem lessT_in {ts : List (Int × Int)} {D : List Int} {p : Int × Int} (hp : p ∈ ts) (hd : p.1 ∉ D) : p ∈ lessT ts D := by
 unfold lessT
 exact List.mem_filter.2 ⟨hp, by simpa using hd⟩
def wtick5.T : Bool × List (List Nat × List Nat) := (true, [([], []), ([], []), ([1], [1]), ([2], [2]), ([3], [3]), ([4], [4]), ([0], [0]), ([6], [6]), ([7, 5], [5, 7]), ([8], [8]), ([9], [9]), ([], [])])
def wtick5.B : List Nat := [0, 0, 2, 6, 14, 30, 1, 65, 255, 511, 1023, 0]
theorem wtick5.tab : rtab .any (opsOf Tryz.f30 5) = wtick5.T := by kernel_rfl
theorem wtick5.bits : waitsOk wtick5.T.2 wtick5.B = true := by kernel_rfl
def wtick8.T : Bool × List (List Nat × List Nat) := (true, [([], []), ([0], [0]), ([1], [1]), ([2], [2]), ([], []), ([3, 4], [3, 4]), ([], []), ([6], [6]), ([7], [7]), ([8], [8]), ([5, 9], [5, 9])])
def wtick8.B : List Nat := [0, 1, 3, 7, 0, 31, 0, 64, 192, 448, 1023]
theorem wtick8.tab : rtab .any (opsOf Tryz.f30 8) = wtick8.T := by kernel_rfl
theorem wtick8.bits : waitsOk wtick8.T.2 wtick8.B = true := by kernel_rfl
theorem wtick_calls {w : World} {S g mp : Nat} {now : Int} {V : Nat → Value} {ts : List (Int × Int)} (h : WH w S g mp now V ts) (hnow : 0 ≤ now ∧ now ≤ 1000) (hall : ∀ p ∈ ts, p.2 % 32 = (now + 1) % 32 → p.2 = now + 1) (hfew : ts.length ≤ 3) :
  Calls Tryz.prog 30 #[.pointer (some ⟨g, 0, none⟩)] w fun e w' => ∃ (v : Value) (L : List Int) (V' : Nat → Value), e = .returned v ∧ Kd.R (Kd.int .u16) seqT w' w.heap.size (fun _ => True) v L ∧
   (∀ a, a ∈ L ↔ (a, now + 1) ∈ ts) ∧ L.length ≤ 3 ∧ WH w' S g mp (now + 1) V' (ts.filter fun p => !(p.2 == now + 1)) ∧ (∀ i, (V' i).ownBlock = (V i).ownBlock) ∧ Keep (WF g mp V) w w' := by
 obtain ⟨j, hj⟩ : ∃ j : Nat, (now + 1) % 32 = (j : Int) := ⟨((now + 1) % 32).toNat, by omega⟩
 have hj32 : j < 32 := by omega
 have hrem : (now + 1).tmod 32 = (j : Int) := by rw [Int.tmod_eq_emod_of_nonneg (by omega)]; exact hj
 have hc0 := h.cells.1
 have hf0 := h.cells.2.2.2 0
 have HW := ax h
 have HJ := ax (And.intro hj (And.intro hj32 (And.intro hnow (And.intro hall hfew))))
 have hj3i : (j : Int) < 32 := by omega
 clear h hall
 go_enter Tryz.func30, Tryz.ntmps30
 go_wp2_with fail
 have hW1 := HW.out.now_ (now + 1)
 have hp1 : Put1 g w (w.setCell ⟨g, 0, none⟩ (.int .i64 (now + 1))) := Put1.set _ _ _ _
 obtain ⟨w1, hw1⟩ : ∃ w1, w1 = w.setCell ⟨g, 0, none⟩ (.int .i64 (now + 1)) := ⟨_, rfl⟩
 rw [← hw1] at hW1 hp1 ⊢
 clear hw1 hc0 hf0
 have HW1 := ax (show WH w1.drew S g mp (now + 1) V ts from hW1.below (below_drew1 (Below.refl _ _)))
 have HK1 := ax (show Keep (WF g mp V) w w1.drew from (Keep.of_put hp1 (.inl rfl)).seq (Keep.of_below (below_drew1 (Below.refl _ _))))
 have HZ1 := ax (show w1.drew.heap.size = w.heap.size from hp1.size)
 obtain ⟨A, c, hVj⟩ := Kd.R_slice (hW1.row j hj32)
 have HS := ax (show w1.drew.cell? ⟨g, 0, none⟩ = some (.int .i64 (now + 1)) ∧ w1.drew.cell? ⟨g, 2 + j, none⟩ = some (.slice A (spk ts j).length c) from ⟨hW1.cells.1, by rw [← hVj]; exact hW1.cells.2.2.1 j hj32⟩)
 obtain ⟨D, hD⟩ : ∃ D, D = spk ts j := ⟨_, rfl⟩
 obtain ⟨n, hn⟩ : ∃ n, n = D.length := ⟨_, rfl⟩
 have HN := ax (show n ≤ 3 from by
  rw [hn, hD]; unfold spk; rw [List.length_map]
  have := List.length_filter_le (fun p : Int × Int => p.2 % 32 == (j : Int)) ts
  omega)
 have HR := ax (HW1.out.row j hj32)
 rw [hVj, ← hD, ← hn] at HR
 rw [← hD, ← hn] at HS
 have HDN := ax (And.intro hD hn)
 clear hVj hW1 hp1 hD hn
 refine start_ (n := 12) (S := (fun w' => w'.cell? ⟨g, 0, none⟩ = some (.int .i64 (now + 1)) ∧ w'.cell? ⟨g, 2 + j, none⟩ = some (.slice A n c))) (ds := []) #[false, false, false, false, false, false, false, false, false, false, false, false] kr rfl rfl HS.out (fun hHeld => ?_)
 refine with_tabW wtick5.tab wtick5.bits (fun HT_ HW_ => ?_)
 refine pu_ 0 17 HT_ ?_; refine pu_ 1 18 HT_ ?_; refine pu_ 2 19 HT_ ?_; refine pu_ 3 20 HT_ ?_; refine tk_ 4 21 HT_ HW_ hHeld ?_; refine pu_ 5 22 HT_ ?_; refine pu_ 6 23 HT_ ?_; refine pu_ 7 24 HT_ ?_; refine pu_ 8 25 HT_ ?_; refine tk_ 9 26 HT_ HW_ hHeld ?_; refine pu_ 10 27 HT_ ?_; refine pu_ 11 28 HT_ ?_
 refine done_ (done_of HT_.out kr) ?_
 clear hHeld HT_ HW_
 obtain ⟨w2, hw2⟩ : ∃ w2, w2 = w1.drew := ⟨_, rfl⟩
 rw [← hw2] at HW1 HK1 HZ1 HS HR ⊢
 clear hw2
 go_wp2_with fail
 go_loopw [28, 3] (fun v28 v3 wr => ∃ (i : Nat), v28 = .int .i64 (i : Int) ∧ i ≤ n ∧ Aside0 (Kd.R (Kd.int .u16) seqT wr w2.heap.size (fun _ => True) v3 (D.take i)) ∧ Aside0 (Below w2.heap.size w2 wr)) (fun v28 _ _ => n - (intOf v28).toNat)
 case atStart => exact ⟨0, by simp, by omega, ⟨Kd.R_nil _ _ _ _ _⟩, ⟨Below.refl _ _⟩⟩
 case round =>
  obtain ⟨i, rfl, hi, HU, HB⟩ := hrel
  by_cases hlt : i < n
  ·have hlb : decide ((i : Int) < (n : Int)) = true := decide_eq_true (by omega)
   have hi0 : (0 : Int) ≤ (i : Int) := by omega
   have hin : (i : Int) < (n : Int) := by omega
   have hn3 := HN.out
   have HWr := ax (HW1.out.below HB.out)
   have hil : i < D.length := by rw [← HDN.out.2]; exact hlt
   obtain ⟨ad, rfl, hcx0⟩ := ReadsOf.at_ (Kd.reads_of_C (enc := Value.int .u16) (d := (0 : Int)) (h1 := fun _ => rfl) (Kd.C_below (Kd.R_reads' HR.out).2.2 HB.out)) (i : Int) hi0 (by omega)
   rw [Int.toNat_natCast] at hcx0
   obtain ⟨x, hx⟩ : ∃ x, x = D[i] := ⟨_, rfl⟩
   have hcx : wr.cell? (ad.add i) = some (.int .u16 x) := by
    have e : rdOf 0 D (i : Int) = x := by rw [hx]; simp [rdOf, hil]
    rw [e] at hcx0; exact hcx0
   have hxt : (x, now + 1) ∈ ts := by
    have hm : x ∈ spk ts j := by rw [← HDN.out.1, hx]; exact List.getElem_mem _
    obtain ⟨t, h1, h2⟩ := sp_mem.1 hm
    have := HJ.out.2.2.2.1 _ h1 (by rw [h2, hj])
    simp only at this
    rw [← this]; exact h1
   obtain ⟨Dm, hDm, _, _, hvm⟩ := HWr.out.own
   have HS8 := ax (show wr.drew.cell? ⟨g, 1, none⟩ = some (.map (some mp)) ∧ wr.drew.cell? ⟨g, 0, none⟩ = some (.int .i64 (now + 1)) ∧ ownT wr.drew mp (Maps.size Dm) Dm from ⟨HWr.out.cells.2.1, HWr.out.cells.1, World.ownsMap.drew hDm⟩)
   have HV := ax (And.intro (HWr.out.rng _ hxt).1 (hvm _ hxt))
   have HXD := ax (show D.take i ++ [x] = D.take (i + 1) by rw [List.take_succ_eq_append_getElem hil, hx])
   have HUd := ax (Kd.R_drew HU.out)
   have HBd := ax (below_drew1 HB.out)
   clear hcx0 hx hxt hDm hvm hil
   go_wp2_with fail
   refine start_ (n := 11) (S := (fun w' => w'.cell? ⟨g, 1, none⟩ = some (.map (some mp)) ∧ w'.cell? ⟨g, 0, none⟩ = some (.int .i64 (now + 1)) ∧ ownT w' mp (Maps.size Dm) Dm)) (ds := []) #[false, false, false, false, false, false, false, false, false, false, false] kr rfl rfl HS8.out (fun hHeld => ?_)
   refine with_tabW wtick8.tab wtick8.bits (fun HT_ HW_ => ?_)
   refine pu_ 0 32 HT_ ?_; refine pu_ 1 33 HT_ ?_; refine pu_ 2 34 HT_ ?_; refine tk_ 3 35 HT_ HW_ hHeld ?_; refine pu_ 4 36 HT_ ?_
   refine take_ (i := 5) (N := some 37) (v := ?_) (a' := ?_) #[true, true, true, true, true, true, false, false, false, false, false] rfl rfl (take_ofW HT_.out HW_.out kr) (fun _ _ _ h => h) (Or.inl ⟨by rfl, ?_⟩) hHeld ?_ ?_
   rotate_left
   ·rintro w' ⟨s0, s1, s2⟩
    have hl := look1_t s2 HV.out.1 HV.out.2; go_simp; with_reducible rfl
   rotate_left
   ·simp only [Act.put, List.setIfInBounds_toArray, List.set_cons_zero, List.set_cons_succ, i64_w, i32_w]
    rfl
   refine pu_ 6 38 HT_ ?_; refine pu_ 7 39 HT_ ?_; refine pu_ 8 40 HT_ ?_; refine tk_ 9 41 HT_ HW_ hHeld ?_; refine pu_ 10 42 HT_ ?_
   refine done_ (done_of HT_.out kr) ?_
   clear hHeld HT_ HW_
   go_wp2_with ((with_reducible refine gate_builtin (b := .append) (xs := #[.tmp 43, .tmp 45]) rfl ?_); at_builtin; refine Kd.R_append (Kd.int .u16) (w0 := w2) w2.heap.size rfl (.tmp 43) (.tmp 45) 97 seqT (.int .u16 0) 2 rfl Tryz.underlying97 u16_info rfl (by decide) (by decide) u3 (D.take i) x [.int .u16 x] (fun _ => True) (fun _ => False) rfl (by first | rfl | (go_simp; done) | (go_simp; rfl)) rfl (fun _ hk => hk.elim) (fun _ _ => trivial) HUd.out HBd.out HBd.out.size (by have := HN.out; have := List.length_take_le i D; omega) ?_; intro v1 w3 ho hb hg hat; rw [HXD.out] at ho; have HU3 := ax ho; have HB3 := ax hb; clear ho hb hg hat)
   go_roundw
   case rel => exact ⟨i + 1, by simp, by omega, HU3, HB3⟩
   case measure => simp [intOf]; omega
  ·have hlb : decide ((i : Int) < (n : Int)) = false := decide_eq_false (by omega)
   obtain ⟨A3, c3, rfl⟩ := Kd.R_slice HU.out
   have hDi : D.take i = D := List.take_of_length_le (by rw [← HDN.out.2]; omega)
   rw [hDi] at HU
   rw [hDi, ← HDN.out.2]
   rw [← HDN.out.2] at HU
   have HW3 := ax (HW1.out.below HB.out)
   have HK3 := ax (show Keep (WF g mp V) w wr from HK1.out.seq (Keep.of_below HB.out))
   have HBL := ax (show w.heap.size ≤ wr.heap.size from by have := HB.out.size; have := HZ1.out; omega)
   rw [HZ1.out] at HU
   obtain ⟨w3, hw3⟩ : ∃ w3, w3 = wr := ⟨_, rfl⟩
   rw [← hw3] at HU HW3 HK3 HBL ⊢
   clear hw3 hDi hi HB HW1 HK1 HR HS
   go_wp2_with fail
   go_loopw [50] (fun v50 wr => ∃ (i : Nat) (Vq : Nat → Value), v50 = .int .i64 (i : Int) ∧ i ≤ n ∧ (∀ k, (Vq k).ownBlock = (V k).ownBlock) ∧ Aside0 (WH wr S g mp (now + 1) Vq (lessT ts (D.take i))) ∧ Aside0 (Kd.R (Kd.int .u16) seqT wr w.heap.size (fun _ => True) (.slice A3 n c3) D) ∧ Aside0 (Keep (WF g mp V) w wr)) (fun v50 _ => n - (intOf v50).toNat)
   case atStart => exact ⟨0, V, by simp, by omega, fun _ => rfl, ⟨by rw [List.take_zero, lessT_nil]; exact HW3.out⟩, HU, HK3⟩
   case round =>
    clear HW3 HU HK3 HBL
    obtain ⟨i, Vq, rfl, hi, hVq, HWr, HU, HK3⟩ := hrel
    by_cases hlt : i < n
    ·have hlb : decide ((i : Int) < (n : Int)) = true := decide_eq_true (by omega)
     have hi0 : (0 : Int) ≤ (i : Int) := by omega
     have hin : (i : Int) < (n : Int) := by omega
     have hn3 := HN.out
     have hil : i < D.length := by rw [← HDN.out.2]; exact hlt
     obtain ⟨ad, rfl, hcx0⟩ := ReadsOf.at_ (Kd.reads_of_C (enc := Value.int .u16) (d := (0 : Int)) (h1 := fun _ => rfl) (Kd.R_reads' HU.out).2.2) (i : Int) hi0 (by omega)
     rw [Int.toNat_natCast] at hcx0
     obtain ⟨x, hx⟩ : ∃ x, x = D[i] := ⟨_, rfl⟩
     have hcx : wr.cell? (ad.add i) = some (.int .u16 x) := by
      have e : rdOf 0 D (i : Int) = x := by rw [hx]; simp [rdOf, hil]
      rw [e] at hcx0; exact hcx0
     have hxt : (x, now + 1) ∈ lessT ts (D.take i) := by
      have hm : x ∈ spk ts j := by rw [← HDN.out.1, hx]; exact List.getElem_mem _
      obtain ⟨t, h1, h2⟩ := sp_mem.1 hm
      have h3 := HJ.out.2.2.2.1 _ h1 (by rw [h2, hj])
      simp only at h3
      refine lessT_in (by rw [← h3]; exact h1) ?_
      simp only
      have hnd := sp_nd HW.out.nd j
      rw [← HDN.out.1] at hnd
      rw [hx]
      intro hin2
      obtain ⟨q, hq, he⟩ := List.getElem_of_mem hin2
      rw [List.getElem_take] at he
      rw [List.length_take] at hq
      have := (List.getElem_inj hnd).1 he
      omega
     have HTK := ax (take_yes HWr.out hxt)
     have HXD := ax (show D.take i ++ [x] = D.take (i + 1) by rw [List.take_succ_eq_append_getElem hil, hx])
     clear hcx0 hx hxt hil
     go_wp2_with (go_at_call 60; refine HTK.out.mono ?_; rintro e w4 ⟨rfl, V4, hw4, hv4, hk4⟩; rw [lessT_snoc, HXD.out] at hw4; have H4 := ax (And.intro hw4 (And.intro hv4 hk4)); clear hw4 hv4 hk4)
     go_roundw
     case rel =>
      have hkf : ∀ k, WF g mp Vq k → WF g mp V k := fun k hk => by
       rcases hk with e | e | ⟨q, hq, e⟩
       ·exact .inl e
       ·exact .inr (.inl e)
       ·exact .inr (.inr ⟨q, hq, by rw [← hVq q]; exact e⟩)
      have hk4 : Keep (WF g mp V) wr w4 := H4.out.2.2.mono (fun k _ hk => hkf k hk)
      exact ⟨i + 1, V4, by simp, by omega, fun k => (H4.out.2.1 k).trans (hVq k), ⟨H4.out.1⟩, ⟨R_keepN HU.out (fun k hk => hk4.block k (Kd.R_lt HU.out k hk) (fun hf => by
       have := (HW.out.foot k hf).1
       have := Kd.R_base HU.out k hk
       omega))⟩, ⟨HK3.out.seq hk4⟩⟩
     case measure => simp [intOf]; omega
    ·have hlb : decide ((i : Int) < (n : Int)) = false := decide_eq_false (by omega)
     have hDi : D.take i = D := List.take_of_length_le (by rw [← HDN.out.2]; omega)
     rw [hDi] at HWr
     have hts : lessT ts D = ts.filter fun p => !(p.2 == now + 1) := by
      rw [HDN.out.1]
      exact lessT_sp HW.out.nd hj (fun p hp h2 => HJ.out.2.2.2.1 p hp (by rw [h2, hj]))
     rw [hts] at HWr
     have hmem : ∀ M : List Int, M.Perm D → ∀ a, a ∈ M ↔ (a, now + 1) ∈ ts := by
      intro M hM a
      rw [hM.mem_iff, HDN.out.1, sp_mem]
      constructor
      ·rintro ⟨t, h1, h2⟩
       have h3 := HJ.out.2.2.2.1 _ h1 (by rw [h2, hj])
       simp only at h3
       rw [← h3]; exact h1
      ·intro h1
       exact ⟨_, h1, hj⟩
     have HM := ax hmem
     have HST : Aside0 (∀ w', (∃ M : List Int, M.Perm D ∧ Kd.R (Kd.int .u16) seqT w' w.heap.size (fun _ => True) (.slice A3 n c3) M ∧ wr.grownBy w' (Value.slice A3 n c3).ownBlock) → ∃ (L : List Int) (V' : Nat → Value), Kd.R (Kd.int .u16) seqT w' w.heap.size (fun _ => True) (.slice A3 n c3) L ∧ (∀ a, a ∈ L ↔ (a, now + 1) ∈ ts) ∧ L.length ≤ 3 ∧ WH w' S g mp (now + 1) V' (ts.filter fun p => !(p.2 == now + 1)) ∧ (∀ i, (V' i).ownBlock = (V i).ownBlock) ∧ Keep (WF g mp V) w w') := ⟨by
      rintro w' ⟨M, hM, hr, hg⟩
      have hfar : ∀ k, WF g mp V k → (Value.slice A3 n c3).ownBlock ≠ some k := fun k hf e => by
       have := (HW.out.foot k hf).1
       have := Kd.R_base HU.out k e
       omega
      have hfw : ∀ k, WF g mp Vq k → WF g mp V k := fun k hk => by
       rcases hk with e | e | ⟨q, hq, e⟩
       ·exact .inl e
       ·exact .inr (.inl e)
       ·exact .inr (.inr ⟨q, hq, by rw [← hVq q]; exact e⟩)
      refine ⟨M, Vq, hr, hmem M hM, by rw [hM.length_eq, ← HDN.out.2]; exact HN.out, HWr.out.keep (fun k hk => hg.block k (HWr.out.foot k hk).1 (fun e => hfar k (hfw k hk) e.symm)), hVq, HK3.out.trans (F1 := fun k => (Value.slice A3 n c3).ownBlock = some k) (fun k hk => .inr (Kd.R_base HU.out k hk)) (Keep.of_grown hg (fun k hk => hk))⟩⟩
     clear hts hmem HM hDi
     rcases Nat.eq_zero_or_pos n with hn0 | hn0
     ·subst hn0
      have HSO := ax (sort0_calls A3 c3 wr)
      go_wp2_with (go_at_call 61; refine HSO.out.mono ?_; rintro e w5 ⟨rfl, hb⟩; have H5 := ax (HST.out _ ⟨D, List.Perm.refl _, Kd.R_below HU.out hb, grownBy_below hb⟩); clear hb)
      have hrs : (Tryz.f30).results = #[.tmp 2] := by kernel_rfl
      refine bodyPost_ret (results_tmp hrs _ _ _) rfl ?_
      obtain ⟨L, V', h5⟩ := H5.out
      exact ⟨_, L, V', rfl, h5⟩
     ·obtain ⟨gr, cap, he⟩ := row_shape HU.out (by intro e; rw [e] at HDN; have := HDN.out.2; simp at this; omega)
      injection he with he1 he2 he3
      subst he1
      clear he2 he3 hn0
      have HSO := ax (sort_calls HU.out HN.out)
      go_wp2_with (go_at_call 61; refine HSO.out.mono ?_; rintro e w5 ⟨M, rfl, hp, hr, hg⟩; have H5 := ax (HST.out _ ⟨M, hp, hr, hg⟩); clear hp hr hg)
      have hrs : (Tryz.f30).results = #[.tmp 2] := by kernel_rfl
      refine bodyPost_ret (results_tmp hrs _ _ _) rfl ?_
      obtain ⟨L, V', h5⟩ := H5.out
      exact ⟨_, L, V', rfl, h5⟩
-- YtajiggmeappfaaaGreatDoorPSDef
theorem R_keepP {w w' : World} {base : Nat} {e : TypeId} {v : Value} {xs : List Nat} (h : Kd.R kPt e w base (fun _ => True) v xs) (hb : ∀ k, v.ownBlock = some k → w'.heap[k]? = w.heap[k]?) : Kd.R kPt e w' base (fun _ => True) v xs :=
 Kd.R_mono (Kd.R_step (show Kd.R kPt e w base (fun k => v.ownBlock = some k) v xs from ⟨fun _ hk => hk, h.2⟩) (fun k ok _ => hb k ok)) (fun _ _ => trivial)
def TK (Ts : List TypeId) (ms : List Nat) (S : Nat) (w : World) (k : Nat) : Prop := S ≤ k ∧ (k ∈ ms ∨ ∃ cs T, w.heap[k]? = some (Obj.cells cs T (0, 0)) ∧ T ∈ Ts)
abbrev KT (Ts : List TypeId) (ms : List Nat) (S : Nat) (w w' : World) : Prop := Keep (TK Ts ms S w) w w'
theorem KT.grow {Ts : List TypeId} {ms : List Nat} {S : Nat} {w w1 : World} (h : KT Ts ms S w w1) : Grow w (TK Ts ms S w) (TK Ts ms S w1) := fun k hk => by
 by_cases hs : w.heap.size ≤ k
 ·exact .inr hs
 by_cases hF : TK Ts ms S w k
 ·exact .inl hF
 ·refine absurd ⟨hk.1, hk.2.imp id (fun ⟨cs, T, h1, h2⟩ => ⟨cs, T, (h.block k (by omega) hF).symm.trans h1, h2⟩)⟩ hF
theorem KT.next {Ts : List TypeId} {ms : List Nat} {S : Nat} {w w1 w2 : World} (h : KT Ts ms S w w1) (k : KT Ts ms S w1 w2) : KT Ts ms S w w2 := Keep.trans h h.grow k
theorem KT.typed {Ts : List TypeId} {ms : List Nat} {S : Nat} {w w' : World} (h : KT Ts ms S w w') {k : Nat} {cs : Array Value} {T : TypeId} (hk : w.heap[k]? = some (.cells cs T (0, 0))) (hT : T ∉ Ts) (hm : k ∉ ms) : w'.heap[k]? = w.heap[k]? :=
 h.block k (blk_lt hk) (fun hF => hF.2.elim hm (fun ⟨cs', T', h1, h2⟩ => by rw [hk] at h1; injection h1 with h1; injection h1 with _ h1; exact hT (h1 ▸ h2)))
theorem KT.of_keep {Ts : List TypeId} {ms : List Nat} {S : Nat} {F : Nat → Prop} {w w' : World} (h : Keep F w w') (hF : ∀ k, k < w.heap.size → F k → TK Ts ms S w k) : KT Ts ms S w w' := h.mono hF
def rowX (X : Nat → Nat) (lo n : Nat) : List Nat := (List.range' lo (n - lo)).map X
theorem rowX_len (X : Nat → Nat) (lo n : Nat) : (rowX X lo n).length = n - lo := by simp [rowX]
theorem rowX_get (X : Nat → Nat) (lo n i : Nat) (h : i < (rowX X lo n).length) : (rowX X lo n)[i] = X (lo + i) := by simp [rowX]
theorem rowX_cons (X : Nat → Nat) {lo n : Nat} (h : lo < n) : rowX X lo n = X lo :: rowX X (lo + 1) n := by
 unfold rowX
 rw [show n - lo = (n - (lo + 1)) + 1 by omega, List.range'_succ, List.map_cons]
theorem rowX_mem {X : Nat → Nat} {lo n x : Nat} (h : x ∈ rowX X lo n) : ∃ i, lo ≤ i ∧ i < n ∧ x = X i := by
 unfold rowX at h
 obtain ⟨i, hi, rfl⟩ := List.mem_map.1 h
 rw [List.mem_range'_1] at hi
 exact ⟨i, by omega, by omega, rfl⟩
structure EN (w : World) (x : Nat) (num : Int) (M : List Int) (q : Option Nat) (ack : Bool) (T : Int) : Prop where
 ent : ∃ p, ENT w x num M.length p q ack ∧ ∀ v, v < 4 → PRT w (p v) (vp (code (bitsM M)) v (nb M.length))
 pln : ∀ k, q = some k → ∃ b t s, PLN w k b t s ∧ (1 ≤ b ∧ b ≤ 4) ∧ (1 ≤ t ∧ t ≤ T) ∧ (0 ≤ s ∧ s ≤ 4 * T)
abbrev sTs : List TypeId := [82, 96, 218, 137, seqT]
abbrev sAll : List TypeId := [82, 96, 218, 137, seqT, 93, 5]
theorem EN.keep {w w' : World} {x : Nat} {num : Int} {M : List Int} {q : Option Nat} {ack : Bool} {T : Int} (h : EN w x num M q ack T) (hb : ∀ k cs, (w.heap[k]? = some (Obj.cells cs 96 (0, 0)) ∧ k = x) ∨ (w.heap[k]? = some (Obj.cells cs 218 (0, 0)) ∧ q = some k) ∨ w.heap[k]? = some (Obj.cells cs 5 (0, 0)) → w'.heap[k]? = w.heap[k]?) : EN w' x num M q ack T := by
 obtain ⟨p, h1, h2⟩ := h.ent
 refine ⟨⟨p, (hb x _ (.inl ⟨h1, rfl⟩)).trans h1, fun v hv => (h2 v hv).same (fun k cs hk => hb k cs (.inr (.inr hk)))⟩, fun k hk => ?_⟩
 obtain ⟨b, t, s, h3, h4⟩ := h.pln k hk
 exact ⟨b, t, s, (hb k _ (.inr (.inl ⟨h3, hk⟩))).trans h3, h4⟩
theorem EN.more {w : World} {x : Nat} {num : Int} {M : List Int} {q : Option Nat} {ack : Bool} {T T' : Int} (h : EN w x num M q ack T) (hT : T ≤ T') : EN w x num M q ack T' :=
 ⟨h.ent, fun k hk => by obtain ⟨b, t, s, h1, h2, h3, h4⟩ := h.pln k hk; exact ⟨b, t, s, h1, h2, by omega, by omega⟩⟩
theorem WH.kinds {w : World} {S g mp : Nat} {now : Int} {V : Nat → Value} {ts : List (Int × Int)} (h : WH w S g mp now V ts) {k : Nat} (hk : WF g mp V k) : k = mp ∨ ∃ cs T, w.heap[k]? = some (Obj.cells cs T (0, 0)) ∧ (T = 137 ∨ T = seqT) := by
 rcases hk with rfl | rfl | ⟨j, hj, e⟩
 ·obtain ⟨C, hC, _⟩ := h.box
  exact .inr ⟨C, _, hC, .inl rfl⟩
 ·exact .inl rfl
 ·obtain ⟨cells, hc⟩ := Kd.R_typed (h.row j hj) k e
  exact .inr ⟨cells, _, hc, .inr rfl⟩
structure SD (w : World) (S sb g mp gk : Nat) (first : Int) (n lo : Nat) (Ms : Nat → List Int) (X : Nat → Nat) (Q : Nat → Option Nat) (ak : Nat → Bool) (T : Nat → Int) (now : Int) (V : Nat → Value) (ts : List (Int × Int)) (late : Nat → Prop) : Prop where
 le : lo ≤ n ∧ n ≤ 6
 byts : ∀ i, i < n → byt (Ms i) ∧ (Ms i).length ≤ 5
 box : ∃ off cap lv rn, SNB w sb (nm first lo) (kv gk off cap (rowX X lo n)) g lv rn ∧ KR w gk off cap (rowX X lo n) ∧ (0 ≤ lv ∧ lv ≤ 2) ∧ (0 ≤ rn ∧ rn ≤ 3)
 en : ∀ i, lo ≤ i → i < n → EN w (X i) (nm first i) (Ms i) (Q i) (ak i) (T i)
 wh : WH w S g mp now V ts
 xinj : ∀ i j, lo ≤ i → i < n → lo ≤ j → j < n → X i = X j → i = j
 qinj : ∀ i j k, lo ≤ i → i < n → lo ≤ j → j < n → Q i = some k → Q j = some k → i = j
 low : S ≤ sb ∧ (∀ i, lo ≤ i → i < n → S ≤ X i) ∧ ∀ i k, lo ≤ i → i < n → Q i = some k → S ≤ k
 tim : ∀ p, p ∈ ts → ∃ i, lo ≤ i ∧ i < n ∧ i < lo + 3 ∧ p.1 = nm first i ∧ ak i = false ∧ (Q i).isSome = true ∧ now < p.2 ∧ p.2 ≤ now + 16
 has : ∀ i, lo ≤ i → i < n → ak i = false → (Q i).isSome = true → late i ∨ ∃ t, (nm first i, t) ∈ ts
 lt : ∀ i, late i → ∀ t, (nm first i, t) ∉ ts
 lrng : ∀ i, late i → i < n
theorem SD.keep {w w' : World} {S sb g mp gk : Nat} {first : Int} {n lo : Nat} {Ms : Nat → List Int} {X : Nat → Nat} {Q : Nat → Option Nat} {ak : Nat → Bool} {T : Nat → Int} {now : Int} {V : Nat → Value} {ts : List (Int × Int)} {late : Nat → Prop} (h : SD w S sb g mp gk first n lo Ms X Q ak T now V ts late)
  (hb : ∀ k, (k = mp ∨ ∃ cs T, w.heap[k]? = some (Obj.cells cs T (0, 0)) ∧ T ∈ sAll) → w'.heap[k]? = w.heap[k]?) : SD w' S sb g mp gk first n lo Ms X Q ak T now V ts late := by
 obtain ⟨off, cap, lv, rn, h1, h2, h3⟩ := h.box
 obtain ⟨cs, h4⟩ := h2.blk
 refine ⟨h.le, h.byts, ⟨off, cap, lv, rn, (hb sb (.inr ⟨_, _, h1, by decide⟩)).trans h1, h2.keep (hb gk (.inr ⟨_, _, h4, by decide⟩)), h3⟩, fun i hi hn => (h.en i hi hn).keep (fun k cs hk => hb k (.inr ?_)), h.wh.keep (fun k hk => hb k ((h.wh.kinds hk).imp id (fun ⟨cs, T, h5, h6⟩ => ⟨cs, T, h5, by rcases h6 with rfl | rfl <;> decide⟩))), h.xinj, h.qinj, h.low, h.tim, h.has, h.lt, h.lrng⟩
 rcases hk with hk | hk | hk
 ·exact ⟨_, _, hk.1, by decide⟩
 ·exact ⟨_, _, hk.1, by decide⟩
 ·exact ⟨_, _, hk, by decide⟩
theorem SD.mp_lt {w : World} {S sb g mp gk : Nat} {first : Int} {n lo : Nat} {Ms : Nat → List Int} {X : Nat → Nat} {Q : Nat → Option Nat} {ak : Nat → Bool} {T : Nat → Int} {now : Int} {V : Nat → Value} {ts : List (Int × Int)} {late : Nat → Prop} (h : SD w S sb g mp gk first n lo Ms X Q ak T now V ts late) : mp < w.heap.size := h.wh.ne.2.2.1
theorem SD.below {w w' : World} {S sb g mp gk : Nat} {first : Int} {n lo : Nat} {Ms : Nat → List Int} {X : Nat → Nat} {Q : Nat → Option Nat} {ak : Nat → Bool} {T : Nat → Int} {now : Int} {V : Nat → Value} {ts : List (Int × Int)} {late : Nat → Prop} (h : SD w S sb g mp gk first n lo Ms X Q ak T now V ts late) (hb : Below w.heap.size w w') : SD w' S sb g mp gk first n lo Ms X Q ak T now V ts late :=
 h.keep (fun k hk => hb.block k (by rcases hk with rfl | ⟨cs, T, hk, _⟩; exact h.mp_lt; exact blk_lt hk))
theorem SD.not_mp {w : World} {S sb g mp gk : Nat} {first : Int} {n lo : Nat} {Ms : Nat → List Int} {X : Nat → Nat} {Q : Nat → Option Nat} {ak : Nat → Bool} {T : Nat → Int} {now : Int} {V : Nat → Value} {ts : List (Int × Int)} {late : Nat → Prop} (h : SD w S sb g mp gk first n lo Ms X Q ak T now V ts late) {k : Nat} {cs : Array Value} {t : TypeId} (hk : w.heap[k]? = some (.cells cs t (0, 0))) : k ∉ [mp] := fun hm => by
 rw [List.mem_singleton] at hm; subst hm
 obtain ⟨D, hD, _⟩ := h.wh.own
 obtain ⟨es, c, hm⟩ := ownT_map hD
 rw [hm] at hk; cases hk
theorem SD.same5 {w w' : World} {S sb g mp gk : Nat} {first : Int} {n lo : Nat} {Ms : Nat → List Int} {X : Nat → Nat} {Q : Nat → Option Nat} {ak : Nat → Bool} {T : Nat → Int} {now : Int} {V : Nat → Value} {ts : List (Int × Int)} {late : Nat → Prop} (h : SD w S sb g mp gk first n lo Ms X Q ak T now V ts late) (hK : KT sTs [mp] S w w') : Same5 w w' := fun k cs hk => hK.typed hk (by decide) (h.not_mp hk)
theorem SD.late_inj {w : World} {S sb g mp gk : Nat} {first : Int} {n lo : Nat} {Ms : Nat → List Int} {X : Nat → Nat} {Q : Nat → Option Nat} {ak : Nat → Bool} {T : Nat → Int} {now : Int} {V : Nat → Value} {ts : List (Int × Int)} {late : Nat → Prop} (h : SD w S sb g mp gk first n lo Ms X Q ak T now V ts late) {i j : Nat} (hj : late j) (hi : lo ≤ i) (hn : i < n) (e : nm first j = nm first i) : j = i :=
 nm_inj (by have := h.lrng j hj; have := h.le; omega) (by have := h.le; omega) e
theorem len_sub : ∀ (l s : List Int), l.Nodup → (∀ x ∈ l, x ∈ s) → l.length ≤ s.length := by
 intro l
 induction l with
 | nil => intro s _ _; simp
 | cons x l ih =>
  intro s hn hs
  obtain ⟨s1, s2, rfl⟩ := List.append_of_mem (hs x (by simp))
  rw [List.nodup_cons] at hn
  have := ih (s1 ++ s2) hn.2 (fun y hy => by
   have h1 := hs y (List.mem_cons_of_mem _ hy)
   have hne : y ≠ x := fun e => hn.1 (e ▸ hy)
   simp only [List.mem_append, List.mem_cons] at h1 ⊢
   rcases h1 with h1 | h1 | h1
   ·exact .inl h1
   ·exact absurd h1 hne
   ·exact .inr h1)
  simp only [List.length_cons, List.length_append] at this ⊢
  omega
theorem SD.few {w : World} {S sb g mp gk : Nat} {first : Int} {n lo : Nat} {Ms : Nat → List Int} {X : Nat → Nat} {Q : Nat → Option Nat} {ak : Nat → Bool} {T : Nat → Int} {now : Int} {V : Nat → Value} {ts : List (Int × Int)} {late : Nat → Prop} (h : SD w S sb g mp gk first n lo Ms X Q ak T now V ts late) : ts.length ≤ 3 := by
 have := len_sub (ts.map (·.1)) [nm first lo, nm first (lo + 1), nm first (lo + 2)] h.wh.nd (fun x hx => by
  obtain ⟨p, hp, rfl⟩ := List.mem_map.1 hx
  obtain ⟨i, h1, _, h2, h3, _⟩ := h.tim p hp
  have : i = lo ∨ i = lo + 1 ∨ i = lo + 2 := by omega
  rcases this with e | e | e <;> (subst e; rw [h3]; simp))
 simpa using this
-- YtajiggmeappfaaaGreatDoorPSAck
theorem gen_alloc {w w2 : World} {o : Obj} {a : Act} {N : Option Tmp} {K : Act → World → Prop} (hb : Below w2.heap.size w2 w) (h : ∀ (b : Nat) (w' : World), w2.heap.size ≤ b → w'.heap[b]? = some o → Below w2.heap.size w2 w' → K (a.put N (.pointer (some ⟨b, 0, none⟩))) w') : K (a.put N (.pointer (some ⟨w.heap.size, 0, none⟩))) (w.alloc o) :=
 h _ _ hb.size (blk_new w o) (below_step hb (below_alloc (Below.refl _ _) o))
theorem gen_allocB {w w2 : World} {o : Obj} {a : Act} {N : Option Tmp} {K : Act → World → Prop} (hb : Below w2.heap.size w2 w) (h : ∀ (b : Nat) (w' : World), w2.heap.size ≤ b → w'.heap[b]? = some o → Below w2.heap.size w2 w' → Below w.heap.size w w' → K (a.put N (.pointer (some ⟨b, 0, none⟩))) w') : K (a.put N (.pointer (some ⟨w.heap.size, 0, none⟩))) (w.alloc o) :=
 h _ _ hb.size (blk_new w o) (below_step hb (below_alloc (Below.refl _ _) o)) (below_alloc (Below.refl _ _) o)
theorem gen_put2 {w : World} {b : Nat} {u v x y : Value} {T : TypeId} {a : Act} {K : Act → World → Prop} (hb : w.heap[b]? = some (.cells #[u, v] T (0, 0))) (h : ∀ w', Put1 b w w' → w'.heap[b]? = some (.cells #[x, y] T (0, 0)) → K a w') : K a ((w.setCell ⟨b, 0, none⟩ x).setCell ⟨b, 1, none⟩ y) :=
 h _ ((Put1.set b 0 w x).trans (Put1.set b 1 _ y)) (blk_put (blk_put hb 0 x rfl) 1 y rfl)
theorem wh_typed {w : World} {S g mp : Nat} {now : Int} {V : Nat → Value} {ts : List (Int × Int)} (h : WH w S g mp now V ts) {Ts : List TypeId} (h1 : 137 ∈ Ts) (h2 : seqT ∈ Ts) : ∀ k, k < w.heap.size → WF g mp V k → TK Ts [mp] S w k := fun k _ hk => by
 refine ⟨(h.foot k hk).2, ?_⟩
 rcases h.kinds hk with e | ⟨cs, T, hc, e⟩
 ·exact .inl (by simp [e])
 ·exact .inr ⟨cs, T, hc, by rcases e with rfl | rfl <;> assumption⟩
theorem SD.acked {w w' : World} {S sb g mp gk : Nat} {first : Int} {n lo : Nat} {Ms : Nat → List Int} {X : Nat → Nat} {Q : Nat → Option Nat} {ak : Nat → Bool} {T : Nat → Int} {now : Int} {V V' : Nat → Value} {ts : List (Int × Int)} (h : SD w S sb g mp gk first n lo Ms X Q ak T now V ts (fun _ => False)) {i : Nat} (hi : lo ≤ i) (hn : i < n)
  (hK : KT sTs [mp] S w w') {num : Int} {m : Nat} {p : Nat → Value} {q : Option Nat} (h0 : ENT w (X i) num m p q (ak i)) (h1 : ENT w' (X i) num m p q true) (h2 : ∀ (k : Nat) (cs : Array Value), w.heap[k]? = some (Obj.cells cs 96 (0, 0)) → k ≠ X i → w'.heap[k]? = w.heap[k]?) (h3 : ∀ (k : Nat) (cs : Array Value), w.heap[k]? = some (Obj.cells cs 218 (0, 0)) → w'.heap[k]? = w.heap[k]?)
  (hb : ∃ off cap lv rn, SNB w' sb (nm first lo) (kv gk off cap (rowX X lo n)) g lv rn ∧ KR w' gk off cap (rowX X lo n) ∧ (0 ≤ lv ∧ lv ≤ 2) ∧ (0 ≤ rn ∧ rn ≤ 3)) (hw : WH w' S g mp now V' (ts.filter fun p => !(p.1 == nm first i))) :
  SD w' S sb g mp gk first n lo Ms X Q (fun j => if j = i then true else ak j) T now V' (ts.filter fun p => !(p.1 == nm first i)) (fun _ => False) := by
 have h5 := h.same5 hK
 have hle := h.le
 refine ⟨h.le, h.byts, hb, fun j hj hjn => ?_, hw, h.xinj, h.qinj, h.low, fun p hp => ?_, fun j hj hjn ha hq => ?_, fun j hj => hj.elim, fun j hj => hj.elim⟩
 ·have e := h.en j hj hjn
  by_cases c : j = i
  ·subst c
   obtain ⟨p', hp1, hp2⟩ := e.ent
   have hp1' : w.heap[X j]? = some (.cells (entC (nm first j) (Ms j).length p' (Q j) (ak j)) 96 (0, 0)) := hp1
   have e1 := h0.symm.trans hp1'
   injection e1 with e1; injection e1 with e1
   have e2 : entC num m p q true = entC (nm first j) (Ms j).length p' (Q j) true := by
    have e3 := congrArg (fun a : Array Value => a.setIfInBounds 7 (Value.bool true)) e1
    simpa using e3
   refine ⟨⟨p', ?_, fun v hv => (hp2 v hv).same h5⟩, fun k hk => ?_⟩
   ·show w'.heap[X j]? = _
    rw [if_pos rfl, ← e2]; exact h1
   ·obtain ⟨b, t, s, h6, h7⟩ := e.pln k hk
    exact ⟨b, t, s, (h3 k _ h6).trans h6, h7⟩
  ·simp only [if_neg c]
   refine e.keep (fun k cs hk => ?_)
   rcases hk with ⟨hk, e2⟩ | ⟨hk, _⟩ | hk
   ·exact h2 k cs hk (fun e3 => c (h.xinj j i hj hjn hi hn (by rw [← e2, e3])))
   ·exact h3 k cs hk
   ·exact h5 k cs hk
 ·obtain ⟨hp1, hp2⟩ := List.mem_filter.1 hp
  obtain ⟨j, h6, h7, h8, h9, h10, h11⟩ := h.tim p hp1
  refine ⟨j, h6, h7, h8, h9, ?_, h11⟩
  have : j ≠ i := fun e => by subst e; rw [h9] at hp2; simp at hp2
  simp only [if_neg this]; exact h10
 ·by_cases c : j = i
  ·simp [c] at ha
  ·simp only [if_neg c] at ha
   rcases h.has j hj hjn ha hq with hf | ⟨t, ht⟩
   ·exact hf.elim
   ·refine .inr ⟨t, List.mem_filter.2 ⟨ht, ?_⟩⟩
    have : nm first j ≠ nm first i := fun e => c (nm_inj (by omega) (by omega) e)
    simpa using this
def sack1.T : Bool × List (List Nat × List Nat) := (true, [([], []), ([0], [0]), ([1], [1]), ([2], [2]), ([], []), ([4], [4]), ([5], [5]), ([6], [6]), ([3, 7], [3, 7])])
def sack1.B : List Nat := [0, 1, 3, 7, 0, 16, 48, 112, 255]
theorem sack1.tab : rtab .any (opsOf Tryz.f47 1) = sack1.T := by kernel_rfl
theorem sack1.bits : waitsOk sack1.T.2 sack1.B = true := by kernel_rfl
def sack3.T : Bool × List (List Nat × List Nat) := (true, [([], []), ([0], [0]), ([1], [1]), ([2], [2]), ([], []), ([4], [4]), ([5], [5]), ([6], [6]), ([7], [7]), ([3, 8, 8], [3, 8]), ([9], [9]), ([10], [10]), ([10], [10]), ([], []), ([13, 11, 9, 0, 1, 2, 3, 4, 5, 6, 7, 8, 9, 10, 11, 13], [11, 13]), ([12, 14, 0, 1, 2, 3, 4, 5, 6, 7, 8, 9, 10, 11, 12, 13, 14], [12])])
def sack3.B : List Nat := [0, 1, 3, 7, 0, 16, 48, 112, 240, 511, 1023, 2047, 2047, 0, 12287, 32767]
theorem sack3.tab : rtab .any (opsOf Tryz.f47 3) = sack3.T := by kernel_rfl
theorem sack3.bits : waitsOk sack3.T.2 sack3.B = true := by kernel_rfl
theorem sack_calls {w : World} {S sb g mp gk : Nat} {first : Int} {n lo : Nat} {Ms : Nat → List Int} {X : Nat → Nat} {Q : Nat → Option Nat} {ak : Nat → Bool} {T : Nat → Int} {now : Int} {V : Nat → Value} {ts : List (Int × Int)} (h : SD w S sb g mp gk first n lo Ms X Q ak T now V ts (fun _ => False)) {i : Nat} (hi : lo ≤ i) (hn : i < n) (hT : T i ≤ 1000) (hak : ak i = false) (hq : (Q i).isSome = true) :
  Calls Tryz.prog 47 #[.pointer (some ⟨sb, 0, none⟩), .pointer (some ⟨X i, 0, none⟩)] w fun e w' => e = .returned (.tuple #[]) ∧
   ∃ V', SD w' S sb g mp gk first n lo Ms X Q (fun j => if j = i then true else ak j) T now V' (ts.filter fun p => !(p.1 == nm first i)) (fun _ => False) ∧ KT sTs [mp] S w w' := by
 have HD := ax h
 have HI := ax (And.intro hi hn)
 obtain ⟨q, hQ⟩ := Option.isSome_iff_exists.1 hq
 have he := h.en i hi hn
 obtain ⟨p, hen, hpt⟩ := he.ent
 obtain ⟨b, t, s, hpl, hb, ht, hs⟩ := he.pln q hQ
 obtain ⟨off, cap, lv, rn, hsb, hkr, hlv, hrn⟩ := h.box
 obtain ⟨tm, htm⟩ : ∃ t, (nm first i, t) ∈ ts := (h.has i hi hn hak hq).elim (fun f => f.elim) id
 rw [hQ] at hen
 obtain ⟨x, hx⟩ : ∃ x, x = X i := ⟨_, rfl⟩
 obtain ⟨num, hnum⟩ : ∃ num, num = nm first i := ⟨_, rfl⟩
 obtain ⟨ln, hln⟩ : ∃ ln, ln = (Ms i).length := ⟨_, rfl⟩
 obtain ⟨a0, ha0⟩ : ∃ a0, a0 = ak i := ⟨_, rfl⟩
 rw [← ha0] at hen
 rw [← hx, ← hnum, ← hln] at hen
 rw [← hx, ← hnum]
 rw [← hnum] at htm
 have H0 := ax (And.intro hx (And.intro hnum (And.intro hln (And.intro hQ ha0))))
 have HE := ax (And.intro hen (And.intro hpl (And.intro hsb (And.intro hkr htm))))
 have HBB := ax (And.intro hlv (And.intro hrn (And.intro ht hT)))
 have hc7 : w.cell? ⟨x, 7, none⟩ = some (.bool a0) := blk_cell hen 7
 have hf7 := blk_frozen hen 7
 have hxs : x ≠ sb := fun e => by subst e; exact two_types hen hsb (by decide)
 have hxq : x ≠ q := fun e => by subst e; exact two_types hen hpl (by decide)
 have hp1 := Put1.set x 7 w (.bool true)
 have hen1 : ENT (w.setCell ⟨x, 7, none⟩ (.bool true)) x num ln p (some q) true := blk_put hen 7 _ rfl
 have hsb1 := (hp1.block sb (Ne.symm hxs)).trans hsb
 have hpl1 := (hp1.block q (Ne.symm hxq)).trans hpl
 have hw1 := h.wh.keep (fun k hk => hp1.block k (fun e => h.wh.typed hen (by decide) (by decide) (by rw [← e]; exact hk)))
 obtain ⟨w1, hw1e⟩ : ∃ w1, w1 = w.setCell ⟨x, 7, none⟩ (.bool true) := ⟨_, rfl⟩
 rw [← hw1e] at hp1 hen1 hsb1 hpl1 hw1
 have H1 := ax (And.intro hp1 (And.intro hen1 (And.intro hsb1 (And.intro hpl1 hw1))))
 have HS1 := ax (show w1.drew.cell? ⟨sb, 5, none⟩ = some (.pointer (some ⟨g, 0, none⟩)) ∧ w1.drew.cell? ⟨x, 0, none⟩ = some (.int .u16 num) from ⟨blk_cell hsb1 5, blk_cell hen1 0⟩)
 have HDR := ax (wdrop_calls (hw1.below (below_drew1 (Below.refl _ w1))) htm)
 have HWE := ax hw1e
 clear h hi hn hT hak hq hQ he hen hpt hpl hb ht hs hsb hkr hlv hrn htm hx hnum hln ha0 hp1 hen1 hsb1 hpl1 hw1 hw1e hxs hxq
 go_enter Tryz.func47, Tryz.ntmps47
 go_wp2_with fail
 rw [← HWE.out]
 clear hc7 hf7
 refine start_ (n := 9) (S := (fun w' => w'.cell? ⟨sb, 5, none⟩ = some (.pointer (some ⟨g, 0, none⟩)) ∧ w'.cell? ⟨x, 0, none⟩ = some (.int .u16 num))) (ds := [8]) #[false, false, false, false, false, false, false, false, false] kr rfl rfl HS1.out (fun hHeld => ?_)
 refine with_tabW sack1.tab sack1.bits (fun HT_ HW_ => ?_)
 refine pu_ 0 9 HT_ ?_; refine pu_ 1 10 HT_ ?_; refine pu_ 2 11 HT_ ?_; refine tk_ 3 12 HT_ HW_ hHeld ?_; refine pu_ 4 13 HT_ ?_; refine pu_ 5 14 HT_ ?_; refine pu_ 6 15 HT_ ?_; refine tk_ 7 16 HT_ HW_ hHeld ?_
 refine last_ (i := 8) (N := some 17) #[true, true, true, true, true, true, true, true, true] rfl rfl (one_of HT_.out kr) (by decide) (fun K hK => ?_)
 refine goes_ Tryz.func95 kr rfl #[.pointer (some ⟨g, 0, none⟩), .int .u16 num] (by rfl) rfl rfl gs_ ?_
 refine HDR.out.mono ?_
 rintro e w2 ⟨rfl, V2, hw2, hv2, hk2⟩
 have H2 := ax (And.intro hw2 (And.intro hv2 hk2))
 clear hw2 hv2 hk2
 refine ⟨_, rfl, ?_⟩
 refine hK.out _ _ ?_
 clear hK K
 refine norm_ (a' := ?_) ?_ ?_
 rotate_left
 ·show Act.put _ (some 17) _ = _
  simp only [Act.put, List.setIfInBounds_toArray, List.set_cons_zero, List.set_cons_succ, i64_w, i32_w]
  rfl
 refine done_ (done_of HT_.out kr) ?_
 clear hHeld HT_ HW_ HS1
 have hw1d := H1.out.2.2.2.2.below (below_drew1 (Below.refl _ w1))
 have hen1 : w1.drew.heap[x]? = _ := H1.out.2.1
 have hsb1 : w1.drew.heap[sb]? = _ := H1.out.2.2.1
 have hpl1 : w1.drew.heap[q]? = _ := H1.out.2.2.2.1
 have hen2 := (H2.out.2.2.block x (blk_lt hen1) (hw1d.typed hen1 (by decide) (by decide))).trans hen1
 have hsb2 := (H2.out.2.2.block sb (blk_lt hsb1) (hw1d.typed hsb1 (by decide) (by decide))).trans hsb1
 have hpl2 := (H2.out.2.2.block q (blk_lt hpl1) (hw1d.typed hpl1 (by decide) (by decide))).trans hpl1
 have H3 := ax (And.intro hen2 (And.intro hsb2 hpl2))
 have hc6 : w2.cell? ⟨x, 6, none⟩ = some (.pointer (some ⟨q, 0, none⟩)) := blk_cell hen2 6
 clear hw1d hen1 hsb1 hpl1 hen2 hsb2 hpl2
 go_wp2_with fail
 have HB0 := ax (below_drew1 (Below.refl w2.heap.size w2))
 have HSN := ax (show ∀ w', Below w2.heap.size w2 w' → w'.cell? ⟨sb, 6, none⟩ = some (.int .i64 lv) ∧ w'.cell? ⟨sb, 7, none⟩ = some (.int .i64 rn) ∧ w'.cell? ⟨x, 6, none⟩ = some (.pointer (some ⟨q, 0, none⟩)) from fun w' hb => ⟨blk_cell ((hb.block sb (blk_lt H3.out.2.1)).trans H3.out.2.1) 6, blk_cell ((hb.block sb (blk_lt H3.out.2.1)).trans H3.out.2.1) 7, blk_cell ((hb.block x (blk_lt H3.out.1)).trans H3.out.1) 6⟩)
 have HPL := ax (show ∀ w', Below w2.heap.size w2 w' → PLN w' q b t s from fun w' hb => (hb.block q (blk_lt H3.out.2.2)).trans H3.out.2.2)
 have HB := HB0
 clear hc6 HB0
 refine start_ (n := 16) (S := (fun w' => w'.cell? ⟨sb, 6, none⟩ = some (.int .i64 lv) ∧ w'.cell? ⟨sb, 7, none⟩ = some (.int .i64 rn) ∧ w'.cell? ⟨x, 6, none⟩ = some (.pointer (some ⟨q, 0, none⟩)))) (ds := [14]) #[false, false, false, false, false, false, false, false, false, false, false, false, false, false, false, false] kr rfl rfl (HSN.out _ HB.out) (fun hHeld => ?_)
 refine with_tabW sack3.tab sack3.bits (fun HT_ HW_ => ?_)
 refine pu_ 0 24 HT_ ?_; refine pu_ 1 25 HT_ ?_; refine pu_ 2 26 HT_ ?_; refine tk_ 3 27 HT_ HW_ hHeld ?_; refine pu_ 4 28 HT_ ?_; refine pu_ 5 29 HT_ ?_; refine pu_ 6 30 HT_ ?_; refine tk_ 7 31 HT_ HW_ hHeld ?_
 refine two_ (i := 8) (j := 13) (Ni := some 32) (Nj := some 4) #[true, true, true, true, true, true, true, true, true, false, false, false, false, false, false, false] #[true, true, true, true, true, true, true, true, false, false, false, false, false, true, false, false] rfl rfl rfl rfl (two_of HT_.out kr) (by decide) (by decide) (fun K hK => ?_) (fun K hK => ?_)
 ·skip
  refine goes_ Tryz.func68 kr rfl #[.pointer (some ⟨q, 0, none⟩)] (by rfl) rfl rfl gs_ ?_
  refine (tries_calls (HPL.out _ HB.out)).mono ?_
  rintro e w3 ⟨rfl, hb⟩
  have HB := ax (below_step HB.out hb)
  try have HX := ax ((hb.block _ (blk_lt HX.out)).trans HX.out)
  clear hb
  refine ⟨_, rfl, ?_⟩
  refine hK.out _ _ (HSN.out _ HB.out) (fun hHeld => ?_)
  clear hK K
  refine norm_ (a' := ?_) ?_ ?_
  rotate_left
  ·show Act.put _ (some 32) _ = _
   simp only [Act.put, List.setIfInBounds_toArray, List.set_cons_zero, List.set_cons_succ, i64_w, i32_w]
   rfl
  refine two_ (i := 9) (j := 13) (Ni := some 33) (Nj := some 4) #[true, true, true, true, true, true, true, true, true, true, false, false, false, false, false, false] #[true, true, true, true, true, true, true, true, true, false, false, false, false, true, false, false] rfl rfl rfl rfl (two_of HT_.out kr) (by decide) (by decide) (fun K hK => ?_) (fun K hK => ?_)
  ·skip
   refine goes_ Tryz.func96 kr rfl #[.agg #[.int .i64 lv, .int .i64 rn], .int .i64 t] (by rfl) rfl rfl gs_ ?_
   refine (done_calls lv rn t (HBB.out.1) (HBB.out.2.1) (by have := HBB.out.2.2; omega) _).mono ?_
   rintro e w4 ⟨lv', rn', rfl, hl, hr, hb⟩
   have HLR := ax (And.intro hl hr)
   have HB := ax (below_step HB.out hb)
   try have HX := ax ((hb.block _ (blk_lt HX.out)).trans HX.out)
   clear hb hl hr
   refine ⟨_, rfl, ?_⟩
   refine hK.out _ _ (HSN.out _ HB.out) (fun hHeld => ?_)
   clear hK K
   refine norm_ (a' := ?_) ?_ ?_
   rotate_left
   ·show Act.put _ (some 33) _ = _
    simp only [Act.put, List.setIfInBounds_toArray, List.set_cons_zero, List.set_cons_succ, i64_w, i32_w]
    rfl
   refine pu_ 10 23 HT_ ?_; refine pu_ 11 34 HT_ ?_; refine pu_ 12 35 HT_ ?_
   refine on_ 13 HT_ fun K hK => ?_
   refine value_ (w1 := ?_) (v := ?_) (by rfl) rfl ?_ ?_
   rotate_left 2
   ·go_simp
    constructor
    ·rfl
    ·rfl
   refine gen_alloc HB.out (fun bx wx hbl hbx hbb => ?_)
   have HX := ax hbx
   have HB := ax hbb
   have HXL := ax hbl
   clear hbl hbx hbb
   refine hK.out _ _ (HSN.out _ HB.out) (fun hHeld => ?_)
   clear hK K
   refine norm_ (a' := ?_) ?_ ?_
   rotate_left
   ·show Act.put _ (some 4) _ = _
    simp only [Act.put, List.setIfInBounds_toArray, List.set_cons_zero, List.set_cons_succ, i64_w, i32_w]
    rfl
   refine last_ (i := 14) (N := none) #[true, true, true, true, true, true, true, true, true, true, true, true, true, true, true, false] rfl rfl (one_of HT_.out kr) (by decide) (fun K hK => ?_)
   rw [if_pos (by rfl)]
   have hx0 := blk_cell HX.out 0
   have hx1 := blk_cell HX.out 1
   have hf0 := blk_frozen HX.out 0
   have hf1 := blk_frozen HX.out 1
   unfold Oper.wp
   go_simp
   refine gen_put2 HX.out (fun w5 hp5 hx5 => ?_)
   have HX := ax hx5
   have HB := ax (HB.out.trans (hp5.below HXL.out))
   clear hx0 hx1 hf0 hf1 hp5 hx5
   refine hK.out _ _ ?_
   clear hK K
   refine pu_ 15 5 HT_ ?_
   refine done_ (done_of HT_.out kr) ?_
   clear hHeld HT_ HW_
   have hy1 := blk_cell HX.out 0
   have hy2 := blk_cell HX.out 1
   have hsb5 := (HB.out.block sb (blk_lt H3.out.2.1)).trans H3.out.2.1
   have hs6 := blk_cell hsb5 6
   have hs7 := blk_cell hsb5 7
   have hg6 := blk_frozen hsb5 6
   have hg7 := blk_frozen hsb5 7
   have HS5 := ax hsb5
   clear hsb5
   go_wp2_with fail
   refine bodyPost_end (results_none rfl _ _ _) rfl ?_
   have hp6 := (Put1.set sb 6 w5 (.int .i64 lv')).trans (Put1.set sb 7 _ (.int .i64 rn'))
   have hsb6 : SNB ((w5.setCell ⟨sb, 6, none⟩ (.int .i64 lv')).setCell ⟨sb, 7, none⟩ (.int .i64 rn')) sb (nm first lo) (kv gk off cap (rowX X lo n)) g lv' rn' := blk_put (blk_put HS5.out 6 _ rfl) 7 _ rfl
   obtain ⟨w6, hw6⟩ : ∃ w6, w6 = (w5.setCell ⟨sb, 6, none⟩ (.int .i64 lv')).setCell ⟨sb, 7, none⟩ (.int .i64 rn') := ⟨_, rfl⟩
   rw [← hw6] at hp6 hsb6 ⊢
   clear hw6
   obtain ⟨hx, hnum, hln, hQ, ha0⟩ := H0.out
   obtain ⟨he1, he2, he3, he4, he5⟩ := HE.out
   have hkeep : Keep (fun k => k = x ∨ WF g mp V k ∨ k = sb) w w6 := (Keep.of_put H1.out.1 (.inl rfl)).seq ((Keep.of_below (below_drew1 (Below.refl _ w1))).seq ((H2.out.2.2.mono (fun k _ hk => .inr (.inl hk))).seq ((Keep.of_below HB.out).seq (Keep.of_put hp6 (.inr (.inr rfl))))))
   have hty : ∀ k cs (T : TypeId), w.heap[k]? = some (Obj.cells cs T (0, 0)) → T ≠ 96 ∨ k ≠ x → T ≠ 137 → T ≠ seqT → T ≠ 82 → w6.heap[k]? = w.heap[k]? := fun k cs T hk c1 c2 c3 c4 => hkeep.block k (blk_lt hk) (fun e => by
    rcases e with e | e | e
    ·rcases c1 with c1 | c1
     ·subst e; exact two_types hk he1 c1
     ·exact c1 e
    ·exact HD.out.wh.typed hk c2 c3 e
    ·subst e; exact two_types hk he3 c4)
   have hw5 := H2.out.1.below HB.out
   have hw6 := hw5.keep (w' := w6) (fun k hk => hp6.block k (fun e => hw5.typed HS5.out (by decide) (by decide) (by rw [← e]; exact hk)))
   have hen5 := (HB.out.block x (blk_lt H3.out.1)).trans H3.out.1
   have hen6 : w6.heap[x]? = _ := (hp6.block x (fun e => by subst e; exact two_types hen5 HS5.out (by decide))).trans hen5
   have hgk : w6.heap[gk]? = w.heap[gk]? := by
    obtain ⟨cs, hc⟩ := he4.blk
    exact hty gk cs _ hc (.inl (by decide)) (by decide) (by decide) (by decide)
   have hkt : KT sTs [mp] S w w6 := KT.of_keep hkeep (fun k hkl hk => by
    rcases hk with e | e | e
    ·subst e; exact ⟨by rw [hx]; exact HD.out.low.2.1 i HI.out.1 HI.out.2, .inr ⟨_, _, he1, by decide⟩⟩
    ·exact wh_typed HD.out.wh (by decide) (by decide) k hkl e
    ·subst e; exact ⟨HD.out.low.1, .inr ⟨_, _, he3, by decide⟩⟩)
   have hb6 : ∃ off cap lv rn, SNB w6 sb (nm first lo) (kv gk off cap (rowX X lo n)) g lv rn ∧ KR w6 gk off cap (rowX X lo n) ∧ (0 ≤ lv ∧ lv ≤ 2) ∧ (0 ≤ rn ∧ rn ≤ 3) := ⟨off, cap, lv', rn', hsb6, he4.keep hgk, HLR.out.1, HLR.out.2⟩
   rw [ha0] at he1
   rw [hx] at he1 hen6
   rw [hnum] at hw6
   rw [hnum]
   refine ⟨rfl, V2, ?_, hkt⟩
   exact HD.out.acked HI.out.1 HI.out.2 hkt he1 hen6 (fun k cs hk hne => hty k cs _ hk (.inr (by rw [hx]; exact hne)) (by decide) (by decide) (by decide)) (fun k cs hk => hty k cs _ hk (.inl (by decide)) (by decide) (by decide) (by decide)) hb6 hw6
  ·skip
   refine value_ (w1 := ?_) (v := ?_) (by rfl) rfl ?_ ?_
   rotate_left 2
   ·go_simp
    constructor
    ·rfl
    ·rfl
   refine gen_alloc HB.out (fun bx wx hbl hbx hbb => ?_)
   have HX := ax hbx
   have HB := ax hbb
   have HXL := ax hbl
   clear hbl hbx hbb
   refine hK.out _ _ (HSN.out _ HB.out) (fun hHeld => ?_)
   clear hK K
   refine norm_ (a' := ?_) ?_ ?_
   rotate_left
   ·show Act.put _ (some 4) _ = _
    simp only [Act.put, List.setIfInBounds_toArray, List.set_cons_zero, List.set_cons_succ, i64_w, i32_w]
    rfl
   refine on_ 9 HT_ fun K hK => ?_
   refine goes_ Tryz.func96 kr rfl #[.agg #[.int .i64 lv, .int .i64 rn], .int .i64 t] (by rfl) rfl rfl gs_ ?_
   refine (done_calls lv rn t (HBB.out.1) (HBB.out.2.1) (by have := HBB.out.2.2; omega) _).mono ?_
   rintro e w4 ⟨lv', rn', rfl, hl, hr, hb⟩
   have HLR := ax (And.intro hl hr)
   have HB := ax (below_step HB.out hb)
   try have HX := ax ((hb.block _ (blk_lt HX.out)).trans HX.out)
   clear hb hl hr
   refine ⟨_, rfl, ?_⟩
   refine hK.out _ _ (HSN.out _ HB.out) (fun hHeld => ?_)
   clear hK K
   refine norm_ (a' := ?_) ?_ ?_
   rotate_left
   ·show Act.put _ (some 33) _ = _
    simp only [Act.put, List.setIfInBounds_toArray, List.set_cons_zero, List.set_cons_succ, i64_w, i32_w]
    rfl
   refine pu_ 10 23 HT_ ?_; refine pu_ 11 34 HT_ ?_; refine pu_ 12 35 HT_ ?_
   refine last_ (i := 14) (N := none) #[true, true, true, true, true, true, true, true, true, true, true, true, true, true, true, false] rfl rfl (one_of HT_.out kr) (by decide) (fun K hK => ?_)
   rw [if_pos (by rfl)]
   have hx0 := blk_cell HX.out 0
   have hx1 := blk_cell HX.out 1
   have hf0 := blk_frozen HX.out 0
   have hf1 := blk_frozen HX.out 1
   unfold Oper.wp
   go_simp
   refine gen_put2 HX.out (fun w5 hp5 hx5 => ?_)
   have HX := ax hx5
   have HB := ax (HB.out.trans (hp5.below HXL.out))
   clear hx0 hx1 hf0 hf1 hp5 hx5
   refine hK.out _ _ ?_
   clear hK K
   refine pu_ 15 5 HT_ ?_
   refine done_ (done_of HT_.out kr) ?_
   clear hHeld HT_ HW_
   have hy1 := blk_cell HX.out 0
   have hy2 := blk_cell HX.out 1
   have hsb5 := (HB.out.block sb (blk_lt H3.out.2.1)).trans H3.out.2.1
   have hs6 := blk_cell hsb5 6
   have hs7 := blk_cell hsb5 7
   have hg6 := blk_frozen hsb5 6
   have hg7 := blk_frozen hsb5 7
   have HS5 := ax hsb5
   clear hsb5
   go_wp2_with fail
   refine bodyPost_end (results_none rfl _ _ _) rfl ?_
   have hp6 := (Put1.set sb 6 w5 (.int .i64 lv')).trans (Put1.set sb 7 _ (.int .i64 rn'))
   have hsb6 : SNB ((w5.setCell ⟨sb, 6, none⟩ (.int .i64 lv')).setCell ⟨sb, 7, none⟩ (.int .i64 rn')) sb (nm first lo) (kv gk off cap (rowX X lo n)) g lv' rn' := blk_put (blk_put HS5.out 6 _ rfl) 7 _ rfl
   obtain ⟨w6, hw6⟩ : ∃ w6, w6 = (w5.setCell ⟨sb, 6, none⟩ (.int .i64 lv')).setCell ⟨sb, 7, none⟩ (.int .i64 rn') := ⟨_, rfl⟩
   rw [← hw6] at hp6 hsb6 ⊢
   clear hw6
   obtain ⟨hx, hnum, hln, hQ, ha0⟩ := H0.out
   obtain ⟨he1, he2, he3, he4, he5⟩ := HE.out
   have hkeep : Keep (fun k => k = x ∨ WF g mp V k ∨ k = sb) w w6 := (Keep.of_put H1.out.1 (.inl rfl)).seq ((Keep.of_below (below_drew1 (Below.refl _ w1))).seq ((H2.out.2.2.mono (fun k _ hk => .inr (.inl hk))).seq ((Keep.of_below HB.out).seq (Keep.of_put hp6 (.inr (.inr rfl))))))
   have hty : ∀ k cs (T : TypeId), w.heap[k]? = some (Obj.cells cs T (0, 0)) → T ≠ 96 ∨ k ≠ x → T ≠ 137 → T ≠ seqT → T ≠ 82 → w6.heap[k]? = w.heap[k]? := fun k cs T hk c1 c2 c3 c4 => hkeep.block k (blk_lt hk) (fun e => by
    rcases e with e | e | e
    ·rcases c1 with c1 | c1
     ·subst e; exact two_types hk he1 c1
     ·exact c1 e
    ·exact HD.out.wh.typed hk c2 c3 e
    ·subst e; exact two_types hk he3 c4)
   have hw5 := H2.out.1.below HB.out
   have hw6 := hw5.keep (w' := w6) (fun k hk => hp6.block k (fun e => hw5.typed HS5.out (by decide) (by decide) (by rw [← e]; exact hk)))
   have hen5 := (HB.out.block x (blk_lt H3.out.1)).trans H3.out.1
   have hen6 : w6.heap[x]? = _ := (hp6.block x (fun e => by subst e; exact two_types hen5 HS5.out (by decide))).trans hen5
   have hgk : w6.heap[gk]? = w.heap[gk]? := by
    obtain ⟨cs, hc⟩ := he4.blk
    exact hty gk cs _ hc (.inl (by decide)) (by decide) (by decide) (by decide)
   have hkt : KT sTs [mp] S w w6 := KT.of_keep hkeep (fun k hkl hk => by
    rcases hk with e | e | e
    ·subst e; exact ⟨by rw [hx]; exact HD.out.low.2.1 i HI.out.1 HI.out.2, .inr ⟨_, _, he1, by decide⟩⟩
    ·exact wh_typed HD.out.wh (by decide) (by decide) k hkl e
    ·subst e; exact ⟨HD.out.low.1, .inr ⟨_, _, he3, by decide⟩⟩)
   have hb6 : ∃ off cap lv rn, SNB w6 sb (nm first lo) (kv gk off cap (rowX X lo n)) g lv rn ∧ KR w6 gk off cap (rowX X lo n) ∧ (0 ≤ lv ∧ lv ≤ 2) ∧ (0 ≤ rn ∧ rn ≤ 3) := ⟨off, cap, lv', rn', hsb6, he4.keep hgk, HLR.out.1, HLR.out.2⟩
   rw [ha0] at he1
   rw [hx] at he1 hen6
   rw [hnum] at hw6
   rw [hnum]
   refine ⟨rfl, V2, ?_, hkt⟩
   exact HD.out.acked HI.out.1 HI.out.2 hkt he1 hen6 (fun k cs hk hne => hty k cs _ hk (.inr (by rw [hx]; exact hne)) (by decide) (by decide) (by decide)) (fun k cs hk => hty k cs _ hk (.inl (by decide)) (by decide) (by decide) (by decide)) hb6 hw6
 ·skip
  refine value_ (w1 := ?_) (v := ?_) (by rfl) rfl ?_ ?_
  rotate_left 2
  ·go_simp
   constructor
   ·rfl
   ·rfl
  refine gen_alloc HB.out (fun bx wx hbl hbx hbb => ?_)
  have HX := ax hbx
  have HB := ax hbb
  have HXL := ax hbl
  clear hbl hbx hbb
  refine hK.out _ _ (HSN.out _ HB.out) (fun hHeld => ?_)
  clear hK K
  refine norm_ (a' := ?_) ?_ ?_
  rotate_left
  ·show Act.put _ (some 4) _ = _
   simp only [Act.put, List.setIfInBounds_toArray, List.set_cons_zero, List.set_cons_succ, i64_w, i32_w]
   rfl
  refine on_ 8 HT_ fun K hK => ?_
  refine goes_ Tryz.func68 kr rfl #[.pointer (some ⟨q, 0, none⟩)] (by rfl) rfl rfl gs_ ?_
  refine (tries_calls (HPL.out _ HB.out)).mono ?_
  rintro e w3 ⟨rfl, hb⟩
  have HB := ax (below_step HB.out hb)
  try have HX := ax ((hb.block _ (blk_lt HX.out)).trans HX.out)
  clear hb
  refine ⟨_, rfl, ?_⟩
  refine hK.out _ _ (HSN.out _ HB.out) (fun hHeld => ?_)
  clear hK K
  refine norm_ (a' := ?_) ?_ ?_
  rotate_left
  ·show Act.put _ (some 32) _ = _
   simp only [Act.put, List.setIfInBounds_toArray, List.set_cons_zero, List.set_cons_succ, i64_w, i32_w]
   rfl
  refine on_ 9 HT_ fun K hK => ?_
  refine goes_ Tryz.func96 kr rfl #[.agg #[.int .i64 lv, .int .i64 rn], .int .i64 t] (by rfl) rfl rfl gs_ ?_
  refine (done_calls lv rn t (HBB.out.1) (HBB.out.2.1) (by have := HBB.out.2.2; omega) _).mono ?_
  rintro e w4 ⟨lv', rn', rfl, hl, hr, hb⟩
  have HLR := ax (And.intro hl hr)
  have HB := ax (below_step HB.out hb)
  try have HX := ax ((hb.block _ (blk_lt HX.out)).trans HX.out)
  clear hb hl hr
  refine ⟨_, rfl, ?_⟩
  refine hK.out _ _ (HSN.out _ HB.out) (fun hHeld => ?_)
  clear hK K
  refine norm_ (a' := ?_) ?_ ?_
  rotate_left
  ·show Act.put _ (some 33) _ = _
   simp only [Act.put, List.setIfInBounds_toArray, List.set_cons_zero, List.set_cons_succ, i64_w, i32_w]
   rfl
  refine pu_ 10 23 HT_ ?_; refine pu_ 11 34 HT_ ?_; refine pu_ 12 35 HT_ ?_
  refine last_ (i := 14) (N := none) #[true, true, true, true, true, true, true, true, true, true, true, true, true, true, true, false] rfl rfl (one_of HT_.out kr) (by decide) (fun K hK => ?_)
  rw [if_pos (by rfl)]
  have hx0 := blk_cell HX.out 0
  have hx1 := blk_cell HX.out 1
  have hf0 := blk_frozen HX.out 0
  have hf1 := blk_frozen HX.out 1
  unfold Oper.wp
  go_simp
  refine gen_put2 HX.out (fun w5 hp5 hx5 => ?_)
  have HX := ax hx5
  have HB := ax (HB.out.trans (hp5.below HXL.out))
  clear hx0 hx1 hf0 hf1 hp5 hx5
  refine hK.out _ _ ?_
  clear hK K
  refine pu_ 15 5 HT_ ?_
  refine done_ (done_of HT_.out kr) ?_
  clear hHeld HT_ HW_
  have hy1 := blk_cell HX.out 0
  have hy2 := blk_cell HX.out 1
  have hsb5 := (HB.out.block sb (blk_lt H3.out.2.1)).trans H3.out.2.1
  have hs6 := blk_cell hsb5 6
  have hs7 := blk_cell hsb5 7
  have hg6 := blk_frozen hsb5 6
  have hg7 := blk_frozen hsb5 7
  have HS5 := ax hsb5
  clear hsb5
  go_wp2_with fail
  refine bodyPost_end (results_none rfl _ _ _) rfl ?_
  have hp6 := (Put1.set sb 6 w5 (.int .i64 lv')).trans (Put1.set sb 7 _ (.int .i64 rn'))
  have hsb6 : SNB ((w5.setCell ⟨sb, 6, none⟩ (.int .i64 lv')).setCell ⟨sb, 7, none⟩ (.int .i64 rn')) sb (nm first lo) (kv gk off cap (rowX X lo n)) g lv' rn' := blk_put (blk_put HS5.out 6 _ rfl) 7 _ rfl
  obtain ⟨w6, hw6⟩ : ∃ w6, w6 = (w5.setCell ⟨sb, 6, none⟩ (.int .i64 lv')).setCell ⟨sb, 7, none⟩ (.int .i64 rn') := ⟨_, rfl⟩
  rw [← hw6] at hp6 hsb6 ⊢
  clear hw6
  obtain ⟨hx, hnum, hln, hQ, ha0⟩ := H0.out
  obtain ⟨he1, he2, he3, he4, he5⟩ := HE.out
  have hkeep : Keep (fun k => k = x ∨ WF g mp V k ∨ k = sb) w w6 := (Keep.of_put H1.out.1 (.inl rfl)).seq ((Keep.of_below (below_drew1 (Below.refl _ w1))).seq ((H2.out.2.2.mono (fun k _ hk => .inr (.inl hk))).seq ((Keep.of_below HB.out).seq (Keep.of_put hp6 (.inr (.inr rfl))))))
  have hty : ∀ k cs (T : TypeId), w.heap[k]? = some (Obj.cells cs T (0, 0)) → T ≠ 96 ∨ k ≠ x → T ≠ 137 → T ≠ seqT → T ≠ 82 → w6.heap[k]? = w.heap[k]? := fun k cs T hk c1 c2 c3 c4 => hkeep.block k (blk_lt hk) (fun e => by
   rcases e with e | e | e
   ·rcases c1 with c1 | c1
    ·subst e; exact two_types hk he1 c1
    ·exact c1 e
   ·exact HD.out.wh.typed hk c2 c3 e
   ·subst e; exact two_types hk he3 c4)
  have hw5 := H2.out.1.below HB.out
  have hw6 := hw5.keep (w' := w6) (fun k hk => hp6.block k (fun e => hw5.typed HS5.out (by decide) (by decide) (by rw [← e]; exact hk)))
  have hen5 := (HB.out.block x (blk_lt H3.out.1)).trans H3.out.1
  have hen6 : w6.heap[x]? = _ := (hp6.block x (fun e => by subst e; exact two_types hen5 HS5.out (by decide))).trans hen5
  have hgk : w6.heap[gk]? = w.heap[gk]? := by
   obtain ⟨cs, hc⟩ := he4.blk
   exact hty gk cs _ hc (.inl (by decide)) (by decide) (by decide) (by decide)
  have hkt : KT sTs [mp] S w w6 := KT.of_keep hkeep (fun k hkl hk => by
   rcases hk with e | e | e
   ·subst e; exact ⟨by rw [hx]; exact HD.out.low.2.1 i HI.out.1 HI.out.2, .inr ⟨_, _, he1, by decide⟩⟩
   ·exact wh_typed HD.out.wh (by decide) (by decide) k hkl e
   ·subst e; exact ⟨HD.out.low.1, .inr ⟨_, _, he3, by decide⟩⟩)
  have hb6 : ∃ off cap lv rn, SNB w6 sb (nm first lo) (kv gk off cap (rowX X lo n)) g lv rn ∧ KR w6 gk off cap (rowX X lo n) ∧ (0 ≤ lv ∧ lv ≤ 2) ∧ (0 ≤ rn ∧ rn ≤ 3) := ⟨off, cap, lv', rn', hsb6, he4.keep hgk, HLR.out.1, HLR.out.2⟩
  rw [ha0] at he1
  rw [hx] at he1 hen6
  rw [hnum] at hw6
  rw [hnum]
  refine ⟨rfl, V2, ?_, hkt⟩
  exact HD.out.acked HI.out.1 HI.out.2 hkt he1 hen6 (fun k cs hk hne => hty k cs _ hk (.inr (by rw [hx]; exact hne)) (by decide) (by decide) (by decide)) (fun k cs hk => hty k cs _ hk (.inl (by decide)) (by decide) (by decide) (by decide)) hb6 hw6
-- YtajiggmeappfaaaGreatDoorPSTickP
theorem SD.tried {w w' : World} {S sb g mp gk : Nat} {first : Int} {n lo : Nat} {Ms : Nat → List Int} {X : Nat → Nat} {Q : Nat → Option Nat} {ak : Nat → Bool} {T : Nat → Int} {now : Int} {V V' : Nat → Value} {ts : List (Int × Int)} {late : Nat → Prop} (h : SD w S sb g mp gk first n lo Ms X Q ak T now V ts late) {i : Nat} (hi : lo ≤ i) (hn : i < n) (hi3 : i < lo + 3) (ha : ak i = false)
  (h5 : Same5 w w') (hgk : ∀ (cs : Array Value), w.heap[gk]? = some (Obj.cells cs 93 (0, 0)) → w'.heap[gk]? = w.heap[gk]?) {q : Nat} {T' : Int} (hq : Q i = some q ∨ w.heap.size ≤ q) (hlow : S ≤ q) (he : EN w' (X i) (nm first i) (Ms i) (some q) false T')
  (h2 : ∀ (k : Nat) (cs : Array Value), w.heap[k]? = some (Obj.cells cs 96 (0, 0)) → k ≠ X i → w'.heap[k]? = w.heap[k]?) (h3 : ∀ (k : Nat) (cs : Array Value), w.heap[k]? = some (Obj.cells cs 218 (0, 0)) → k ≠ q → w'.heap[k]? = w.heap[k]?)
  (hs : ∀ (cs : Array Value), w.heap[sb]? = some (Obj.cells cs 82 (0, 0)) → w'.heap[sb]? = w.heap[sb]?) {t : Int} (ht : now < t ∧ t ≤ now + 16) (hw : WH w' S g mp now V' (ts ++ [(nm first i, t)])) :
  SD w' S sb g mp gk first n lo Ms X (fun j => if j = i then some q else Q j) ak (fun j => if j = i then T' else T j) now V' (ts ++ [(nm first i, t)]) (fun j => late j ∧ j ≠ i) := by
 have hle := h.le
 obtain ⟨off, cap, lv, rn, h6, h7, h8⟩ := h.box
 obtain ⟨cs4, h4⟩ := h7.blk
 have hgk := hgk _ h4
 refine ⟨h.le, h.byts, ⟨off, cap, lv, rn, (hs _ h6).trans h6, h7.keep hgk, h8⟩, fun j hj hjn => ?_, hw, h.xinj, fun j k b hj hjn hk hkn e1 e2 => ?_, ⟨h.low.1, h.low.2.1, fun j k hj hjn e => ?_⟩, fun p hp => ?_, fun j hj hjn ha' hq' => ?_, fun j hj t' ht' => ?_, fun j hj => h.lrng j hj.1⟩
 ·by_cases c : j = i
  ·subst c; simp only [if_true]; rw [ha]; exact he
  ·simp only [if_neg c]
   have e := h.en j hj hjn
   refine e.keep (fun k cs hk => ?_)
   rcases hk with ⟨hk, e2⟩ | ⟨hk, e2⟩ | hk
   ·exact h2 k cs hk (fun e3 => c (h.xinj j i hj hjn hi hn (by rw [← e2, e3])))
   ·refine h3 k cs hk (fun e3 => ?_)
    subst e3
    rcases hq with hq | hq
    ·exact c (h.qinj j i k hj hjn hi hn e2 hq)
    ·have := blk_lt hk; omega
   ·exact h5 k cs hk
 ·have key : ∀ j, lo ≤ j → j < n → j ≠ i → Q j ≠ some q := fun j hj hjn c e => by
   rcases hq with hq | hq
   ·exact c (h.qinj j i q hj hjn hi hn e hq)
   ·obtain ⟨b, t, s, hp, _⟩ := (h.en j hj hjn).pln q e
    have := blk_lt hp; omega
  by_cases c : j = i <;> by_cases d : k = i
  ·rw [c, d]
  ·subst c; simp only [if_true, if_neg d] at e1 e2
   injection e1 with e1; subst e1
   exact absurd e2 (key k hk hkn d)
  ·subst d; simp only [if_true, if_neg c] at e1 e2
   injection e2 with e2; subst e2
   exact absurd e1 (key j hj hjn c)
  ·simp only [if_neg c, if_neg d] at e1 e2
   exact h.qinj j k b hj hjn hk hkn e1 e2
 ·by_cases c : j = i
  ·subst c; simp only [if_true] at e; injection e with e; subst e; exact hlow
  ·simp only [if_neg c] at e; exact h.low.2.2 j k hj hjn e
 ·rcases List.mem_append.1 hp with hp | hp
  ·obtain ⟨j, h9, h10, h11, h12, h13, h14, h15⟩ := h.tim p hp
   refine ⟨j, h9, h10, h11, h12, h13, ?_, h15⟩
   by_cases c : j = i <;> simp [c, h14]
  ·rw [List.mem_singleton] at hp; subst hp
   exact ⟨i, hi, hn, hi3, rfl, ha, by simp, ht⟩
 ·by_cases c : j = i
  ·subst c; exact .inr ⟨t, by simp⟩
  ·simp only [if_neg c] at hq'
   rcases h.has j hj hjn ha' hq' with hl | ⟨t1, ht1⟩
   ·exact .inl ⟨hl, c⟩
   ·exact .inr ⟨t1, List.mem_append_left _ ht1⟩
 ·rcases List.mem_append.1 ht' with hp | hp
  ·exact h.lt j hj.1 t' hp
  ·rw [List.mem_singleton] at hp
   injection hp with hp _
   exact hj.2 (h.late_inj hj.1 hi hn hp)
theorem SD.ticked {w w' : World} {S sb g mp gk : Nat} {first : Int} {n lo : Nat} {Ms : Nat → List Int} {X : Nat → Nat} {Q : Nat → Option Nat} {ak : Nat → Bool} {T : Nat → Int} {now : Int} {V V' : Nat → Value} {ts : List (Int × Int)} (h : SD w S sb g mp gk first n lo Ms X Q ak T now V ts (fun _ => False))
  (hK : Keep (WF g mp V) w w') (hw : WH w' S g mp (now + 1) V' (ts.filter fun p => !(p.2 == now + 1))) :
  SD w' S sb g mp gk first n lo Ms X Q ak T (now + 1) V' (ts.filter fun p => !(p.2 == now + 1)) (fun j => (lo ≤ j ∧ j < n) ∧ (nm first j, now + 1) ∈ ts) := by
 have hle := h.le
 have hB : ∀ k cs (T : TypeId), w.heap[k]? = some (Obj.cells cs T (0, 0)) → T ≠ 137 → T ≠ seqT → w'.heap[k]? = w.heap[k]? := fun k cs T hk h1 h2 => hK.block k (blk_lt hk) (h.wh.typed hk h1 h2)
 obtain ⟨off, cap, lv, rn, h6, h7, h8⟩ := h.box
 obtain ⟨cs4, h4⟩ := h7.blk
 refine ⟨h.le, h.byts, ⟨off, cap, lv, rn, (hB _ _ _ h6 (by decide) (by decide)).trans h6, h7.keep (hB _ _ _ h4 (by decide) (by decide)), h8⟩, fun j hj hjn => (h.en j hj hjn).keep (fun k cs hk => ?_), hw, h.xinj, h.qinj, h.low, fun p hp => ?_, fun j hj hjn ha hq => ?_, fun j hj t ht => ?_, fun j hj => hj.1.2⟩
 ·rcases hk with ⟨hk, _⟩ | ⟨hk, _⟩ | hk
  ·exact hB _ _ _ hk (by decide) (by decide)
  ·exact hB _ _ _ hk (by decide) (by decide)
  ·exact hB _ _ _ hk (by decide) (by decide)
 ·obtain ⟨hp1, hp2⟩ := List.mem_filter.1 hp
  obtain ⟨j, h9, h10, h11, h12, h13, h14, h15, h16⟩ := h.tim p hp1
  have : p.2 ≠ now + 1 := by simpa using hp2
  exact ⟨j, h9, h10, h11, h12, h13, h14, by omega, by omega⟩
 ·rcases h.has j hj hjn ha hq with hf | ⟨t, ht⟩
  ·exact hf.elim
  ·by_cases c : t = now + 1
   ·subst c; exact .inl ⟨⟨hj, hjn⟩, ht⟩
   ·exact .inr ⟨t, List.mem_filter.2 ⟨ht, by simp [c]⟩⟩
 ·obtain ⟨hp1, hp2⟩ := List.mem_filter.1 ht
  have := fst_one h.wh.nd hj.2 hp1
  subst this
  simp at hp2
theorem SD.later {w : World} {S sb g mp gk : Nat} {first : Int} {n lo : Nat} {Ms : Nat → List Int} {X : Nat → Nat} {Q : Nat → Option Nat} {ak : Nat → Bool} {T T' : Nat → Int} {now : Int} {V : Nat → Value} {ts : List (Int × Int)} {late late' : Nat → Prop} (h : SD w S sb g mp gk first n lo Ms X Q ak T now V ts late) (hT : ∀ i, lo ≤ i → i < n → T i ≤ T' i) (hl : ∀ i, lo ≤ i → i < n → ak i = false → late i → late' i) (hl' : ∀ i, late' i → late i) :
  SD w S sb g mp gk first n lo Ms X Q ak T' now V ts late' :=
 ⟨h.le, h.byts, h.box, fun i hi hn => (h.en i hi hn).more (hT i hi hn), h.wh, h.xinj, h.qinj, h.low, h.tim, fun i hi hn ha hq => (h.has i hi hn ha hq).imp (hl i hi hn ha) id, fun i hi => h.lt i (hl' i hi), fun i hi => h.lrng i (hl' i hi)⟩
-- YtajiggmeappfaaaGreatDoorP63
section
attribute [local go_sem] max2_int min2_int max_two min_two max_three min_three max_four min_four
def seq_Num_64.l0 : Nat → List Int → Int → Int → Int → Option (Int)
 | 0, _, _, _, _ => none
 | k + 1, x0, x1, x7, x8 => if x8 < x7 then (if 0 ≤ x8 then (if x8 < (x0.length : Int) then (if x1 = (rd x0 x8) then (some x8) else (seq_Num_64.l0 k x0 x1 x7 (wrap64 (x8 + 1)))) else (none)) else (none)) else (some (-1))
def seq_Num_64.f (k : Nat) (l0 : List Int) (a1 : Int) : Option (Int) := seq_Num_64.l0 k l0 a1 (l0.length : Int) 0
theorem seq_Num_64.mono_l : ∀ k, (∀ y0 y1 y2 y3, LeO (seq_Num_64.l0 k y0 y1 y2 y3) (seq_Num_64.l0 (k + 1) y0 y1 y2 y3))
 | 0 => fun _ _ _ _ r h => by simp [seq_Num_64.l0] at h
 | k + 1 => by
  have ih0 := seq_Num_64.mono_l k
  ·intro y0 y1 y2 y3
   unfold seq_Num_64.l0
   repeat' first
   | (with_reducible exact ih0 _ _ _ _)
   | (with_reducible exact LeO.refl _)
   | (with_reducible exact LeO.none _)
   | (with_reducible refine LeO.ite ?_ ?_)
   | (with_reducible refine LeO.bind ?_ (fun _ => ?_))
   | exact ih0 _ _ _ _
   | exact LeO.none _
   | refine LeO.ite ?_ ?_
   | refine LeO.bind ?_ (fun _ => ?_)
theorem seq_Num_64.mono : ∀ a0 a1 k, LeO (seq_Num_64.f k a0 a1) (seq_Num_64.f (k + 1) a0 a1) := by
 intro a0 a1 k
 have ih0 := seq_Num_64.mono_l k
 unfold seq_Num_64.f
 repeat' first
   | (with_reducible exact ih0 _ _ _ _)
   | (with_reducible exact LeO.refl _)
   | (with_reducible exact LeO.none _)
   | (with_reducible refine LeO.ite ?_ ?_)
   | (with_reducible refine LeO.bind ?_ (fun _ => ?_))
   | exact ih0 _ _ _ _
   | exact LeO.none _
   | refine LeO.ite ?_ ?_
   | refine LeO.bind ?_ (fun _ => ?_)
theorem seq_Num_64.calls (k : Nat) (A0 : Option Addr) (c0 : Nat) (l0 : List Int) (a1 : Int) (r : Int) (w : World) (hr0 : Kd.C (Kd.int .u16) w A0 l0.length l0) (hc0 : l0.length ≤ c0) (h : seq_Num_64.f k l0 a1 = some r) :
  Calls Tryz.prog 64 #[.slice A0 l0.length c0, .int .u16 a1] w fun e w' => e = .returned (.int .i64 r) ∧ Drawn0 w w' := by
 have HR0 := ax hr0
 have HC0 := ax hc0
 clear hr0 hc0
 have H : (seq_Num_64.l0 k l0 a1 (l0.length : Int) 0) = some r := h
 clear h
 have H' := ax H
 clear H
 go_enter Tryz.func64, Tryz.ntmps64
 go_wp2
 go_loopg [8] k (fun kq v8 w' => ∃ (x8_1 : Int), v8 = .int .i64 x8_1 ∧ Aside0 (seq_Num_64.l0 kq l0 a1 (l0.length : Int) x8_1 = some r) ∧ Aside0 (kq ≤ k) ∧ Drawn0 w w')
 case atStart => exact ⟨(0), rs_, H', ⟨Nat.le_refl _⟩, dr_⟩
 case round =>
  clear H'
  try clear p2
  obtain ⟨x8_1, rfl, HA, HK1, ⟨m1, rfl⟩⟩ := hrel
  cases gk with
  | zero => exact absurd HA.out (by simp [seq_Num_64.l0])
  | succ k1 =>
   have H := HA.out
   clear HA
   simp only [seq_Num_64.l0] at H
   by_cases c3 : x8_1 < (l0.length : Int)
   ·rw [if_pos c3] at H
    have c3b0 : decide (x8_1 < (l0.length : Int)) = true := decide_eq_true c3
    clear c3
    by_cases c4 : 0 ≤ x8_1
    ·rw [if_pos c4] at H
     have c4b0 : decide (0 ≤ x8_1) = true := decide_eq_true c4
     clear c4
     by_cases c5 : x8_1 < (l0.length : Int)
     ·rw [if_pos c5] at H
      have c5b0 : decide (x8_1 < (l0.length : Int)) = true := decide_eq_true c5
      clear c5
      by_cases c6 : a1 = (rd l0 x8_1)
      ·rw [if_pos c6] at H
       have c6b0 : (a1 == (rd l0 x8_1)) = true := beq_iff_eq.mpr c6
       have c6b1 : (a1 != (rd l0 x8_1)) = false := bne_eq_false_iff_eq.mpr c6
       clear c6
       obtain rfl := Option.some.inj H
       have p327 : 0 ≤ (x8_1 : Int) := of_decide_eq_true as_
       have q327 : x8_1 < (l0.length : Int) := of_decide_eq_true as_
       obtain ⟨ad327, e327, hx327_0⟩ := Kd.at_int HR0.out x8_1 p327 q327
       cases e327
       replace p327 := eq_true p327
       replace q327 := eq_true q327
       go_wp2
       go_ret
       exact ⟨rs_, dr_⟩
      ·rw [if_neg c6] at H
       have c6b0 : (a1 == (rd l0 x8_1)) = false := beq_eq_false_iff_ne.mpr c6
       have c6b1 : (a1 != (rd l0 x8_1)) = true := bne_iff_ne.mpr c6
       have H' := ax H
       clear H
       have p327 : 0 ≤ (x8_1 : Int) := of_decide_eq_true as_
       have q327 : x8_1 < (l0.length : Int) := of_decide_eq_true as_
       obtain ⟨ad327, e327, hx327_0⟩ := Kd.at_int HR0.out x8_1 p327 q327
       cases e327
       replace p327 := eq_true p327
       replace q327 := eq_true q327
       go_wp2
       go_roundg k1
       case measure => have := HK1.out; omega
       case rel => exact ⟨(wrap64 (x8_1 + 1)), rs_, H', ⟨by have := HK1.out; omega⟩, dr_⟩
     ·rw [if_neg c5] at H
      exact absurd H (by simp)
    ·rw [if_neg c4] at H
     exact absurd H (by simp)
   ·rw [if_neg c3] at H
    have c3b0 : decide (x8_1 < (l0.length : Int)) = false := decide_eq_false c3
    clear c3
    obtain rfl := Option.some.inj H
    go_wp2
    go_ret
    exact ⟨rs_, dr_⟩
end
-- YtajiggmeappfaaaGreatDoorP64
section
attribute [local go_sem] max2_int min2_int max_two min_two max_three min_three max_four min_four
def seq_Num_33.f (k : Nat) (l0 : List Int) (a1 : Int) : Option (Bool) := (seq_Num_64.f k l0 a1).bind fun t328 => (some (decide (t328 ≥ 0)))
theorem seq_Num_33.mono : ∀ a0 a1 k, LeO (seq_Num_33.f k a0 a1) (seq_Num_33.f (k + 1) a0 a1) := by
 intro a0 a1 k
 unfold seq_Num_33.f
 repeat' first
   | (with_reducible exact seq_Num_64.mono _ _ _)
   | (with_reducible exact LeO.refl _)
   | (with_reducible exact LeO.none _)
   | (with_reducible refine LeO.ite ?_ ?_)
   | (with_reducible refine LeO.bind ?_ (fun _ => ?_))
   | exact seq_Num_64.mono _ _ _
   | exact LeO.none _
   | refine LeO.ite ?_ ?_
   | refine LeO.bind ?_ (fun _ => ?_)
theorem seq_Num_33.calls (k : Nat) (A0 : Option Addr) (c0 : Nat) (l0 : List Int) (a1 : Int) (r : Bool) (w : World) (hr0 : Kd.C (Kd.int .u16) w A0 l0.length l0) (hc0 : l0.length ≤ c0) (h : seq_Num_33.f k l0 a1 = some r) :
  Calls Tryz.prog 33 #[.slice A0 l0.length c0, .int .u16 a1] w fun e w' => e = .returned (.bool r) ∧ Drawn0 w w' := by
 have HR0 := ax hr0
 have HC0 := ax hc0
 clear hr0 hc0
 have H : ((seq_Num_64.f k l0 a1).bind fun t328 => (some (decide (t328 ≥ 0)))) = some r := h
 clear h
 replace H := Option.bind_eq_some_iff.mp H
 obtain ⟨t328, A30, H⟩ := H
 replace H : (some (decide (t328 ≥ 0))) = some r := H
 have A3 := ax A30
 clear A30
 obtain rfl := Option.some.inj H
 go_enter Tryz.func33, Tryz.ntmps33
 go_wp2_with (first | ((with_reducible refine gate_callee (f := 64) rfl ?_); refine goesL_ (some 7) rfl rfl Tryz.func64 kr rfl #[.slice A0 l0.length c0, .int .u16 a1] rfl gl_ ?_; (with_reducible refine (seq_Num_64.calls k _ _ l0 a1 t328 _ ?side1 ?side2 A3.out).mono ?_); (case side1 => repeat (first | exact HR0.out | (with_reducible refine Kd.C_alloc ?_ _) | (with_reducible refine Kd.C_drewN ?_ _) | (with_reducible refine Kd.C_drew ?_))); (case side2 => exact HC0.out); rintro e w' ⟨rfl, ⟨nd, rfl⟩⟩; refine ⟨_, rfl, ?_⟩))
 go_ret
 exact ⟨rs_, dr_⟩
end
-- YtajiggmeappfaaaGreatDoorPSTick
theorem any_no {l : List (Int × Int)} {a : Int} (h : ∀ t, (a, t) ∉ l) : l.any (fun p => p.1 == a) = false := by
 rw [List.any_eq_false]
 rintro ⟨x, t⟩ hp hx
 have : x = a := by simpa using hx
 exact h t (this ▸ hp)
def akB (X : Nat → Nat) (ak : Nat → Bool) (lo n x : Nat) : Bool := (List.range n).any fun i => decide (lo ≤ i) && X i == x && ak i
theorem akB_eq {X : Nat → Nat} {ak : Nat → Bool} {lo n : Nat} (hx : ∀ i j, lo ≤ i → i < n → lo ≤ j → j < n → X i = X j → i = j) {i : Nat} (hi : lo ≤ i) (hn : i < n) : akB X ak lo n (X i) = ak i := by
 unfold akB
 cases h : ak i with
 | true =>
  rw [List.any_eq_true]
  exact ⟨i, List.mem_range.2 hn, by simp [hi, h]⟩
 | false =>
  rw [List.any_eq_false]
  intro j hj hc
  rw [List.mem_range] at hj
  simp only [Bool.and_eq_true, decide_eq_true_eq, beq_iff_eq] at hc
  have := hx j i hc.1.1 hj hi hn hc.1.2
  rw [this, h] at hc
  exact absurd hc.2 (by decide)
def undr (ak : Nat → Bool) (lo n : Nat) : List Nat := ((List.range' lo (n - lo)).take 3).filter fun i => !ak i
theorem undr_mem {ak : Nat → Bool} {lo n i : Nat} : i ∈ undr ak lo n ↔ lo ≤ i ∧ i < n ∧ i < lo + 3 ∧ ak i = false := by
 unfold undr
 rw [List.mem_filter, List.mem_take_iff_getElem]
 simp only [List.length_range', List.getElem_range', Bool.not_eq_true']
 constructor
 ·rintro ⟨⟨j, hj, e⟩, ha⟩
  exact ⟨by omega, by omega, by omega, ha⟩
 ·rintro ⟨h1, h2, h3, ha⟩
  exact ⟨⟨i - lo, by omega, by omega⟩, ha⟩
theorem undr_nd (ak : Nat → Bool) (lo n : Nat) : (undr ak lo n).Nodup := ((List.nodup_range' (s := lo) (n := n - lo) (step := 1)).sublist (List.take_sublist _ _)).sublist List.filter_sublist
theorem undr_len (ak : Nat → Bool) (lo n : Nat) : (undr ak lo n).length ≤ 3 := by
 unfold undr
 have h1 := List.length_filter_le (fun i => !ak i) ((List.range' lo (n - lo)).take 3)
 have h2 := List.length_take_le 3 (List.range' lo (n - lo))
 omega
theorem undr_row {X : Nat → Nat} {ak : Nat → Bool} {lo n : Nat} (hx : ∀ i j, lo ≤ i → i < n → lo ≤ j → j < n → X i = X j → i = j) : ((rowX X lo n).take 3).filter (fun x => !akB X ak lo n x) = (undr ak lo n).map X := by
 unfold rowX undr
 rw [← List.map_take, List.filter_map]
 refine congrArg _ (List.filter_congr (fun i hi => ?_))
 have := List.mem_of_mem_take hi
 rw [List.mem_range'_1] at this
 show (!akB X ak lo n (X i)) = _
 rw [akB_eq hx (by omega) (by omega)]
theorem ncont_f (L : List Int) (x : Int) (h : L.length ≤ 3) : seq_Num_33.f 10 L x = some (L.contains x) := by
 match L, h with
 | [], _ => rfl
 | [a], _ => by_cases h1 : x = a <;> simp_all [seq_Num_33.f, seq_Num_64.f, seq_Num_64.l0, rd, wrap64]
 | [a, b], _ => by_cases h1 : x = a <;> by_cases h2 : x = b <;> simp_all [seq_Num_33.f, seq_Num_64.f, seq_Num_64.l0, rd, wrap64]
 | [a, b, c], _ => by_cases h1 : x = a <;> by_cases h2 : x = b <;> by_cases h3 : x = c <;> simp_all [seq_Num_33.f, seq_Num_64.f, seq_Num_64.l0, rd, wrap64]
structure SENT (w : World) (first : Int) (Ms : Nat → List Int) (es : List (Nat × Nat × Nat)) (is : List Nat) : Prop where
 len : is.length = es.length
 frm : ∀ (k : Nat) (e : Nat × Nat × Nat) (i : Nat), es[k]? = some e → is[k]? = some i → FRM w (nm first i) (Ms i) e
theorem SENT.same {w w' : World} {first : Int} {Ms : Nat → List Int} {es : List (Nat × Nat × Nat)} {is : List Nat} (h : SENT w first Ms es is) (hs : Same5 w w') : SENT w' first Ms es is := ⟨h.len, fun k e i h1 h2 => (h.frm k e i h1 h2).same hs⟩
theorem SENT.more {w : World} {first : Int} {Ms : Nat → List Int} {es es' : List (Nat × Nat × Nat)} {is : List Nat} (h : SENT w first Ms es is) {i : Nat} (h' : ∀ e ∈ es', FRM w (nm first i) (Ms i) e) : SENT w first Ms (es ++ es') (is ++ List.replicate es'.length i) := by
 refine ⟨by simp [h.len], fun k e j h1 h2 => ?_⟩
 by_cases c : k < es.length
 ·rw [List.getElem?_append_left c] at h1
  rw [List.getElem?_append_left (by rw [h.len]; exact c)] at h2
  exact h.frm k e j h1 h2
 ·rw [List.getElem?_append_right (by omega)] at h1
  rw [List.getElem?_append_right (by rw [h.len]; omega)] at h2
  have := List.eq_of_mem_replicate (List.mem_of_getElem? h2)
  subst this
  exact h' e (List.mem_of_getElem? h1)
theorem stick_calls {w : World} {S sb g mp gk : Nat} {first : Int} {n lo : Nat} {Ms : Nat → List Int} {X : Nat → Nat} {Q : Nat → Option Nat} {ak : Nat → Bool} {now : Int} {V : Nat → Value} {ts : List (Int × Int)} (h : SD w S sb g mp gk first n lo Ms X Q ak (fun _ => now) now V ts (fun _ => False)) (hnow : 0 ≤ now ∧ now ≤ 500) (hSw : S ≤ w.heap.size) (hlo : lo < n → ak lo = false) :
  Calls Tryz.prog 11 #[.pointer (some ⟨sb, 0, none⟩)] w fun e w' => ∃ (v : Value) (es : List (Nat × Nat × Nat)) (is : List Nat) (Q' : Nat → Option Nat) (V' : Nat → Value) (ts' : List (Int × Int)), e = .returned v ∧
   Kd.R kSl 37 w' w.heap.size (fun _ => True) v es ∧ es.length ≤ 12 ∧ SENT w' first Ms es is ∧ (∀ i ∈ is, lo ≤ i ∧ i < n ∧ i < lo + 3 ∧ (Q' i).isSome = true) ∧
   SD w' S sb g mp gk first n lo Ms X Q' ak (fun _ => now + 1) (now + 1) V' ts' (fun _ => False) ∧ (∀ i, (Q i).isSome = true → (Q' i).isSome = true) ∧ KT sTs [mp] S w w' ∧
   (lo < n → lo ∈ is ∨ ∃ t, (nm first lo, t) ∈ ts ∧ (nm first lo, t) ∈ ts') := by
 obtain ⟨off, cap, lv, rn, hsb, hkr, hlv, hrn⟩ := h.box
 have hc5 : w.cell? ⟨sb, 3 + 2, none⟩ = some (.pointer (some ⟨g, 0, none⟩)) := blk_cell hsb 5
 have HH := ax h
 have HWT := ax (wtick_calls h.wh ⟨hnow.1, by omega⟩ (fun p hp hm => by
  obtain ⟨i, _, _, _, _, _, _, h1, h2⟩ := h.tim p hp
  omega) h.few)
 have HN := ax (And.intro hnow (And.intro hSw hlo))
 clear h hnow hSw hlo hsb hkr hlv hrn
 go_enter Tryz.func11, Tryz.ntmps11
 go_wp2_with (first
  | (go_at_call 30; refine Aside0.out ?_)
  | fail)
 refine ax ?_
 refine HWT.out.mono ?_
 rintro e w1 ⟨vd, L, V1, rfl, hr1, hL1, hL3, hw1, hv1, hk1⟩
 have HK1 := ax (KT.of_keep hk1 (wh_typed HH.out.wh (Ts := sTs) (by decide) (by decide)))
 have hd1 := HH.out.ticked hk1 hw1
 obtain ⟨Ad, cd, rfl⟩ := Kd.R_slice hr1
 obtain ⟨nd, hnd⟩ : ∃ nd, nd = L.length := ⟨_, rfl⟩
 rw [← hnd] at hr1 ⊢
 have HDU1 := ax (show Kd.R (Kd.int .u16) seqT w1 w.heap.size (fun _ => True) (.slice Ad nd cd) L ∧ ∀ k, (Value.slice Ad nd cd).ownBlock = some k → ¬ WF g mp V1 k from ⟨hr1, fun k hk hf => by
  have h1 := Kd.R_base hr1 k hk
  have h2 : WF g mp V k := hf.imp id (fun hf => hf.imp id (fun ⟨j, hj, e⟩ => ⟨j, hj, by rw [← hv1]; exact e⟩))
  have := (HH.out.wh.foot k h2).1
  omega⟩)
 have HLL := ax (And.intro hL1 (And.intro hL3 hnd))
 obtain ⟨off, cap, lv, rn, hsb, hkr, hlv, hrn⟩ := hd1.box
 have HUN := ax (under_calls hsb hkr (akB X ak lo n) (fun x hx => by
  obtain ⟨i, h1, h2, rfl⟩ := rowX_mem hx
  obtain ⟨p, hp, _⟩ := (hd1.en i h1 h2).ent
  rw [akB_eq HH.out.xinj h1 h2]
  exact blk_cell hp 7))
 have HD1 := ax hd1
 clear hr1 hL1 hL3 hw1 hv1 hk1 hd1 hnd hsb hkr hlv hrn hc5 HWT
 go_wp2_with (first
  | (go_at_call 31; refine Aside0.out ?_)
  | fail)
 refine ax ?_
 refine HUN.out.mono ?_
 rintro e w2 ⟨vu, rfl, hru, hbu⟩
 rw [undr_row HH.out.xinj] at hru
 obtain ⟨Au, cu, rfl⟩ := Kd.R_slice hru
 obtain ⟨us, hus⟩ : ∃ us, us = undr ak lo n := ⟨_, rfl⟩
 have HUS := ax (show ∀ j ∈ us, lo ≤ j ∧ j < n ∧ j < lo + 3 ∧ ak j = false from fun j hj => undr_mem.1 (by rw [← hus]; exact hj))
 have HUI := ax (show ∀ j, lo ≤ j → j < n → j < lo + 3 → ak j = false → j ∈ us from fun j h1 h2 h3 h4 => by rw [hus]; exact undr_mem.2 ⟨h1, h2, h3, h4⟩)
 have HND := ax (show ∀ i (h : i < us.length), us[i] ∉ us.take i from fun i h hm => by
  have hnd : us.Nodup := by rw [hus]; exact undr_nd ak lo n
  have hd : us.drop i = us[i] :: us.drop (i + 1) := List.drop_eq_getElem_cons h
  have hnd' : (us.take i ++ us.drop i).Nodup := by rw [List.take_append_drop]; exact hnd
  rw [hd, List.nodup_append] at hnd'
  exact hnd'.2.2 _ hm _ List.mem_cons_self rfl)
 have hm3 : us.length ≤ 3 := by rw [hus]; exact undr_len ak lo n
 rw [← hus] at hru ⊢
 clear hus
 obtain ⟨m, hm⟩ : ∃ m, m = (us.map X).length := ⟨_, rfl⟩
 have HM := ax (show m = us.length by rw [hm, List.length_map])
 rw [← hm] at hru ⊢
 have hm3 : m ≤ 3 := by rw [HM.out]; exact hm3
 have HUR2 := ax (Kd.R_lower hru (HK1.out.size))
 have HD2 := ax (HD1.out.below hbu)
 have HDU2 := ax (And.intro (Kd.R_below HDU1.out.1 hbu) HDU1.out.2)
 have HK2_ := ax (HK1.out.next (Keep.of_below hbu))
 clear hm hru hbu HUN HD1 HDU1 HK1
 go_wp2_with fail
 go_loopw [17, 4] (fun v17 v4 wr => ∃ (i : Nat) (es : List (Nat × Nat × Nat)) (is : List Nat) (Q2 : Nat → Option Nat) (V2 : Nat → Value) (ts2 : List (Int × Int)) (T2 : Nat → Int) (late2 : Nat → Prop), v17 = .int .i64 (i : Int) ∧ i ≤ m ∧ Aside0 (Kd.R kSl 37 wr w.heap.size (fun _ => True) v4 es) ∧ Aside0 (SENT wr first Ms es is) ∧ Aside0 (es.length ≤ 4 * i) ∧ Aside0 (∀ j ∈ is, j ∈ us.take i ∧ (Q2 j).isSome = true) ∧ Aside0 ((∀ j, (Q j).isSome = true → (Q2 j).isSome = true) ∧ (∀ j ∈ us.take i, (Q2 j).isSome = true) ∧ (∀ p ∈ ts2, p ∈ ts ∨ ∃ j ∈ is, p.1 = nm first j) ∧ ∀ j, j ∉ us.take i → Q2 j = Q j) ∧ Aside0 (SD wr S sb g mp gk first n lo Ms X Q2 ak T2 (now + 1) V2 ts2 late2) ∧ Aside0 ((∀ j, T2 j ≤ now + 1 ∧ (j ∉ us.take i → T2 j ≤ now)) ∧ ∀ j, late2 j ↔ (((lo ≤ j ∧ j < n) ∧ (nm first j, now + 1) ∈ ts) ∧ j ∉ us.take i)) ∧ Aside0 (KT sTs [mp] S w wr) ∧ Aside0 (Kd.R (Kd.int .u16) seqT wr w.heap.size (fun _ => True) (.slice Ad nd cd) L ∧ ∀ k, (Value.slice Ad nd cd).ownBlock = some k → ¬ WF g mp V2 k) ∧ Aside0 (Kd.R kPt 93 wr w.heap.size (fun _ => True) (.slice Au m cu) (us.map X))) (fun v17 _ _ => m - (intOf v17).toNat)
 case atStart =>
  exact ⟨0, [], [], Q, V1, _, fun _ => now, _, by simp, by omega, ⟨Kd.R_nil _ _ _ _ _⟩, ⟨⟨rfl, fun k e j h1 => by simp at h1⟩⟩, ⟨by simp⟩, ⟨fun j hj => by cases hj⟩, ⟨fun j hj => hj, fun j hj => by simp at hj, fun p hp => .inl (List.mem_filter.1 hp).1, fun j _ => rfl⟩, HD2, ⟨fun j => ⟨(by omega : now ≤ now + 1), fun _ => Int.le_refl now⟩, fun j => by simp⟩, HK2_, HDU2, HUR2⟩
 case round =>
  clear HD2 HK2_ HDU2 HUR2
  obtain ⟨i, es, is, Q2, V2, ts2, T2, late2, rfl, hi, HU, HSE, HLE, HIS, HMO, HD, HT, HK, HDU, HUR⟩ := hrel
  by_cases hlt : i < m
  ·have hlb : decide ((i : Int) < (m : Int)) = true := decide_eq_true (by omega)
   have hi0 : (0 : Int) ≤ (i : Int) := by omega
   have hin : (i : Int) < (m : Int) := by omega
   have hil : i < us.length := by rw [← HM.out]; exact hlt
   have HI := ax hil
   obtain ⟨ad, rfl, hcx0⟩ := ReadsOf.at_ (Kd.reads_of_C (enc := encP) (d := (0 : Nat)) (h1 := fun _ => rfl) (Kd.R_reads' HUR.out).2.2) (i : Int) hi0 (by rw [List.length_map]; omega)
   rw [Int.toNat_natCast] at hcx0
   have hcx : wr.cell? (ad.add i) = some (.pointer (some ⟨X us[i], 0, none⟩)) := by
    have e : rdOf 0 (us.map X) (i : Int) = X us[i] := by simp [rdOf, hil]
    rw [e] at hcx0; exact hcx0
   clear hcx0
   obtain ⟨r1, r2, r3, r4⟩ := HUS.out _ (List.getElem_mem hil)
   obtain ⟨off, cap, lv, rn, hsb, hkr, hlv, hrn⟩ := HD.out.box
   obtain ⟨p, hen, hpt⟩ := (HD.out.en _ r1 r2).ent
   rw [r4] at hen
   have HSB := ax (And.intro hsb (And.intro hlv hrn))
   obtain ⟨kept, hkept⟩ : ∃ kept, kept = kv gk off cap (rowX X lo n) := ⟨_, rfl⟩
   rw [← hkept] at HSB
   have HNO : Aside0 ((Q2 us[i] = none ∨ (nm first us[i]) ∈ L) → ts2.any (fun p => p.1 == nm first us[i]) = false) := ⟨fun hc => any_no (fun t ht => by
    rcases hc with hc | hc
    ·obtain ⟨j, g1, g2, g3, g4, g5, g6, g7⟩ := HD.out.tim _ ht
     have e := nm_inj (by have := HD.out.le; omega) (by have := HD.out.le; omega) (show nm first us[i] = nm first j from g4)
     rw [← e, hc] at g6; cases g6
    ·exact HD.out.lt us[i] ((HT.out.2 us[i]).2 ⟨⟨⟨r1, r2⟩, (HLL.out.1 _).1 hc⟩, HND.out i hil⟩) t ht)⟩
   obtain ⟨q0, hq0⟩ : ∃ q0, q0 = Q2 us[i] := ⟨_, rfl⟩
   have HPL : Aside0 (∀ q, q0 = some q → S ≤ q ∧ ∃ b t s, PLN wr q b t s ∧ (1 ≤ b ∧ b ≤ 4) ∧ (0 ≤ t ∧ t ≤ now) ∧ (0 ≤ s ∧ s ≤ 4 * now)) := ⟨fun q hq => by
    rw [hq0] at hq
    obtain ⟨b, t, s, g1, g2, g3, g4⟩ := (HD.out.en _ r1 r2).pln q hq
    have := (HT.out.1 us[i]).2 (HND.out i hil)
    exact ⟨HD.out.low.2.2 _ q r1 r2 hq, b, t, s, g1, g2, by omega, by omega⟩⟩
   have HWR := ax HD.out.wh
   have HMM := ax (show (byt (Ms us[i]) ∧ (Ms us[i]).length ≤ 64) ∧ (0 ≤ nm first us[i] ∧ nm first us[i] ≤ 65535) ∧ ts2.length < 100 from ⟨⟨(HD.out.byts _ r2).1, by have := (HD.out.byts _ r2).2; omega⟩, nm_rng _ _, by have := HD.out.few; omega⟩)
   rw [← hq0] at hen HNO
   have HQ0 := ax hq0
   have HPW := ax hpt
   obtain ⟨x, hx⟩ : ∃ x, x = X us[i] := ⟨_, rfl⟩
   obtain ⟨num, hnum⟩ : ∃ num, num = nm first us[i] := ⟨_, rfl⟩
   obtain ⟨ln, hln⟩ : ∃ ln, ln = (Ms us[i]).length := ⟨_, rfl⟩
   rw [← hx] at hcx hen
   rw [← hnum] at hen HNO
   rw [← hln] at hen
   have HJ := ax (show x = X (us[i]'hil) ∧ num = nm first (us[i]'hil) ∧ ln = (Ms (us[i]'hil)).length from ⟨hx, hnum, hln⟩)
   have HX0 := ax hen
   have HCT := ax (fun w' (hb : Below wr.heap.size wr w') => seq_Num_33.calls 10 Ad cd L num (L.contains num) w' (Kd.C_below (Kd.R_reads' HDU.out.1).2.2 hb) (by have := (Kd.R_reads' HDU.out.1).2.1; have := HLL.out.2.2; omega) (ncont_f L num HLL.out.2.1))
   rw [← HLL.out.2.2] at HCT
   obtain ⟨ct, hct⟩ : ∃ ct, ct = L.contains num := ⟨_, rfl⟩
   rw [← hct] at HCT
   have HCQ := ax hct
   clear hq0 hx hnum hln hct hpt hsb hlv hrn hkr hkept r1 r2 r3 r4
   cases q0 with
   | none =>
    have HBG := ax (sbegin_new HX0.out HSB.out.1 HSB.out.2.1 HSB.out.2.2)
    clear hen
    go_wp2_with (first
     | (go_at_call 32; refine HBG.out.mono ?_; rintro e w2 ⟨q, b, rfl, h1, h2, h3, h4, h5, h6⟩; have HB2 := ax (And.intro h1 (And.intro h2 (And.intro h3 (And.intro h4 (And.intro h5 h6))))); clear h1 h2 h3 h4 h5 h6)
     | (go_at_call 34; refine Aside0.out ?_)
     | fail)
    obtain ⟨t, s, ht0, hs0, hpl2⟩ : ∃ t s : Int, (0 ≤ t ∧ t ≤ now) ∧ (0 ≤ s ∧ s ≤ 4 * now) ∧ PLN w2 q b t s := ⟨0, 0, by have := HN.out; omega, by have := HN.out; omega, HB2.out.2.1⟩
    have HK2 := ax HB2.out.2.2.2.2.2
    have hwh2 := HWR.out.keep (fun k hk => HK2.out.block k (HWR.out.foot k hk).1 (fun e => HWR.out.typed HX0.out (by decide) (by decide) (by have e : k = x := e; rw [← e]; exact hk)))
    have hsb2 := (HK2.out.block sb (blk_lt HSB.out.1) (fun e => by have e : sb = x := e; subst e; exact two_types HX0.out HSB.out.1 (by decide))).trans HSB.out.1
    have HX2 := ax (And.intro HB2.out.1 (And.intro hpl2 (And.intro hsb2 hwh2)))
    have HPT := ax (fun v hv => (HPW.out v hv).same (fun k cs hk => HK2.out.block k (blk_lt hk) (fun e => by have e : k = x := e; subst e; exact two_types hk HX0.out (by decide))))
    have HBD := ax (And.intro HB2.out.2.2.1 (And.intro ht0 hs0))
    have HQ2 := ax (show (Q2 (us[i]'hil) = some q ∨ wr.heap.size ≤ q) ∧ S ≤ q from ⟨.inr HB2.out.2.2.2.1, by have h1 := HK.out.size; have h2 := HB2.out.2.2.2.1; have h3 := HN.out.2.1; omega⟩)
    have hno := HNO.out (.inl (by first | rfl | trivial))
    have htr := stry_calls (S := S) (sb := sb) (x := x) (num := nm first (us[i]'hil)) (M := Ms (us[i]'hil)) (p := p) (q := q) (ack := false) (b := b) (t := t) (s := s) (now := now + 1) (V := V2) (ts := ts2) (by rw [← HJ.out.2.1, ← HJ.out.2.2]; exact HX2.out.1) HPT.out HMM.out.1 HMM.out.2.1 HX2.out.2.1 HBD.out.1 (by have := HBD.out.2.1; have := HN.out.1; omega) (by have := HBD.out.2.2; have := HN.out.1; omega) HX2.out.2.2.1 HX2.out.2.2.2 (by rw [← HJ.out.2.1]; exact hno) HMM.out.2.2 (by have := HN.out.1; omega)
    rw [← HJ.out.2.1] at htr
    have HTRY := ax htr
    clear htr hno
    refine ax ?_
    refine HTRY.out.mono ?_
    rintro e w3 ⟨v3, es3, V3, nn, s3, B3, rfl, h1, h2, h3, h4, h5, h6, h7, h8, h9, h10, h11⟩
    obtain ⟨A3, c3, rfl⟩ := Kd.R_slice h2
    obtain ⟨m3, hm3⟩ : ∃ m3, m3 = es3.length := ⟨_, rfl⟩
    have HR3 := ax (Kd.R_reads' h2).2.2
    rw [← hm3] at HR3 ⊢
    have HM3 := ax hm3
    have HF3 := ax (And.intro h4 h5)
    have HNE := ax h3
    have HP3 := ax (And.intro h6 (And.intro h7 h8))
    have HW3 := ax (And.intro h9 (And.intro h10 h11))
    have h53 : Same5 w2 w3 := Same5.of_keep h11 (fun k cs hk hc => by
     rcases hk with e | e
     ·subst e; exact two_types hc HX2.out.2.1 (by decide)
     ·exact HX2.out.2.2.2.typed hc (by decide) (by decide) e)
    have H53 := ax h53
    have HU3 := ax (R_keepS (R_keepS HU.out (fun k hk => by
     obtain ⟨cs', hcs'⟩ := Kd.R_typed HU.out k hk
     exact HK2.out.block k (blk_lt hcs') (fun e => by
      have e : k = x := e; subst e; exact two_types hcs' HX0.out (by decide)))) (fun k hk => by
     obtain ⟨cs', hcs'⟩ := Kd.R_typed HU.out k hk
     have hcs2 : w2.heap[k]? = some (.cells cs' 37 (0, 0)) := (HK2.out.block k (blk_lt hcs') (fun e => by
      have e : k = x := e; subst e; exact two_types hcs' HX0.out (by decide))).trans hcs'
     exact h11.block k (blk_lt hcs2) (fun e => by
      rcases e with e | e
      ·subst e; exact two_types hcs2 HX2.out.2.1 (by decide)
      ·exact HX2.out.2.2.2.typed hcs2 (by decide) (by decide) e)))
    have HS3 := ax (show w.heap.size ≤ w3.heap.size from Nat.le_trans HK.out.size (Nat.le_trans HK2.out.size h11.size))
    have HL3 := ax (show (es.length + m3) * 24 ≤ 140737488355328 by have := HLE.out; rw [← hm3] at h4; omega)
    clear h1 h2 h3 h4 h5 h6 h7 h8 h9 h10 h11 h53 hm3 HTRY
    go_wp2_with ((with_reducible refine gate_builtin (b := .append) (xs := #[.tmp 32, .tmp 35]) rfl ?_); at_builtin; refine Kd.R_append_rows kSl (w0 := w3) w.heap.size rfl (.tmp 32) (.tmp 35) 23 37 (.slice none 0 0) 24 rfl Tryz.underlying23 sl_info rfl (by decide) (by decide) u4 es es3 A3 m3 c3 (fun _ => True) (fun _ => False) (by first | rfl | (go_simp; done)) (by first | rfl | (go_simp; done)) HU3.out HR3.out (fun _ _ h => h) (fun _ h => h.elim) (fun _ _ => trivial) (Below.refl _ _) HS3.out HL3.out ?_; intro v5 w4 ho hb hg hat; have HU4 := ax ho; have HG4 := ax hg; have HAT := ax hat; clear ho hb hg hat)
    go_roundw
    case rel =>
     have hD := HD.out
     have hil := HI.out
     have hw3 := HW3.out
     have hx2 := HX2.out
     have hq2 := HQ2.out
     have hu3 := HU3.out
     have h42 : ∀ k cs (T : TypeId), wr.heap[k]? = some (Obj.cells cs T (0, 0)) → T ≠ 96 ∨ k ≠ x → T ≠ 218 ∨ k ≠ q → T ≠ 137 → T ≠ seqT → T ≠ 37 → w4.heap[k]? = wr.heap[k]? := fun k cs T hk c1 c2 c3 c4 c5 => by
      have g1 : w2.heap[k]? = wr.heap[k]? := HK2.out.block k (blk_lt hk) (fun e => by
       have e : k = x := e
       rcases c1 with c1 | c1
       ·subst e; exact two_types hk HX0.out c1
       ·exact c1 e)
      have g1' := g1.trans hk
      have g2 : w3.heap[k]? = w2.heap[k]? := hw3.2.2.block k (blk_lt g1') (fun e => by
       rcases e with e | e
       ·rcases c2 with c2 | c2
        ·subst e; exact two_types g1' hx2.2.1 c2
        ·exact c2 e
       ·exact hx2.2.2.2.typed g1' c3 c4 e)
      have g2' := g2.trans g1'
      have g3 : w4.heap[k]? = w3.heap[k]? := HG4.out.block k (blk_lt g2') (fun e => by
       obtain ⟨cs', hcs'⟩ := Kd.R_typed hu3 k e.symm
       exact two_types g2' hcs' c5)
      exact g3.trans (g2.trans g1)
     have h54 : Same5 wr w4 := fun k cs hk => h42 k cs _ hk (.inl (by decide)) (.inl (by decide)) (by decide) (by decide) (by decide)
     have h54' : Same5 w3 w4 := fun k cs hk => HG4.out.block k (blk_lt hk) (fun e => by
      obtain ⟨cs', hcs'⟩ := Kd.R_typed hu3 k e.symm
      exact two_types hk hcs' (by decide))
     have hwf4 : ∀ k, WF g mp V3 k → w4.heap[k]? = w3.heap[k]? := fun k hk => HG4.out.block k (hw3.1.foot k hk).1 (fun e => by
      obtain ⟨cs', hcs'⟩ := Kd.R_typed hu3 k e.symm
      exact hw3.1.typed hcs' (by decide) (by decide) hk)
     have hwh4 := hw3.1.keep hwf4
     have hx23 : w3.heap[x]? = w2.heap[x]? := hw3.2.2.block x (blk_lt hx2.1) (fun e => by
      rcases e with e | e
      ·rw [e] at hx2; exact two_types hx2.1 hx2.2.1 (by decide)
      ·exact hx2.2.2.2.typed hx2.1 (by decide) (by decide) e)
     have hx34 : w4.heap[x]? = w3.heap[x]? := HG4.out.block x (blk_lt (hx23.trans hx2.1)) (fun e => by
      obtain ⟨cs', hcs'⟩ := Kd.R_typed hu3 x e.symm
      exact two_types (hx23.trans hx2.1) hcs' (by decide))
     have hq34 : w4.heap[q]? = w3.heap[q]? := HG4.out.block q (blk_lt HP3.out.1) (fun e => by
      obtain ⟨cs', hcs'⟩ := Kd.R_typed hu3 q e.symm
      exact two_types HP3.out.1 hcs' (by decide))
     have hen4 : ENT w4 x num ln p (some q) false := (hx34.trans hx23).trans hx2.1
     have hpl4 : PLN w4 q b (t + 1) s3 := hq34.trans HP3.out.1
     have hEN : EN w4 (X (us[i]'hil)) (nm first (us[i]'hil)) (Ms (us[i]'hil)) (some q) false (now + 1) := by
      refine ⟨⟨p, ?_, fun v hv => (HPT.out v hv).same (fun k cs hk => ?_)⟩, fun k hk => ?_⟩
      ·rw [← HJ.out.1, ← HJ.out.2.1, ← HJ.out.2.2]; exact hen4
      ·exact ((h54' k cs ((H53.out k cs hk).trans hk))).trans (H53.out k cs hk)
      ·injection hk with hk; subst hk
       have h1 := HBD.out
       have h2 := HP3.out
       exact ⟨b, t + 1, s3, hpl4, h1.1, by omega, by omega⟩
     have hmem : us[i]'hil ∈ us := List.getElem_mem hil
     obtain ⟨r1, r2, r3, r4⟩ := HUS.out _ hmem
     have hnew : us[i]'hil ∉ us.take i := HND.out i hil
     have htk : us.take (i + 1) = us.take i ++ [us[i]'hil] := List.take_succ_eq_append_getElem hil
     have hin1 : us[i]'hil ∈ us.take (i + 1) := by rw [htk]; exact List.mem_append_right _ (List.mem_singleton.2 rfl)
     have hsd := hD.tried r1 r2 r3 r4 h54 (fun cs hc => h42 gk cs _ hc (.inl (by decide)) (.inl (by decide)) (by decide) (by decide) (by decide)) (T' := now + 1) hq2.1 hq2.2 hEN
      (fun k cs hk hne => h42 k cs _ hk (.inr (by rw [HJ.out.1]; exact hne)) (.inl (by decide)) (by decide) (by decide) (by decide)) (fun k cs hk hne => h42 k cs _ hk (.inl (by decide)) (.inr hne) (by decide) (by decide) (by decide))
      (fun cs hc => h42 sb cs _ hc (.inl (by decide)) (.inl (by decide)) (by decide) (by decide) (by decide)) (t := now + 1 + nn) (by have := HP3.out.2.2; omega) (by rw [← HJ.out.2.1]; exact hwh4)
     refine ⟨i + 1, es ++ es3, is ++ List.replicate es3.length (us[i]'hil), _, _, _, _, _, by simp, by omega, HU4, ⟨?_⟩, ⟨?_⟩, ⟨?_⟩, ⟨?_⟩, ⟨hsd⟩, ⟨?_⟩, ⟨?_⟩, ⟨?_⟩, ⟨?_⟩⟩
     ·exact (HSE.out.same h54).more (fun e he => by
       have := (HF3.out.2 e he).same h54'
       rw [HJ.out.2.1] at this
       exact this)
     ·rw [List.length_append]; have := HLE.out; have := HF3.out.1; omega
     ·intro j hj
      rcases List.mem_append.1 hj with hj | hj
      ·obtain ⟨g1, g2⟩ := HIS.out j hj
       refine ⟨by rw [htk]; exact List.mem_append_left _ g1, ?_⟩
       by_cases c : j = us[i]'hil <;> simp [c, g2]
      ·have := List.eq_of_mem_replicate hj
       subst this
       exact ⟨hin1, by simp⟩
     ·refine ⟨fun j hj => ?_, fun j hj => ?_, fun p hp => ?_, fun j hj => ?_⟩
      ·by_cases c : j = us[i]'hil
       ·simp [c]
       ·simp only [if_neg c]; exact HMO.out.1 j hj
      ·rw [htk] at hj
       by_cases c : j = us[i]'hil
       ·simp [c]
       ·simp only [if_neg c]
        rcases List.mem_append.1 hj with hj | hj
        ·exact HMO.out.2.1 j hj
        ·exact absurd (List.mem_singleton.1 hj) c
      ·rcases List.mem_append.1 hp with hp | hp
       ·rcases HMO.out.2.2.1 p hp with g1 | ⟨j, g1, g2⟩
        ·exact .inl g1
        ·exact .inr ⟨j, List.mem_append_left _ g1, g2⟩
       ·rw [List.mem_singleton] at hp; subst hp
        refine .inr ⟨us[i]'hil, List.mem_append_right _ ?_, rfl⟩
        have : es3.length ≠ 0 := fun e => HNE.out (List.length_eq_zero_iff.1 e)
        exact List.mem_replicate.2 ⟨this, rfl⟩
      ·have c : j ≠ us[i]'hil := fun e => hj (by rw [e]; exact hin1)
       simp only [if_neg c]
       exact HMO.out.2.2.2 j (fun h => hj (by rw [htk]; exact List.mem_append_left _ h))
     ·refine ⟨fun j => ?_, fun j => ?_⟩
      ·by_cases c : j = us[i]'hil
       ·simp only [c, if_true]; exact ⟨by omega, fun h => absurd hin1 h⟩
       ·simp only [if_neg c]
        exact ⟨(HT.out.1 j).1, fun h => (HT.out.1 j).2 (fun h' => h (by rw [htk]; exact List.mem_append_left _ h'))⟩
      ·rw [HT.out.2 j, htk]
       simp only [List.mem_append, List.mem_singleton, not_or, and_assoc]
     ·refine HK.out.trans (F1 := fun k => TK sTs [mp] S wr k ∨ w.heap.size ≤ k) (fun k hk => hk.elim (fun hk => KT.grow HK.out k hk) .inr) ?_
      refine ⟨HG4.out.os.trans (hw3.2.2.os.trans HK2.out.os), HG4.out.tape.trans (hw3.2.2.tape.trans HK2.out.tape), HG4.out.output.trans (hw3.2.2.output.trans HK2.out.output), Nat.le_trans HK2.out.size (Nat.le_trans hw3.2.2.size HG4.out.size), fun k hk hF => ?_⟩
      have g0 : ¬ TK sTs [mp] S wr k := fun h => hF (.inl h)
      have g1 : w2.heap[k]? = wr.heap[k]? := HK2.out.block k hk (fun e => by
       have e : k = x := e
       subst e
       exact g0 ⟨by rw [HJ.out.1]; exact hD.low.2.1 _ r1 r2, .inr ⟨_, _, HX0.out, by decide⟩⟩)
      have g2 : w3.heap[k]? = w2.heap[k]? := hw3.2.2.block k (Nat.lt_of_lt_of_le hk HK2.out.size) (fun e => by
       rcases e with e | e
       ·subst e
        rcases hq2.1 with c | c
        ·obtain ⟨b', t', s', hp', _⟩ := (hD.en _ r1 r2).pln k c
         exact g0 ⟨hq2.2, .inr ⟨_, _, hp', by decide⟩⟩
        ·omega
       ·have := wh_typed hx2.2.2.2 (Ts := sTs) (by decide) (by decide) k (Nat.lt_of_lt_of_le hk HK2.out.size) e
        exact g0 ⟨this.1, this.2.imp id (fun ⟨cs, T, c1, c2⟩ => ⟨cs, T, g1.symm.trans c1, c2⟩)⟩)
      have g3 : w4.heap[k]? = w3.heap[k]? := HG4.out.block k (Nat.lt_of_lt_of_le hk (Nat.le_trans HK2.out.size hw3.2.2.size)) (fun e => hF (.inr (Kd.R_base hu3 k e.symm)))
      exact g3.trans (g2.trans g1)
     ·have hdd : ∀ k, (Value.slice Ad nd cd).ownBlock = some k → w4.heap[k]? = wr.heap[k]? ∧ ¬ WF g mp V3 k := fun k hk => by
       obtain ⟨cs', hcs'⟩ := Kd.R_typed HDU.out.1 k hk
       have g1 : w2.heap[k]? = wr.heap[k]? := HK2.out.block k (blk_lt hcs') (fun e => by
        have e : k = x := e
        subst e; exact two_types hcs' HX0.out (by decide))
       have g1' := g1.trans hcs'
       have n2 : ¬ WF g mp V2 k := HDU.out.2 k hk
       have g2 : w3.heap[k]? = w2.heap[k]? := hw3.2.2.block k (blk_lt g1') (fun e => by
        rcases e with e | e
        ·subst e; exact two_types g1' hx2.2.1 (by decide)
        ·exact n2 e)
       have g2' := g2.trans g1'
       have g3 : w4.heap[k]? = w3.heap[k]? := HG4.out.block k (blk_lt g2') (fun e => by
        obtain ⟨c5, hc5⟩ := Kd.R_typed hu3 k e.symm
        exact two_types g2' hc5 (by decide))
       refine ⟨g3.trans (g2.trans g1), fun e => ?_⟩
       rcases hw3.2.1 k e with e | e
       ·exact n2 e
       ·have := blk_lt g1'; omega
      exact ⟨R_keepN HDU.out.1 (fun k hk => (hdd k hk).1), fun k hk => (hdd k hk).2⟩
     ·exact R_keepP HUR.out (fun k hk => by
       obtain ⟨cs', hcs'⟩ := Kd.R_typed HUR.out k hk
       exact h42 k cs' _ hcs' (.inl (by decide)) (.inl (by decide)) (by decide) (by decide) (by decide))
    case measure => simp [intOf]; omega
   | some q =>
    obtain ⟨hSq, b, t, s, hpl, hb, ht0, hs0⟩ := HPL.out q rfl
    have HPQ := ax (And.intro hSq (And.intro hpl (And.intro hb (And.intro ht0 hs0))))
    have HBG := ax (sbegin_old (sb := sb) HX0.out)
    clear hen hSq hpl hb ht0 hs0
    cases ct with
    | true =>
     go_wp2_with (first
      | (go_at_call 32; refine HBG.out.mono ?_; rintro e w5 ⟨rfl, hb⟩; have HB5 := ax hb; have hcn := blk_cell ((hb.block x (blk_lt HX0.out)).trans HX0.out) 0; clear hb)
      | (go_at_call 33; refine (HCT.out _ HB5.out).mono ?_; rintro e w2 ⟨rfl, hb⟩; have HB2 := ax (below_step HB5.out hb.below); clear hb)
      | (go_at_call 34; refine Aside0.out ?_)
      | fail)
     have HK2 : Aside0 (Keep (fun k => k = x) wr w2) := ⟨Keep.of_below HB2.out⟩
     have hx2 := (HB2.out.block x (blk_lt HX0.out)).trans HX0.out
     have HX2 := ax (And.intro hx2 (And.intro ((HB2.out.block q (blk_lt HPQ.out.2.1)).trans HPQ.out.2.1) (And.intro ((HB2.out.block sb (blk_lt HSB.out.1)).trans HSB.out.1) (HWR.out.below HB2.out))))
     have HPT := ax (fun v hv => (HPW.out v hv).below HB2.out)
     have HBD := ax (And.intro HPQ.out.2.2.1 (And.intro HPQ.out.2.2.2.1 HPQ.out.2.2.2.2))
     have HQ2 := ax (show (Q2 (us[i]'hil) = some q ∨ wr.heap.size ≤ q) ∧ S ≤ q from ⟨.inl HQ0.out.symm, HPQ.out.1⟩)
     have hno := HNO.out (.inr (by have := HCQ.out; simpa using this.symm))
     clear hx2
     have htr := stry_calls (S := S) (sb := sb) (x := x) (num := nm first (us[i]'hil)) (M := Ms (us[i]'hil)) (p := p) (q := q) (ack := false) (b := b) (t := t) (s := s) (now := now + 1) (V := V2) (ts := ts2) (by rw [← HJ.out.2.1, ← HJ.out.2.2]; exact HX2.out.1) HPT.out HMM.out.1 HMM.out.2.1 HX2.out.2.1 HBD.out.1 (by have := HBD.out.2.1; have := HN.out.1; omega) (by have := HBD.out.2.2; have := HN.out.1; omega) HX2.out.2.2.1 HX2.out.2.2.2 (by rw [← HJ.out.2.1]; exact hno) HMM.out.2.2 (by have := HN.out.1; omega)
     rw [← HJ.out.2.1] at htr
     have HTRY := ax htr
     clear htr hno
     refine ax ?_
     refine HTRY.out.mono ?_
     rintro e w3 ⟨v3, es3, V3, nn, s3, B3, rfl, h1, h2, h3, h4, h5, h6, h7, h8, h9, h10, h11⟩
     obtain ⟨A3, c3, rfl⟩ := Kd.R_slice h2
     obtain ⟨m3, hm3⟩ : ∃ m3, m3 = es3.length := ⟨_, rfl⟩
     have HR3 := ax (Kd.R_reads' h2).2.2
     rw [← hm3] at HR3 ⊢
     have HM3 := ax hm3
     have HF3 := ax (And.intro h4 h5)
     have HNE := ax h3
     have HP3 := ax (And.intro h6 (And.intro h7 h8))
     have HW3 := ax (And.intro h9 (And.intro h10 h11))
     have h53 : Same5 w2 w3 := Same5.of_keep h11 (fun k cs hk hc => by
      rcases hk with e | e
      ·subst e; exact two_types hc HX2.out.2.1 (by decide)
      ·exact HX2.out.2.2.2.typed hc (by decide) (by decide) e)
     have H53 := ax h53
     have HU3 := ax (R_keepS (R_keepS HU.out (fun k hk => by
      obtain ⟨cs', hcs'⟩ := Kd.R_typed HU.out k hk
      exact HK2.out.block k (blk_lt hcs') (fun e => by
       have e : k = x := e; subst e; exact two_types hcs' HX0.out (by decide)))) (fun k hk => by
      obtain ⟨cs', hcs'⟩ := Kd.R_typed HU.out k hk
      have hcs2 : w2.heap[k]? = some (.cells cs' 37 (0, 0)) := (HK2.out.block k (blk_lt hcs') (fun e => by
       have e : k = x := e; subst e; exact two_types hcs' HX0.out (by decide))).trans hcs'
      exact h11.block k (blk_lt hcs2) (fun e => by
       rcases e with e | e
       ·subst e; exact two_types hcs2 HX2.out.2.1 (by decide)
       ·exact HX2.out.2.2.2.typed hcs2 (by decide) (by decide) e)))
     have HS3 := ax (show w.heap.size ≤ w3.heap.size from Nat.le_trans HK.out.size (Nat.le_trans HK2.out.size h11.size))
     have HL3 := ax (show (es.length + m3) * 24 ≤ 140737488355328 by have := HLE.out; rw [← hm3] at h4; omega)
     clear h1 h2 h3 h4 h5 h6 h7 h8 h9 h10 h11 h53 hm3 HTRY
     go_wp2_with ((with_reducible refine gate_builtin (b := .append) (xs := #[.tmp 32, .tmp 35]) rfl ?_); at_builtin; refine Kd.R_append_rows kSl (w0 := w3) w.heap.size rfl (.tmp 32) (.tmp 35) 23 37 (.slice none 0 0) 24 rfl Tryz.underlying23 sl_info rfl (by decide) (by decide) u4 es es3 A3 m3 c3 (fun _ => True) (fun _ => False) (by first | rfl | (go_simp; done)) (by first | rfl | (go_simp; done)) HU3.out HR3.out (fun _ _ h => h) (fun _ h => h.elim) (fun _ _ => trivial) (Below.refl _ _) HS3.out HL3.out ?_; intro v5 w4 ho hb hg hat; have HU4 := ax ho; have HG4 := ax hg; have HAT := ax hat; clear ho hb hg hat)
     go_roundw
     case rel =>
      have hD := HD.out
      have hil := HI.out
      have hw3 := HW3.out
      have hx2 := HX2.out
      have hq2 := HQ2.out
      have hu3 := HU3.out
      have h42 : ∀ k cs (T : TypeId), wr.heap[k]? = some (Obj.cells cs T (0, 0)) → T ≠ 96 ∨ k ≠ x → T ≠ 218 ∨ k ≠ q → T ≠ 137 → T ≠ seqT → T ≠ 37 → w4.heap[k]? = wr.heap[k]? := fun k cs T hk c1 c2 c3 c4 c5 => by
       have g1 : w2.heap[k]? = wr.heap[k]? := HK2.out.block k (blk_lt hk) (fun e => by
        have e : k = x := e
        rcases c1 with c1 | c1
        ·subst e; exact two_types hk HX0.out c1
        ·exact c1 e)
       have g1' := g1.trans hk
       have g2 : w3.heap[k]? = w2.heap[k]? := hw3.2.2.block k (blk_lt g1') (fun e => by
        rcases e with e | e
        ·rcases c2 with c2 | c2
         ·subst e; exact two_types g1' hx2.2.1 c2
         ·exact c2 e
        ·exact hx2.2.2.2.typed g1' c3 c4 e)
       have g2' := g2.trans g1'
       have g3 : w4.heap[k]? = w3.heap[k]? := HG4.out.block k (blk_lt g2') (fun e => by
        obtain ⟨cs', hcs'⟩ := Kd.R_typed hu3 k e.symm
        exact two_types g2' hcs' c5)
       exact g3.trans (g2.trans g1)
      have h54 : Same5 wr w4 := fun k cs hk => h42 k cs _ hk (.inl (by decide)) (.inl (by decide)) (by decide) (by decide) (by decide)
      have h54' : Same5 w3 w4 := fun k cs hk => HG4.out.block k (blk_lt hk) (fun e => by
       obtain ⟨cs', hcs'⟩ := Kd.R_typed hu3 k e.symm
       exact two_types hk hcs' (by decide))
      have hwf4 : ∀ k, WF g mp V3 k → w4.heap[k]? = w3.heap[k]? := fun k hk => HG4.out.block k (hw3.1.foot k hk).1 (fun e => by
       obtain ⟨cs', hcs'⟩ := Kd.R_typed hu3 k e.symm
       exact hw3.1.typed hcs' (by decide) (by decide) hk)
      have hwh4 := hw3.1.keep hwf4
      have hx23 : w3.heap[x]? = w2.heap[x]? := hw3.2.2.block x (blk_lt hx2.1) (fun e => by
       rcases e with e | e
       ·rw [e] at hx2; exact two_types hx2.1 hx2.2.1 (by decide)
       ·exact hx2.2.2.2.typed hx2.1 (by decide) (by decide) e)
      have hx34 : w4.heap[x]? = w3.heap[x]? := HG4.out.block x (blk_lt (hx23.trans hx2.1)) (fun e => by
       obtain ⟨cs', hcs'⟩ := Kd.R_typed hu3 x e.symm
       exact two_types (hx23.trans hx2.1) hcs' (by decide))
      have hq34 : w4.heap[q]? = w3.heap[q]? := HG4.out.block q (blk_lt HP3.out.1) (fun e => by
       obtain ⟨cs', hcs'⟩ := Kd.R_typed hu3 q e.symm
       exact two_types HP3.out.1 hcs' (by decide))
      have hen4 : ENT w4 x num ln p (some q) false := (hx34.trans hx23).trans hx2.1
      have hpl4 : PLN w4 q b (t + 1) s3 := hq34.trans HP3.out.1
      have hEN : EN w4 (X (us[i]'hil)) (nm first (us[i]'hil)) (Ms (us[i]'hil)) (some q) false (now + 1) := by
       refine ⟨⟨p, ?_, fun v hv => (HPT.out v hv).same (fun k cs hk => ?_)⟩, fun k hk => ?_⟩
       ·rw [← HJ.out.1, ← HJ.out.2.1, ← HJ.out.2.2]; exact hen4
       ·exact ((h54' k cs ((H53.out k cs hk).trans hk))).trans (H53.out k cs hk)
       ·injection hk with hk; subst hk
        have h1 := HBD.out
        have h2 := HP3.out
        exact ⟨b, t + 1, s3, hpl4, h1.1, by omega, by omega⟩
      have hmem : us[i]'hil ∈ us := List.getElem_mem hil
      obtain ⟨r1, r2, r3, r4⟩ := HUS.out _ hmem
      have hnew : us[i]'hil ∉ us.take i := HND.out i hil
      have htk : us.take (i + 1) = us.take i ++ [us[i]'hil] := List.take_succ_eq_append_getElem hil
      have hin1 : us[i]'hil ∈ us.take (i + 1) := by rw [htk]; exact List.mem_append_right _ (List.mem_singleton.2 rfl)
      have hsd := hD.tried r1 r2 r3 r4 h54 (fun cs hc => h42 gk cs _ hc (.inl (by decide)) (.inl (by decide)) (by decide) (by decide) (by decide)) (T' := now + 1) hq2.1 hq2.2 hEN
       (fun k cs hk hne => h42 k cs _ hk (.inr (by rw [HJ.out.1]; exact hne)) (.inl (by decide)) (by decide) (by decide) (by decide)) (fun k cs hk hne => h42 k cs _ hk (.inl (by decide)) (.inr hne) (by decide) (by decide) (by decide))
       (fun cs hc => h42 sb cs _ hc (.inl (by decide)) (.inl (by decide)) (by decide) (by decide) (by decide)) (t := now + 1 + nn) (by have := HP3.out.2.2; omega) (by rw [← HJ.out.2.1]; exact hwh4)
      refine ⟨i + 1, es ++ es3, is ++ List.replicate es3.length (us[i]'hil), _, _, _, _, _, by simp, by omega, HU4, ⟨?_⟩, ⟨?_⟩, ⟨?_⟩, ⟨?_⟩, ⟨hsd⟩, ⟨?_⟩, ⟨?_⟩, ⟨?_⟩, ⟨?_⟩⟩
      ·exact (HSE.out.same h54).more (fun e he => by
        have := (HF3.out.2 e he).same h54'
        rw [HJ.out.2.1] at this
        exact this)
      ·rw [List.length_append]; have := HLE.out; have := HF3.out.1; omega
      ·intro j hj
       rcases List.mem_append.1 hj with hj | hj
       ·obtain ⟨g1, g2⟩ := HIS.out j hj
        refine ⟨by rw [htk]; exact List.mem_append_left _ g1, ?_⟩
        by_cases c : j = us[i]'hil <;> simp [c, g2]
       ·have := List.eq_of_mem_replicate hj
        subst this
        exact ⟨hin1, by simp⟩
      ·refine ⟨fun j hj => ?_, fun j hj => ?_, fun p hp => ?_, fun j hj => ?_⟩
       ·by_cases c : j = us[i]'hil
        ·simp [c]
        ·simp only [if_neg c]; exact HMO.out.1 j hj
       ·rw [htk] at hj
        by_cases c : j = us[i]'hil
        ·simp [c]
        ·simp only [if_neg c]
         rcases List.mem_append.1 hj with hj | hj
         ·exact HMO.out.2.1 j hj
         ·exact absurd (List.mem_singleton.1 hj) c
       ·rcases List.mem_append.1 hp with hp | hp
        ·rcases HMO.out.2.2.1 p hp with g1 | ⟨j, g1, g2⟩
         ·exact .inl g1
         ·exact .inr ⟨j, List.mem_append_left _ g1, g2⟩
        ·rw [List.mem_singleton] at hp; subst hp
         refine .inr ⟨us[i]'hil, List.mem_append_right _ ?_, rfl⟩
         have : es3.length ≠ 0 := fun e => HNE.out (List.length_eq_zero_iff.1 e)
         exact List.mem_replicate.2 ⟨this, rfl⟩
       ·have c : j ≠ us[i]'hil := fun e => hj (by rw [e]; exact hin1)
        simp only [if_neg c]
        exact HMO.out.2.2.2 j (fun h => hj (by rw [htk]; exact List.mem_append_left _ h))
      ·refine ⟨fun j => ?_, fun j => ?_⟩
       ·by_cases c : j = us[i]'hil
        ·simp only [c, if_true]; exact ⟨by omega, fun h => absurd hin1 h⟩
        ·simp only [if_neg c]
         exact ⟨(HT.out.1 j).1, fun h => (HT.out.1 j).2 (fun h' => h (by rw [htk]; exact List.mem_append_left _ h'))⟩
       ·rw [HT.out.2 j, htk]
        simp only [List.mem_append, List.mem_singleton, not_or, and_assoc]
      ·refine HK.out.trans (F1 := fun k => TK sTs [mp] S wr k ∨ w.heap.size ≤ k) (fun k hk => hk.elim (fun hk => KT.grow HK.out k hk) .inr) ?_
       refine ⟨HG4.out.os.trans (hw3.2.2.os.trans HK2.out.os), HG4.out.tape.trans (hw3.2.2.tape.trans HK2.out.tape), HG4.out.output.trans (hw3.2.2.output.trans HK2.out.output), Nat.le_trans HK2.out.size (Nat.le_trans hw3.2.2.size HG4.out.size), fun k hk hF => ?_⟩
       have g0 : ¬ TK sTs [mp] S wr k := fun h => hF (.inl h)
       have g1 : w2.heap[k]? = wr.heap[k]? := HK2.out.block k hk (fun e => by
        have e : k = x := e
        subst e
        exact g0 ⟨by rw [HJ.out.1]; exact hD.low.2.1 _ r1 r2, .inr ⟨_, _, HX0.out, by decide⟩⟩)
       have g2 : w3.heap[k]? = w2.heap[k]? := hw3.2.2.block k (Nat.lt_of_lt_of_le hk HK2.out.size) (fun e => by
        rcases e with e | e
        ·subst e
         rcases hq2.1 with c | c
         ·obtain ⟨b', t', s', hp', _⟩ := (hD.en _ r1 r2).pln k c
          exact g0 ⟨hq2.2, .inr ⟨_, _, hp', by decide⟩⟩
         ·omega
        ·have := wh_typed hx2.2.2.2 (Ts := sTs) (by decide) (by decide) k (Nat.lt_of_lt_of_le hk HK2.out.size) e
         exact g0 ⟨this.1, this.2.imp id (fun ⟨cs, T, c1, c2⟩ => ⟨cs, T, g1.symm.trans c1, c2⟩)⟩)
       have g3 : w4.heap[k]? = w3.heap[k]? := HG4.out.block k (Nat.lt_of_lt_of_le hk (Nat.le_trans HK2.out.size hw3.2.2.size)) (fun e => hF (.inr (Kd.R_base hu3 k e.symm)))
       exact g3.trans (g2.trans g1)
      ·have hdd : ∀ k, (Value.slice Ad nd cd).ownBlock = some k → w4.heap[k]? = wr.heap[k]? ∧ ¬ WF g mp V3 k := fun k hk => by
        obtain ⟨cs', hcs'⟩ := Kd.R_typed HDU.out.1 k hk
        have g1 : w2.heap[k]? = wr.heap[k]? := HK2.out.block k (blk_lt hcs') (fun e => by
         have e : k = x := e
         subst e; exact two_types hcs' HX0.out (by decide))
        have g1' := g1.trans hcs'
        have n2 : ¬ WF g mp V2 k := HDU.out.2 k hk
        have g2 : w3.heap[k]? = w2.heap[k]? := hw3.2.2.block k (blk_lt g1') (fun e => by
         rcases e with e | e
         ·subst e; exact two_types g1' hx2.2.1 (by decide)
         ·exact n2 e)
        have g2' := g2.trans g1'
        have g3 : w4.heap[k]? = w3.heap[k]? := HG4.out.block k (blk_lt g2') (fun e => by
         obtain ⟨c5, hc5⟩ := Kd.R_typed hu3 k e.symm
         exact two_types g2' hc5 (by decide))
        refine ⟨g3.trans (g2.trans g1), fun e => ?_⟩
        rcases hw3.2.1 k e with e | e
        ·exact n2 e
        ·have := blk_lt g1'; omega
       exact ⟨R_keepN HDU.out.1 (fun k hk => (hdd k hk).1), fun k hk => (hdd k hk).2⟩
      ·exact R_keepP HUR.out (fun k hk => by
        obtain ⟨cs', hcs'⟩ := Kd.R_typed HUR.out k hk
        exact h42 k cs' _ hcs' (.inl (by decide)) (.inl (by decide)) (by decide) (by decide) (by decide))
     case measure => simp [intOf]; omega
    | false =>
     go_wp2_with (first
      | (go_at_call 32; refine HBG.out.mono ?_; rintro e w5 ⟨rfl, hb⟩; have HB5 := ax hb; have hcn := blk_cell ((hb.block x (blk_lt HX0.out)).trans HX0.out) 0; clear hb)
      | (go_at_call 33; refine (HCT.out _ HB5.out).mono ?_; rintro e w2 ⟨rfl, hb⟩; have HB2 := ax (below_step HB5.out hb.below); clear hb)
      | fail)
     go_roundw
     case rel =>
      have htk : us.take (i + 1) = us.take i ++ [us[i]'hil] := List.take_succ_eq_append_getElem hil
      have hnin : ¬ (nm first (us[i]'hil), now + 1) ∈ ts := fun h => by
       have h1 := (HLL.out.1 _).2 h
       have h2 := HCQ.out
       rw [HJ.out.2.1] at h2
       have h3 : L.contains (nm first (us[i]'hil)) = true := by simpa using h1
       rw [h3] at h2; cases h2
      refine ⟨i + 1, es, is, Q2, V2, ts2, T2, late2, by simp, by omega, ⟨Kd.R_below HU.out HB2.out⟩, ⟨HSE.out.same (fun k cs hk => HB2.out.block k (blk_lt hk))⟩, ⟨by have := HLE.out; omega⟩, ⟨fun j hj => ⟨by rw [htk]; exact List.mem_append_left _ (HIS.out j hj).1, (HIS.out j hj).2⟩⟩, ⟨HMO.out.1, fun j hj => ?_, HMO.out.2.2.1, fun j hj => HMO.out.2.2.2 j (fun h => hj (by rw [htk]; exact List.mem_append_left _ h))⟩, ⟨HD.out.below HB2.out⟩, ⟨fun j => ⟨(HT.out.1 j).1, fun h => (HT.out.1 j).2 (fun h' => h (by rw [htk]; exact List.mem_append_left _ h'))⟩, fun j => ?_⟩, ⟨HK.out.next (Keep.of_below HB2.out)⟩, ⟨Kd.R_below HDU.out.1 HB2.out, HDU.out.2⟩, ⟨Kd.R_below HUR.out HB2.out⟩⟩
      ·rw [htk] at hj
       rcases List.mem_append.1 hj with hj | hj
       ·exact HMO.out.2.1 j hj
       ·rw [List.mem_singleton.1 hj, ← HQ0.out]; rfl
      ·rw [HT.out.2 j, htk]
       constructor
       ·rintro ⟨h1, h2⟩
        refine ⟨h1, fun h => ?_⟩
        rcases List.mem_append.1 h with h | h
        ·exact h2 h
        ·rw [List.mem_singleton.1 h] at h1; exact hnin h1.2
       ·rintro ⟨h1, h2⟩
        exact ⟨h1, fun h => h2 (List.mem_append_left _ h)⟩
     case measure => simp [intOf]; omega
  ·have hlb : decide ((i : Int) < (m : Int)) = false := decide_eq_false (by omega)
   obtain ⟨A4, c4, rfl⟩ := Kd.R_slice HU.out
   go_wp2_with fail
   have hrs : (Tryz.f11).results = #[.tmp 2] := by kernel_rfl
   refine bodyPost_ret (results_tmp hrs _ _ _) rfl ?_
   have hall : us.take i = us := List.take_of_length_le (by rw [← HM.out]; omega)
   have hmo := HMO.out
   have hT := HT.out
   have his := HIS.out
   rw [hall] at hmo hT his
   have hlate : ∀ j, lo ≤ j → j < n → ak j = false → late2 j → False := fun j h1 h2 h3 h4 => by
    obtain ⟨⟨_, h5⟩, h6⟩ := (hT.2 j).1 h4
    obtain ⟨j', g1, g2, g3, g4, g5, _⟩ := HH.out.tim _ h5
    have e := nm_inj (by have := HH.out.le; omega) (by have := HH.out.le; omega) (show nm first j = nm first j' from g4)
    subst e
    exact h6 (HUI.out j h1 h2 g3 h3)
   have hsd : SD wr S sb g mp gk first n lo Ms X Q2 ak (fun _ => now + 1) (now + 1) V2 ts2 (fun _ => False) := HD.out.later (fun j _ _ => (hT.1 j).1) hlate (fun j hj => hj.elim)
   refine ⟨_, es, is, Q2, V2, ts2, rfl, HU.out, by have := HLE.out; omega, HSE.out, fun j hj => ?_, hsd, hmo.1, HK.out, fun hln => ?_⟩
   ·obtain ⟨h1, h2⟩ := his j hj
    obtain ⟨g1, g2, g3, g4⟩ := HUS.out j h1
    exact ⟨g1, g2, g3, h2⟩
   ·have hlu : lo ∈ us := HUI.out lo (Nat.le_refl _) hln (by omega) (HN.out.2.2 hln)
    by_cases c : lo ∈ is
    ·exact .inl c
    ·rcases hsd.has lo (Nat.le_refl _) hln (HN.out.2.2 hln) (hmo.2.1 lo hlu) with hf | ⟨t, ht⟩
     ·exact hf.elim
     ·rcases hmo.2.2.1 _ ht with h1 | ⟨j, h1, h2⟩
      ·exact .inr ⟨t, h1, ht⟩
      ·obtain ⟨g1, _⟩ := his j h1
       have g2 := HUS.out j g1
       have e := nm_inj (by have := HH.out.le; omega) (by have := HH.out.le; omega) (show nm first lo = nm first j from h2)
       exact absurd (e ▸ h1) c
-- YtajiggmeappfaaaGreatDoorP108
section
attribute [local go_sem] max2_int min2_int max_two min_two max_three min_three max_four min_four
def seq_Ahead.f (a0 : Int) (a1 : Int) : Option (Int) := some (wrap64 (IntKind.u16.wrap (a1 - a0)))
theorem seq_Ahead.calls (a0 : Int) (a1 : Int) (r : Int) (w : World) (h : seq_Ahead.f a0 a1 = some r) :
  Calls Tryz.prog 91 #[.int .u16 a0, .int .u16 a1] w fun e w' => e = .returned (.int .i64 r) ∧ Drawn0 w w' := by
 have H : (some (wrap64 (IntKind.u16.wrap (a1 - a0)))) = some r := h
 clear h
 obtain rfl := Option.some.inj H
 go_enter Tryz.func91, Tryz.ntmps91
 go_wp2
 go_ret
 exact ⟨rs_, dr_⟩
end
-- YtajiggmeappfaaaGreatDoorP109
section
attribute [local go_sem] max2_int min2_int max_two min_two max_three min_three max_four min_four
def seq_Before.f (a0 : Int) (a1 : Int) : Option (Bool) := (seq_Ahead.f a0 a1).bind fun t378 => (if t378 ≥ 1 then (some (decide (t378 < 32768))) else (some false))
theorem seq_Before.calls (a0 : Int) (a1 : Int) (r : Bool) (w : World) (h : seq_Before.f a0 a1 = some r) :
  Calls Tryz.prog 81 #[.int .u16 a0, .int .u16 a1] w fun e w' => e = .returned (.bool r) ∧ Drawn0 w w' := by
 have H : ((seq_Ahead.f a0 a1).bind fun t378 => (if t378 ≥ 1 then (some (decide (t378 < 32768))) else (some false))) = some r := h
 clear h
 replace H := Option.bind_eq_some_iff.mp H
 obtain ⟨t378, A30, H⟩ := H
 replace H : (if t378 ≥ 1 then (some (decide (t378 < 32768))) else (some false)) = some r := H
 have A3 := ax A30
 clear A30
 by_cases c4 : t378 ≥ 1
 ·rw [if_pos c4] at H
  have c4b0 : decide (1 ≤ t378) = true := decide_eq_true c4
  clear c4
  obtain rfl := Option.some.inj H
  go_enter Tryz.func81, Tryz.ntmps81
  go_wp2_with (first | ((with_reducible refine gate_callee (f := 91) rfl ?_); refine goesL_ (some 8) rfl rfl Tryz.func91 kr rfl #[.int .u16 a0, .int .u16 a1] rfl gl_ ?_; (with_reducible refine (seq_Ahead.calls a0 a1 t378 _ A3.out).mono ?_); rintro e w' ⟨rfl, ⟨nd, rfl⟩⟩; refine ⟨_, rfl, ?_⟩))
  go_ret
  exact ⟨rs_, dr_⟩
 ·rw [if_neg c4] at H
  have c4b0 : decide (1 ≤ t378) = false := decide_eq_false c4
  clear c4
  obtain rfl := Option.some.inj H
  go_enter Tryz.func81, Tryz.ntmps81
  go_wp2_with (first | ((with_reducible refine gate_callee (f := 91) rfl ?_); refine goesL_ (some 8) rfl rfl Tryz.func91 kr rfl #[.int .u16 a0, .int .u16 a1] rfl gl_ ?_; (with_reducible refine (seq_Ahead.calls a0 a1 t378 _ A3.out).mono ?_); rintro e w' ⟨rfl, ⟨nd, rfl⟩⟩; refine ⟨_, rfl, ?_⟩))
  go_ret
  exact ⟨rs_, dr_⟩
end
-- YtajiggmeappfaaaGreatDoorP170
section
attribute [local go_sem] max2_int min2_int max_two min_two max_three min_three max_four min_four
def ackmap_Of.l0 : Nat → Int → List Int → Int → Int → Int → Int → Option (Int × Int × Int)
 | 0, _, _, _, _, _, _ => none
 | k + 1, x0, x12, x13, x14, x528000, x528001 => if x14 < x13 then (if 0 ≤ x14 then (if x14 < (x12.length : Int) then ((seq_Ahead.f x0 (rd x12 x14)).bind fun t529 => ((seq_Before.f (rd x12 x14) x0).bind fun t530 => (if t530 = true then (ackmap_Of.l0 k x0 x12 x13 (wrap64 (x14 + 1)) x528000 x528001) else (if t529 = 0 then (some (0, 0, 13)) else (if t529 > 32 then (some (0, 0, 11)) else (if 0 ≤ (wrap64 (t529 - 1)) then (ackmap_Of.l0 k x0 x12 x13 (wrap64 (x14 + 1)) x528000 (Go.bits .or .u32 x528001 (shl .u32 1 (wrap64 (t529 - 1))))) else (none))))))) else (none)) else (none)) else (some (x528000, x528001, 0))
def ackmap_Of.f (k : Nat) (a0 : Int) (l1 : List Int) : Option (Int × Int × Int) := ackmap_Of.l0 k a0 l1 (l1.length : Int) 0 a0 0
theorem ackmap_Of.mono_l : ∀ k, (∀ y0 y1 y2 y3 y4 y5, LeO (ackmap_Of.l0 k y0 y1 y2 y3 y4 y5) (ackmap_Of.l0 (k + 1) y0 y1 y2 y3 y4 y5))
 | 0 => fun _ _ _ _ _ _ r h => by simp [ackmap_Of.l0] at h
 | k + 1 => by
  have ih0 := ackmap_Of.mono_l k
  ·intro y0 y1 y2 y3 y4 y5
   unfold ackmap_Of.l0
   repeat' first
   | (with_reducible exact ih0 _ _ _ _ _ _)
   | (with_reducible exact LeO.refl _)
   | (with_reducible exact LeO.none _)
   | (with_reducible refine LeO.ite ?_ ?_)
   | (with_reducible refine LeO.bind ?_ (fun _ => ?_))
   | exact ih0 _ _ _ _ _ _
   | exact LeO.none _
   | refine LeO.ite ?_ ?_
   | refine LeO.bind ?_ (fun _ => ?_)
theorem ackmap_Of.mono : ∀ a0 a1 k, LeO (ackmap_Of.f k a0 a1) (ackmap_Of.f (k + 1) a0 a1) := by
 intro a0 a1 k
 have ih0 := ackmap_Of.mono_l k
 unfold ackmap_Of.f
 repeat' first
   | (with_reducible exact ih0 _ _ _ _ _ _)
   | (with_reducible exact LeO.refl _)
   | (with_reducible exact LeO.none _)
   | (with_reducible refine LeO.ite ?_ ?_)
   | (with_reducible refine LeO.bind ?_ (fun _ => ?_))
   | exact ih0 _ _ _ _ _ _
   | exact LeO.none _
   | refine LeO.ite ?_ ?_
   | refine LeO.bind ?_ (fun _ => ?_)
def ackmap_Of.T6 : Bool × List (List Nat × List Nat) := (true, [([], []), ([0], [0]), ([], []), ([2], [2]), ([3], [3]), ([1, 4], [1, 4]), ([0, 1, 2, 3, 4, 5], []), ([6, 5, 0, 1, 2, 3, 4, 5], [5, 6])])
def ackmap_Of.B6 : List Nat := [0, 1, 0, 4, 12, 31, 63, 127]
theorem ackmap_Of.tab6 : rtab .any (opsOf Tryz.f42 6) = ackmap_Of.T6 := by kernel_rfl
theorem ackmap_Of.bits6 : waitsOk ackmap_Of.T6.2 ackmap_Of.B6 = true := by kernel_rfl
theorem ackmap_Of.calls (k : Nat) (a0 : Int) (A1 : Option Addr) (c1 : Nat) (l1 : List Int) (r1 : Int) (r2 : Int) (r3 : Int) (w : World) (hr1 : Kd.C (Kd.int .u16) w A1 l1.length l1) (hc1 : l1.length ≤ c1) (h : ackmap_Of.f k a0 l1 = some (r1, r2, r3)) :
  Calls Tryz.prog 42 #[.int .u16 a0, .slice A1 l1.length c1] w fun e w' => e = .returned (.tuple #[.agg #[.int .u16 r1, .int .u32 r2], .int .i64 r3]) ∧ Below w.heap.size w w' := by
 have hu45 := Tryz.underlying45
 have HR1 := ax hr1
 have HC1 := ax hc1
 clear hr1 hc1
 have HB := ax (Below.refl w.heap.size w)
 have H : (ackmap_Of.l0 k a0 l1 (l1.length : Int) 0 a0 0) = some (r1, r2, r3) := h
 clear h
 have H' := ax H
 clear H
 go_enter Tryz.func42, Tryz.ntmps42
 go_wp2_with (first | ((with_reducible refine gate_dst (N := 4) rfl ?_); refine be_ 4 #[.int .u16 0, .int .u32 0] 45 ?_; intro gb526 hg w3 hbox hb; have n0_ := ax (below_step bl_ hb); have n1_ := ax (hbox); have n2_ := ax ((by rw [hg]; exact (below_size bl_) : w.heap.size ≤ gb526)); have n3_ := ax ((by rw [hg]; exact (below_size bl_) : w.heap.size ≤ gb526)); clear HB; have HB := n0_; have BK526 := n1_; have GW526 := n2_; have GE526 := n3_; clear n0_ n1_ n2_ n3_; clear hb hbox hg) | ((with_reducible refine gate_dst (N := 6) rfl ?_); refine be_ 6 #[.int .u16 0, .int .u32 0] 45 ?_; intro gb527 hg w4 hbox hb; have n0_ := ax (blk_below (g := gb526) (o := .cells #[.int .u16 0, .int .u32 0] 45 (0, 0)) (bk_ BK526.out) hb); have n1_ := ax (below_step bs_ hb); have n2_ := ax (hbox); have n3_ := ax ((by rw [hg]; exact (below_size bs_) : w.heap.size ≤ gb527)); have n4_ := ax ((by rw [hg]; exact (below_size bs_) : w.heap.size ≤ gb527)); have n5_ := ax ((by rw [hg]; exact Nat.ne_of_lt (blk_lt (g := gb526) (o := .cells #[.int .u16 0, .int .u32 0] 45 (0, 0)) (bk_ BK526.out)) : gb526 ≠ gb527)); have n6_ := ax ((by rw [hg]; exact Nat.ne_of_gt (blk_lt (g := gb526) (o := .cells #[.int .u16 0, .int .u32 0] 45 (0, 0)) (bk_ BK526.out)) : gb527 ≠ gb526)); clear BK526; clear HB; have BK526 := n0_; have HB := n1_; have BK527 := n2_; have GW527 := n3_; have GE527 := n4_; have NB526_527 := n5_; have NB527_526 := n6_; clear n0_ n1_ n2_ n3_ n4_ n5_ n6_; clear hb hbox hg; have hnb5 := NB527_526.out; have hnc5 := NB526_527.out; have hcz6_0 : w4.cell? ⟨gb527, 0, none⟩ = some (.int .u16 0) := (blk_cell BK527.out 0).trans rfl; have hcz6_1 : w4.cell? ⟨gb527, 1, none⟩ = some (.int .u32 0) := (blk_cell BK527.out 1).trans rfl; have hfz6_0 := blk_frozen BK527.out 0; have hfz6_1 := blk_frozen BK527.out 1))
 go_loopg [14] k (fun kq v14 w' => ∃ (x14_1 : Int) (x527000_1 : Int) (x527001_1 : Int) (x528001_1 : Int), v14 = .int .i64 x14_1 ∧ Aside0 (ackmap_Of.l0 kq a0 l1 (l1.length : Int) x14_1 a0 x528001_1 = some (r1, r2, r3)) ∧ Aside0 (kq ≤ k) ∧ Aside0 (w'.heap[gb526]? = some (.cells #[.int .u16 x527000_1, .int .u32 x527001_1] 45 (0, 0))) ∧ Aside0 (w'.heap[gb527]? = some (.cells #[.int .u16 a0, .int .u32 x528001_1] 45 (0, 0))) ∧ Aside0 (Below w.heap.size w w'))
 case atStart => exact ⟨(0), (0), (0), (0), rs_, H', ⟨Nat.le_refl _⟩, ⟨by (with_reducible repeat (first | refine blk_drewN ?_ _ | refine blk_drew ?_ | refine blk_alloc ?_ _)); refine blk_far ?_ NB526_527.out _; (with_reducible repeat (first | refine blk_drewN ?_ _ | refine blk_drew ?_ | refine blk_alloc ?_ _)); refine blk_far ?_ NB526_527.out _; (with_reducible repeat (first | refine blk_drewN ?_ _ | refine blk_drew ?_ | refine blk_alloc ?_ _)); exact BK526.out⟩, ⟨by (with_reducible repeat (first | refine blk_drewN ?_ _ | refine blk_drew ?_ | refine blk_alloc ?_ _)); refine blk_put (cs := #[.int .u16 a0, .int .u32 0]) ?_ 1 _ rfl; (with_reducible repeat (first | refine blk_drewN ?_ _ | refine blk_drew ?_ | refine blk_alloc ?_ _)); refine blk_put (cs := #[.int .u16 0, .int .u32 0]) ?_ 0 _ rfl; (with_reducible repeat (first | refine blk_drewN ?_ _ | refine blk_drew ?_ | refine blk_alloc ?_ _)); exact BK527.out⟩, ⟨bs_⟩⟩
 case round =>
  clear H'
  try clear c1
  try clear p2
  try clear c4
  try clear c5
  try clear hcz6_0
  try clear hcz6_1
  try clear hfz6_0
  try clear hfz6_1
  obtain ⟨x14_1, x527000_1, x527001_1, x528001_1, rfl, HA, HK1, BK526, BK527, HB⟩ := hrel
  cases gk with
  | zero => exact absurd HA.out (by simp [ackmap_Of.l0])
  | succ k1 =>
   have H := HA.out
   clear HA
   simp only [ackmap_Of.l0] at H
   by_cases c7 : x14_1 < (l1.length : Int)
   ·rw [if_pos c7] at H
    have c7b0 : decide (x14_1 < (l1.length : Int)) = true := decide_eq_true c7
    clear c7
    by_cases c8 : 0 ≤ x14_1
    ·rw [if_pos c8] at H
     have c8b0 : decide (0 ≤ x14_1) = true := decide_eq_true c8
     clear c8
     by_cases c9 : x14_1 < (l1.length : Int)
     ·rw [if_pos c9] at H
      have c9b0 : decide (x14_1 < (l1.length : Int)) = true := decide_eq_true c9
      clear c9
      replace H := Option.bind_eq_some_iff.mp H
      obtain ⟨t529, A100, H⟩ := H
      replace H : ((seq_Before.f (rd l1 x14_1) a0).bind fun t530 => (if t530 = true then (ackmap_Of.l0 k1 a0 l1 (l1.length : Int) (wrap64 (x14_1 + 1)) a0 x528001_1) else (if t529 = 0 then (some (0, 0, 13)) else (if t529 > 32 then (some (0, 0, 11)) else (if 0 ≤ (wrap64 (t529 - 1)) then (ackmap_Of.l0 k1 a0 l1 (l1.length : Int) (wrap64 (x14_1 + 1)) a0 (Go.bits .or .u32 x528001_1 (shl .u32 1 (wrap64 (t529 - 1))))) else (none)))))) = some (r1, r2, r3) := H
      have A10 := ax A100
      clear A100
      replace H := Option.bind_eq_some_iff.mp H
      obtain ⟨t530, A110, H⟩ := H
      replace H : (if t530 = true then (ackmap_Of.l0 k1 a0 l1 (l1.length : Int) (wrap64 (x14_1 + 1)) a0 x528001_1) else (if t529 = 0 then (some (0, 0, 13)) else (if t529 > 32 then (some (0, 0, 11)) else (if 0 ≤ (wrap64 (t529 - 1)) then (ackmap_Of.l0 k1 a0 l1 (l1.length : Int) (wrap64 (x14_1 + 1)) a0 (Go.bits .or .u32 x528001_1 (shl .u32 1 (wrap64 (t529 - 1))))) else (none))))) = some (r1, r2, r3) := H
      have A11 := ax A110
      clear A110
      by_cases c12 : t530 = true
      ·subst c12
       have H1 : (ackmap_Of.l0 k1 a0 l1 (l1.length : Int) (wrap64 (x14_1 + 1)) a0 x528001_1) = some (r1, r2, r3) := by rw [if_pos rfl] at H; exact H
       clear H
       have H := H1
       clear H1
       have H' := ax H
       clear H
       have p528 : 0 ≤ (x14_1 : Int) := of_decide_eq_true as_
       have q528 : x14_1 < (l1.length : Int) := of_decide_eq_true as_
       obtain ⟨ad528, e528, hx528_0⟩ := Kd.at_int HR1.out x14_1 p528 q528
       cases e528
       replace hx528_0 := (HB.out.cell (World.block_lt_of_cell? w _ hx528_0)).trans hx528_0
       replace p528 := eq_true p528
       replace q528 := eq_true q528
       go_wp2_with (first | ((with_reducible refine gate_callee (f := 91) rfl ?_); refine goesL_ (some 20) rfl rfl Tryz.func91 kr rfl #[.int .u16 a0, .int .u16 (rd l1 x14_1)] rfl gl_ ?_; (with_reducible refine (seq_Ahead.calls a0 (rd l1 x14_1) t529 _ A10.out).mono ?_); rintro e w' ⟨rfl, ⟨nd, rfl⟩⟩; refine ⟨_, rfl, ?_⟩) | ((with_reducible refine gate_callee (f := 81) rfl ?_); refine goesL_ (some 31) rfl rfl Tryz.func81 kr rfl #[.int .u16 (rd l1 x14_1), .int .u16 a0] rfl gl_ ?_; (with_reducible refine (seq_Before.calls (rd l1 x14_1) a0 true _ A11.out).mono ?_); rintro e w' ⟨rfl, ⟨nd, rfl⟩⟩; refine ⟨_, rfl, ?_⟩))
       go_roundg k1
       case measure => have := HK1.out; omega
       case rel => exact ⟨(wrap64 (x14_1 + 1)), (x527000_1), (x527001_1), (x528001_1), rs_, H', ⟨by have := HK1.out; omega⟩, ⟨by (with_reducible repeat (first | refine blk_drewN ?_ _ | refine blk_drew ?_ | refine blk_alloc ?_ _)); exact BK526.out⟩, ⟨by (with_reducible repeat (first | refine blk_drewN ?_ _ | refine blk_drew ?_ | refine blk_alloc ?_ _)); exact BK527.out⟩, ⟨bs_⟩⟩
      ·replace c12 := Bool.eq_false_iff.mpr c12
       subst c12
       have H1 : (if t529 = 0 then (some (0, 0, 13)) else (if t529 > 32 then (some (0, 0, 11)) else (if 0 ≤ (wrap64 (t529 - 1)) then (ackmap_Of.l0 k1 a0 l1 (l1.length : Int) (wrap64 (x14_1 + 1)) a0 (Go.bits .or .u32 x528001_1 (shl .u32 1 (wrap64 (t529 - 1))))) else (none)))) = some (r1, r2, r3) := by rw [if_neg (show ¬ (false = true) by decide)] at H; exact H
       clear H
       have H := H1
       clear H1
       by_cases c13 : t529 = 0
       ·rw [if_pos c13] at H
        have c13b0 : (t529 == 0) = true := beq_iff_eq.mpr c13
        have c13b1 : (t529 != 0) = false := bne_eq_false_iff_eq.mpr c13
        clear c13
        simp only [Option.some.injEq, Prod.mk.injEq] at H
        obtain ⟨rfl, rfl, rfl⟩ := H
        have p528 : 0 ≤ (x14_1 : Int) := of_decide_eq_true as_
        have q528 : x14_1 < (l1.length : Int) := of_decide_eq_true as_
        obtain ⟨ad528, e528, hx528_0⟩ := Kd.at_int HR1.out x14_1 p528 q528
        cases e528
        replace hx528_0 := (HB.out.cell (World.block_lt_of_cell? w _ hx528_0)).trans hx528_0
        replace p528 := eq_true p528
        replace q528 := eq_true q528
        go_wp2_with (first | ((with_reducible refine gate_callee (f := 91) rfl ?_); refine goesL_ (some 20) rfl rfl Tryz.func91 kr rfl #[.int .u16 a0, .int .u16 (rd l1 x14_1)] rfl gl_ ?_; (with_reducible refine (seq_Ahead.calls a0 (rd l1 x14_1) t529 _ A10.out).mono ?_); rintro e w' ⟨rfl, ⟨nd, rfl⟩⟩; refine ⟨_, rfl, ?_⟩; (try (rw [drewN_self wr]; generalize hq_ : World.drewN wr _ = wr; have n0_ : Aside0 (wr.heap[gb526]? = some (.cells #[.int .u16 x527000_1, .int .u32 x527001_1] 45 (0, 0))) := ⟨by rw [← hq_]; exact (bk_ BK526.out)⟩; have n1_ : Aside0 (wr.heap[gb527]? = some (.cells #[.int .u16 a0, .int .u32 x528001_1] 45 (0, 0))) := ⟨by rw [← hq_]; exact (bk_ BK527.out)⟩; have n2_ : Aside0 (Below w.heap.size w wr) := ⟨by rw [← hq_]; exact bs_⟩; clear BK526 BK527 HB hq_; have BK526 := n0_; have BK527 := n1_; have HB := n2_; clear n0_ n1_ n2_))) | ((with_reducible refine gate_callee (f := 81) rfl ?_); refine goesL_ (some 31) rfl rfl Tryz.func81 kr rfl #[.int .u16 (rd l1 x14_1), .int .u16 a0] rfl gl_ ?_; (with_reducible refine (seq_Before.calls (rd l1 x14_1) a0 false _ A11.out).mono ?_); rintro e w' ⟨rfl, ⟨nd, rfl⟩⟩; refine ⟨_, rfl, ?_⟩; (try (rw [drewN_self wr]; generalize hq_ : World.drewN wr _ = wr; have n0_ : Aside0 (wr.heap[gb526]? = some (.cells #[.int .u16 x527000_1, .int .u32 x527001_1] 45 (0, 0))) := ⟨by rw [← hq_]; exact (bk_ BK526.out)⟩; have n1_ : Aside0 (wr.heap[gb527]? = some (.cells #[.int .u16 a0, .int .u32 x528001_1] 45 (0, 0))) := ⟨by rw [← hq_]; exact (bk_ BK527.out)⟩; have n2_ : Aside0 (Below w.heap.size w wr) := ⟨by rw [← hq_]; exact bs_⟩; clear BK526 BK527 HB hq_; have BK526 := n0_; have BK527 := n1_; have HB := n2_; clear n0_ n1_ n2_)); have hnb14 := NB526_527.out; have hnc14 := NB527_526.out; have hcz15_0 : wr.cell? ⟨gb526, 0, none⟩ = some (.int .u16 x527000_1) := (blk_cell BK526.out 0).trans rfl; have hcz15_1 : wr.cell? ⟨gb526, 1, none⟩ = some (.int .u32 x527001_1) := (blk_cell BK526.out 1).trans rfl; have hfz15_0 := blk_frozen BK526.out 0; have hfz15_1 := blk_frozen BK526.out 1))
        refine bodyPost_ret (results_ct rfl _ _ gb526 45 #[.int .u16 0, .int .u32 0] (0, 0) _ rfl (by (with_reducible repeat (first | refine blk_drewN ?_ _ | refine blk_drew ?_ | refine blk_alloc ?_ _)); refine blk_put (cs := #[.int .u16 0, .int .u32 x527001_1]) ?_ 1 _ rfl; (with_reducible repeat (first | refine blk_drewN ?_ _ | refine blk_drew ?_ | refine blk_alloc ?_ _)); refine blk_put (cs := #[.int .u16 x527000_1, .int .u32 x527001_1]) ?_ 0 _ rfl; (with_reducible repeat (first | refine blk_drewN ?_ _ | refine blk_drew ?_ | refine blk_alloc ?_ _)); exact BK526.out) Tryz.underlying45 rfl kr) rfl ?_
        exact ⟨by first | rfl | (simp [errW_none, errW_some] <;> rfl) | (simp [*, errW_none, errW_some] <;> rfl), by repeat (first | (with_reducible first | exact HB.out | apply below_alloc | apply pw_below_drewN | apply below_drew1 | refine below_set ?_ GE526.out | refine below_set ?_ GE527.out) | exact HB.out)⟩
       ·rw [if_neg c13] at H
        have c13b0 : (t529 == 0) = false := beq_eq_false_iff_ne.mpr c13
        have c13b1 : (t529 != 0) = true := bne_iff_ne.mpr c13
        by_cases c16 : t529 > 32
        ·rw [if_pos c16] at H
         have c16b0 : decide (32 < t529) = true := decide_eq_true c16
         clear c16
         simp only [Option.some.injEq, Prod.mk.injEq] at H
         obtain ⟨rfl, rfl, rfl⟩ := H
         have p528 : 0 ≤ (x14_1 : Int) := of_decide_eq_true as_
         have q528 : x14_1 < (l1.length : Int) := of_decide_eq_true as_
         obtain ⟨ad528, e528, hx528_0⟩ := Kd.at_int HR1.out x14_1 p528 q528
         cases e528
         replace hx528_0 := (HB.out.cell (World.block_lt_of_cell? w _ hx528_0)).trans hx528_0
         replace p528 := eq_true p528
         replace q528 := eq_true q528
         go_wp2_with (first | ((with_reducible refine gate_callee (f := 91) rfl ?_); refine goesL_ (some 20) rfl rfl Tryz.func91 kr rfl #[.int .u16 a0, .int .u16 (rd l1 x14_1)] rfl gl_ ?_; (with_reducible refine (seq_Ahead.calls a0 (rd l1 x14_1) t529 _ A10.out).mono ?_); rintro e w' ⟨rfl, ⟨nd, rfl⟩⟩; refine ⟨_, rfl, ?_⟩; (try (rw [drewN_self wr]; generalize hq_ : World.drewN wr _ = wr; have n0_ : Aside0 (wr.heap[gb526]? = some (.cells #[.int .u16 x527000_1, .int .u32 x527001_1] 45 (0, 0))) := ⟨by rw [← hq_]; exact (bk_ BK526.out)⟩; have n1_ : Aside0 (wr.heap[gb527]? = some (.cells #[.int .u16 a0, .int .u32 x528001_1] 45 (0, 0))) := ⟨by rw [← hq_]; exact (bk_ BK527.out)⟩; have n2_ : Aside0 (Below w.heap.size w wr) := ⟨by rw [← hq_]; exact bs_⟩; clear BK526 BK527 HB hq_; have BK526 := n0_; have BK527 := n1_; have HB := n2_; clear n0_ n1_ n2_))) | ((with_reducible refine gate_callee (f := 81) rfl ?_); refine goesL_ (some 31) rfl rfl Tryz.func81 kr rfl #[.int .u16 (rd l1 x14_1), .int .u16 a0] rfl gl_ ?_; (with_reducible refine (seq_Before.calls (rd l1 x14_1) a0 false _ A11.out).mono ?_); rintro e w' ⟨rfl, ⟨nd, rfl⟩⟩; refine ⟨_, rfl, ?_⟩; (try (rw [drewN_self wr]; generalize hq_ : World.drewN wr _ = wr; have n0_ : Aside0 (wr.heap[gb526]? = some (.cells #[.int .u16 x527000_1, .int .u32 x527001_1] 45 (0, 0))) := ⟨by rw [← hq_]; exact (bk_ BK526.out)⟩; have n1_ : Aside0 (wr.heap[gb527]? = some (.cells #[.int .u16 a0, .int .u32 x528001_1] 45 (0, 0))) := ⟨by rw [← hq_]; exact (bk_ BK527.out)⟩; have n2_ : Aside0 (Below w.heap.size w wr) := ⟨by rw [← hq_]; exact bs_⟩; clear BK526 BK527 HB hq_; have BK526 := n0_; have BK527 := n1_; have HB := n2_; clear n0_ n1_ n2_)); have hnb17 := NB526_527.out; have hnc17 := NB527_526.out; have hcz18_0 : wr.cell? ⟨gb526, 0, none⟩ = some (.int .u16 x527000_1) := (blk_cell BK526.out 0).trans rfl; have hcz18_1 : wr.cell? ⟨gb526, 1, none⟩ = some (.int .u32 x527001_1) := (blk_cell BK526.out 1).trans rfl; have hfz18_0 := blk_frozen BK526.out 0; have hfz18_1 := blk_frozen BK526.out 1))
         refine bodyPost_ret (results_ct rfl _ _ gb526 45 #[.int .u16 0, .int .u32 0] (0, 0) _ rfl (by (with_reducible repeat (first | refine blk_drewN ?_ _ | refine blk_drew ?_ | refine blk_alloc ?_ _)); refine blk_put (cs := #[.int .u16 0, .int .u32 x527001_1]) ?_ 1 _ rfl; (with_reducible repeat (first | refine blk_drewN ?_ _ | refine blk_drew ?_ | refine blk_alloc ?_ _)); refine blk_put (cs := #[.int .u16 x527000_1, .int .u32 x527001_1]) ?_ 0 _ rfl; (with_reducible repeat (first | refine blk_drewN ?_ _ | refine blk_drew ?_ | refine blk_alloc ?_ _)); exact BK526.out) Tryz.underlying45 rfl kr) rfl ?_
         exact ⟨by first | rfl | (simp [errW_none, errW_some] <;> rfl) | (simp [*, errW_none, errW_some] <;> rfl), by repeat (first | (with_reducible first | exact HB.out | apply below_alloc | apply pw_below_drewN | apply below_drew1 | refine below_set ?_ GE526.out | refine below_set ?_ GE527.out) | exact HB.out)⟩
        ·rw [if_neg c16] at H
         have c16b0 : decide (32 < t529) = false := decide_eq_false c16
         clear c16
         obtain ⟨ji19, hji19⟩ : ∃ j_ : Int, (wrap64 (t529 - 1)) = j_ := ⟨_, rfl⟩
         replace H : (if 0 ≤ (ji19) then (ackmap_Of.l0 k1 a0 l1 (l1.length : Int) (wrap64 (x14_1 + 1)) a0 (Go.bits .or .u32 x528001_1 (shl .u32 1 (ji19)))) else (none)) = some (r1, r2, r3) := by first | (rw [hji19] at H; exact H) | (simp only [hji19] at H ⊢; exact H)
         (try rw [hji19] at A10)
         (try rw [hji19] at A11)
         have hji19w : (IntKind.i64.wrap (t529 - 1)) = ji19 := (i64_w _).trans hji19
         by_cases c20 : 0 ≤ (ji19)
         ·rw [if_pos c20] at H
          have c20b0 := eq_true c20
          have c20b1 : decide (0 ≤ (ji19)) = true := decide_eq_true c20
          clear c20
          obtain ⟨ji21, hji21⟩ : ∃ j_ : Int, (shl .u32 1 (ji19)) = j_ := ⟨_, rfl⟩
          replace H : (ackmap_Of.l0 k1 a0 l1 (l1.length : Int) (wrap64 (x14_1 + 1)) a0 (Go.bits .or .u32 x528001_1 (ji21))) = some (r1, r2, r3) := by first | (rw [hji21] at H; exact H) | (simp only [hji21] at H ⊢; exact H)
          (try rw [hji21] at A10)
          (try rw [hji21] at A11)
          have hji21_ : (IntKind.u32.wrap (1 * 2 ^ min (ji19).toNat 32)) = ji21 := hji21
          have hji21z : (ji19) ≤ 32 → (IntKind.u32.wrap (1 * 2 ^ (ji19).toNat)) = ji21 := shl_small hji21
          have hji21u : (IntKind.u32.wrap (2 ^ min (ji19).toNat 32)) = ji21 := by have h_ := hji21_; rw [Int.one_mul] at h_; exact h_
          have hji21v : (ji19) ≤ 32 → (IntKind.u32.wrap (2 ^ (ji19).toNat)) = ji21 := fun hle_ => by have h_ := hji21z hle_; rw [Int.one_mul] at h_; exact h_
          have H' := ax H
          clear H
          have p528 : 0 ≤ (x14_1 : Int) := of_decide_eq_true as_
          have q528 : x14_1 < (l1.length : Int) := of_decide_eq_true as_
          obtain ⟨ad528, e528, hx528_0⟩ := Kd.at_int HR1.out x14_1 p528 q528
          cases e528
          replace hx528_0 := (HB.out.cell (World.block_lt_of_cell? w _ hx528_0)).trans hx528_0
          replace p528 := eq_true p528
          replace q528 := eq_true q528
          try go_wp2_with (first | ((with_reducible refine gate_callee (f := 91) rfl ?_); refine goesL_ (some 20) rfl rfl Tryz.func91 kr rfl #[.int .u16 a0, .int .u16 (rd l1 x14_1)] rfl gl_ ?_; (with_reducible refine (seq_Ahead.calls a0 (rd l1 x14_1) t529 _ A10.out).mono ?_); rintro e w' ⟨rfl, ⟨nd, rfl⟩⟩; refine ⟨_, rfl, ?_⟩; (try (rw [drewN_self wr]; generalize hq_ : World.drewN wr _ = wr; have n0_ : Aside0 (wr.heap[gb526]? = some (.cells #[.int .u16 x527000_1, .int .u32 x527001_1] 45 (0, 0))) := ⟨by rw [← hq_]; exact (bk_ BK526.out)⟩; have n1_ : Aside0 (wr.heap[gb527]? = some (.cells #[.int .u16 a0, .int .u32 x528001_1] 45 (0, 0))) := ⟨by rw [← hq_]; exact (bk_ BK527.out)⟩; have n2_ : Aside0 (Below w.heap.size w wr) := ⟨by rw [← hq_]; exact bs_⟩; clear BK526 BK527 HB hq_; have BK526 := n0_; have BK527 := n1_; have HB := n2_; clear n0_ n1_ n2_))) | ((with_reducible refine gate_callee (f := 81) rfl ?_); refine goesL_ (some 31) rfl rfl Tryz.func81 kr rfl #[.int .u16 (rd l1 x14_1), .int .u16 a0] rfl gl_ ?_; (with_reducible refine (seq_Before.calls (rd l1 x14_1) a0 false _ A11.out).mono ?_); rintro e w' ⟨rfl, ⟨nd, rfl⟩⟩; refine ⟨_, rfl, ?_⟩; (try (rw [drewN_self wr]; generalize hq_ : World.drewN wr _ = wr; have n0_ : Aside0 (wr.heap[gb526]? = some (.cells #[.int .u16 x527000_1, .int .u32 x527001_1] 45 (0, 0))) := ⟨by rw [← hq_]; exact (bk_ BK526.out)⟩; have n1_ : Aside0 (wr.heap[gb527]? = some (.cells #[.int .u16 a0, .int .u32 x528001_1] 45 (0, 0))) := ⟨by rw [← hq_]; exact (bk_ BK527.out)⟩; have n2_ : Aside0 (Below w.heap.size w wr) := ⟨by rw [← hq_]; exact bs_⟩; clear BK526 BK527 HB hq_; have BK526 := n0_; have BK527 := n1_; have HB := n2_; clear n0_ n1_ n2_))))
          have n0_ := ax (blk_drew BK526.out)
          have n1_ := ax (blk_drew BK527.out)
          have n2_ := ax (below_drew1 HB.out)
          clear BK526
          clear BK527
          clear HB
          have BK526 := n0_
          have BK527 := n1_
          have HB := n2_
          clear n0_ n1_ n2_
          refine start_ (n := 8) (S := fun w' => w'.cell? ⟨gb527, 0, none⟩ = some (.int .u16 a0) ∧ w'.cell? ⟨gb527, 1, none⟩ = some (.int .u32 x528001_1)) (ds := [7]) #[false, false, false, false, false, false, false, false] kr rfl rfl ⟨(blk_cell BK527.out 0).trans rfl, (blk_cell BK527.out 1).trans rfl⟩ (fun hHeld => ?_); refine with_tabW ackmap_Of.tab6 ackmap_Of.bits6 (fun HT_ HW_ => ?_)
          generalize wr.drew = w22 at BK526 BK527 HB hHeld ⊢
          refine pu_ 0 21 HT_ ?_; refine pu_ 2 23 HT_ ?_; refine pu_ 3 24 HT_ ?_; refine pu_ 4 25 HT_ ?_; refine tk_ 1 22 HT_ HW_ hHeld ?_; refine pu_ 5 26 HT_ ?_; refine pu_ 6 27 HT_ ?_
          refine last_ (i := 7) (N := none) #[true, true, true, true, true, true, true, true] rfl rfl (one_of HT_.out kr) (by decide) (fun K hK => ?_)
          have hs23 : w22.cell? ⟨gb527, 1, none⟩ = some (.int .u32 x528001_1) := (blk_cell BK527.out 1).trans rfl
          have hfs23 := blk_frozen BK527.out 1
          have hns23_0 := NB526_527.out
          have hms23_0 := NB527_526.out
          refine skip_ (w1 := ?_) (by rfl) rfl ?_ ?_
          rotate_left
          ·go_simp
           rfl
          refine hK.out _ _ ?_
          clear hK K
          refine done_ (done_of HT_.out kr) ?_
          try go_wp2
          go_roundg k1
          case measure => have := HK1.out; omega
          case rel => exact ⟨(wrap64 (x14_1 + 1)), (x527000_1), (x527001_1), (Go.bits .or .u32 x528001_1 (ji21)), rs_, H', ⟨by have := HK1.out; omega⟩, ⟨by (with_reducible repeat (first | refine blk_drewN ?_ _ | refine blk_drew ?_ | refine blk_alloc ?_ _)); refine blk_far ?_ NB526_527.out _; (with_reducible repeat (first | refine blk_drewN ?_ _ | refine blk_drew ?_ | refine blk_alloc ?_ _)); exact BK526.out⟩, ⟨by (with_reducible repeat (first | refine blk_drewN ?_ _ | refine blk_drew ?_ | refine blk_alloc ?_ _)); refine blk_put (cs := #[.int .u16 a0, .int .u32 x528001_1]) ?_ 1 _ rfl; (with_reducible repeat (first | refine blk_drewN ?_ _ | refine blk_drew ?_ | refine blk_alloc ?_ _)); exact BK527.out⟩, ⟨bs_⟩⟩
         ·rw [if_neg c20] at H
          exact absurd H (by simp)
     ·rw [if_neg c9] at H
      exact absurd H (by simp)
    ·rw [if_neg c8] at H
     exact absurd H (by simp)
   ·rw [if_neg c7] at H
    have c7b0 : decide (x14_1 < (l1.length : Int)) = false := decide_eq_false c7
    clear c7
    simp only [Option.some.injEq, Prod.mk.injEq] at H
    obtain ⟨rfl, rfl, rfl⟩ := H
    have hnb24 := NB527_526.out
    have hnc24 := NB526_527.out
    have hcz25_0 : wr.cell? ⟨gb527, 0, none⟩ = some (.int .u16 a0) := (blk_cell BK527.out 0).trans rfl
    have hcz25_1 : wr.cell? ⟨gb527, 1, none⟩ = some (.int .u32 x528001_1) := (blk_cell BK527.out 1).trans rfl
    have hfz25_0 := blk_frozen BK527.out 0
    have hfz25_1 := blk_frozen BK527.out 1
    have hcz26_0 : wr.cell? ⟨gb526, 0, none⟩ = some (.int .u16 x527000_1) := (blk_cell BK526.out 0).trans rfl
    have hcz26_1 : wr.cell? ⟨gb526, 1, none⟩ = some (.int .u32 x527001_1) := (blk_cell BK526.out 1).trans rfl
    have hfz26_0 := blk_frozen BK526.out 0
    have hfz26_1 := blk_frozen BK526.out 1
    go_wp2
    refine bodyPost_ret (results_ct rfl _ _ gb526 45 #[.int .u16 a0, .int .u32 x528001_1] (0, 0) _ rfl (by (with_reducible repeat (first | refine blk_drewN ?_ _ | refine blk_drew ?_ | refine blk_alloc ?_ _)); refine blk_put (cs := #[.int .u16 a0, .int .u32 x527001_1]) ?_ 1 _ rfl; (with_reducible repeat (first | refine blk_drewN ?_ _ | refine blk_drew ?_ | refine blk_alloc ?_ _)); refine blk_put (cs := #[.int .u16 x527000_1, .int .u32 x527001_1]) ?_ 0 _ rfl; (with_reducible repeat (first | refine blk_drewN ?_ _ | refine blk_drew ?_ | refine blk_alloc ?_ _)); exact BK526.out) Tryz.underlying45 rfl kr) rfl ?_
    exact ⟨by first | rfl | (simp [errW_none, errW_some] <;> rfl) | (simp [*, errW_none, errW_some] <;> rfl), by repeat (first | (with_reducible first | exact HB.out | apply below_alloc | apply pw_below_drewN | apply below_drew1 | refine below_set ?_ GE526.out | refine below_set ?_ GE527.out) | exact HB.out)⟩
end
-- YtajiggmeappfaaaGreatDoorP175
section
attribute [local go_sem] max2_int min2_int max_two min_two max_three min_three max_four min_four
def ackmap_Has.f (a0_0 : Int) (a0_1 : Int) (a1 : Int) : Option (Bool) := (seq_Before.f a1 a0_0).bind fun t532 => (if t532 = true then (some true) else ((seq_Ahead.f a0_0 a1).bind fun t533 => (if t533 ≥ 1 then (if t533 ≤ 32 then (if 0 ≤ (wrap64 (t533 - 1)) then (some ((Go.bits .and .u32 (shr .u32 a0_1 (wrap64 (t533 - 1))) 1) == 1)) else (none)) else (some false)) else (some false))))
theorem ackmap_Has.calls (a0_0 : Int) (a0_1 : Int) (a1 : Int) (r : Bool) (w : World) (h : ackmap_Has.f a0_0 a0_1 a1 = some r) :
  Calls Tryz.prog 46 #[.agg #[.int .u16 a0_0, .int .u32 a0_1], .int .u16 a1] w fun e w' => e = .returned (.bool r) ∧ Below w.heap.size w w' := by
 have hu45 := Tryz.underlying45
 have HB := ax (Below.refl w.heap.size w)
 have H : ((seq_Before.f a1 a0_0).bind fun t532 => (if t532 = true then (some true) else ((seq_Ahead.f a0_0 a1).bind fun t533 => (if t533 ≥ 1 then (if t533 ≤ 32 then (if 0 ≤ (wrap64 (t533 - 1)) then (some ((Go.bits .and .u32 (shr .u32 a0_1 (wrap64 (t533 - 1))) 1) == 1)) else (none)) else (some false)) else (some false))))) = some r := h
 clear h
 replace H := Option.bind_eq_some_iff.mp H
 obtain ⟨t532, A30, H⟩ := H
 replace H : (if t532 = true then (some true) else ((seq_Ahead.f a0_0 a1).bind fun t533 => (if t533 ≥ 1 then (if t533 ≤ 32 then (if 0 ≤ (wrap64 (t533 - 1)) then (some ((Go.bits .and .u32 (shr .u32 a0_1 (wrap64 (t533 - 1))) 1) == 1)) else (none)) else (some false)) else (some false)))) = some r := H
 have A3 := ax A30
 clear A30
 by_cases c4 : t532 = true
 ·subst c4
  have H1 : (some true) = some r := by rw [if_pos rfl] at H; exact H
  clear H
  have H := H1
  clear H1
  obtain rfl := Option.some.inj H
  go_enter Tryz.func46, Tryz.ntmps46
  go_wp2_with (first | ((with_reducible refine gate_dst (N := 2) rfl ?_); refine be_ 2 #[.int .u16 a0_0, .int .u32 a0_1] 45 ?_; intro gb531 hg w5 hbox hb; have n0_ := ax (below_step bl_ hb); have n1_ := ax (hbox); have n2_ := ax ((by rw [hg]; exact (below_size bl_) : w.heap.size ≤ gb531)); have n3_ := ax ((by rw [hg]; exact (below_size bl_) : w.heap.size ≤ gb531)); clear HB; have HB := n0_; have BK531 := n1_; have GW531 := n2_; have GE531 := n3_; clear n0_ n1_ n2_ n3_; clear hb hbox hg; have hcz6_0 : w5.cell? ⟨gb531, 0, none⟩ = some (.int .u16 a0_0) := (blk_cell BK531.out 0).trans rfl; have hcz6_1 : w5.cell? ⟨gb531, 1, none⟩ = some (.int .u32 a0_1) := (blk_cell BK531.out 1).trans rfl; have hfz6_0 := blk_frozen BK531.out 0; have hfz6_1 := blk_frozen BK531.out 1) | ((with_reducible refine gate_callee (f := 81) rfl ?_); refine goesL_ (some 9) rfl rfl Tryz.func81 kr rfl #[.int .u16 a1, .int .u16 a0_0] rfl gl_ ?_; (with_reducible refine (seq_Before.calls a1 a0_0 true _ A3.out).mono ?_); rintro e w' ⟨rfl, ⟨nd, rfl⟩⟩; refine ⟨_, rfl, ?_⟩))
  go_ret
  exact ⟨by first | rfl | (simp [errW_none, errW_some] <;> rfl) | (simp [*, errW_none, errW_some] <;> rfl), by repeat (first | (with_reducible first | exact HB.out | apply below_alloc | apply pw_below_drewN | apply below_drew1 | refine below_set ?_ GE531.out) | exact HB.out)⟩
 ·replace c4 := Bool.eq_false_iff.mpr c4
  subst c4
  have H1 : ((seq_Ahead.f a0_0 a1).bind fun t533 => (if t533 ≥ 1 then (if t533 ≤ 32 then (if 0 ≤ (wrap64 (t533 - 1)) then (some ((Go.bits .and .u32 (shr .u32 a0_1 (wrap64 (t533 - 1))) 1) == 1)) else (none)) else (some false)) else (some false))) = some r := by rw [if_neg (show ¬ (false = true) by decide)] at H; exact H
  clear H
  have H := H1
  clear H1
  replace H := Option.bind_eq_some_iff.mp H
  obtain ⟨t533, A70, H⟩ := H
  replace H : (if t533 ≥ 1 then (if t533 ≤ 32 then (if 0 ≤ (wrap64 (t533 - 1)) then (some ((Go.bits .and .u32 (shr .u32 a0_1 (wrap64 (t533 - 1))) 1) == 1)) else (none)) else (some false)) else (some false)) = some r := H
  have A7 := ax A70
  clear A70
  by_cases c8 : t533 ≥ 1
  ·rw [if_pos c8] at H
   have c8b0 : decide (1 ≤ t533) = true := decide_eq_true c8
   clear c8
   by_cases c9 : t533 ≤ 32
   ·rw [if_pos c9] at H
    have c9b0 : decide (t533 ≤ 32) = true := decide_eq_true c9
    clear c9
    obtain ⟨ji10, hji10⟩ : ∃ j_ : Int, (wrap64 (t533 - 1)) = j_ := ⟨_, rfl⟩
    replace H : (if 0 ≤ (ji10) then (some ((Go.bits .and .u32 (shr .u32 a0_1 (ji10)) 1) == 1)) else (none)) = some r := by first | (rw [hji10] at H; exact H) | (simp only [hji10] at H ⊢; exact H)
    (try rw [hji10] at A3)
    (try rw [hji10] at A7)
    have hji10w : (IntKind.i64.wrap (t533 - 1)) = ji10 := (i64_w _).trans hji10
    by_cases c11 : 0 ≤ (ji10)
    ·rw [if_pos c11] at H
     have c11b0 := eq_true c11
     have c11b1 : decide (0 ≤ (ji10)) = true := decide_eq_true c11
     clear c11
     obtain ⟨ji12, hji12⟩ : ∃ j_ : Int, (shr .u32 a0_1 (ji10)) = j_ := ⟨_, rfl⟩
     replace H : (some ((Go.bits .and .u32 (ji12) 1) == 1)) = some r := by first | (rw [hji12] at H; exact H) | (simp only [hji12] at H ⊢; exact H)
     (try rw [hji12] at A3)
     (try rw [hji12] at A7)
     have hji12_ : (a0_1 / 2 ^ min (ji10).toNat 32) = ji12 := hji12
     have hji12z : (ji10) ≤ 32 → (a0_1 / 2 ^ (ji10).toNat) = ji12 := shr_small hji12
     obtain rfl := Option.some.inj H
     go_enter Tryz.func46, Tryz.ntmps46
     go_wp2_with (first | ((with_reducible refine gate_dst (N := 2) rfl ?_); refine be_ 2 #[.int .u16 a0_0, .int .u32 a0_1] 45 ?_; intro gb531 hg w13 hbox hb; have n0_ := ax (below_step bl_ hb); have n1_ := ax (hbox); have n2_ := ax ((by rw [hg]; exact (below_size bl_) : w.heap.size ≤ gb531)); have n3_ := ax ((by rw [hg]; exact (below_size bl_) : w.heap.size ≤ gb531)); clear HB; have HB := n0_; have BK531 := n1_; have GW531 := n2_; have GE531 := n3_; clear n0_ n1_ n2_ n3_; clear hb hbox hg; have hcz14_0 : w13.cell? ⟨gb531, 0, none⟩ = some (.int .u16 a0_0) := (blk_cell BK531.out 0).trans rfl; have hcz14_1 : w13.cell? ⟨gb531, 1, none⟩ = some (.int .u32 a0_1) := (blk_cell BK531.out 1).trans rfl; have hfz14_0 := blk_frozen BK531.out 0; have hfz14_1 := blk_frozen BK531.out 1) | ((with_reducible refine gate_callee (f := 81) rfl ?_); refine goesL_ (some 9) rfl rfl Tryz.func81 kr rfl #[.int .u16 a1, .int .u16 a0_0] rfl gl_ ?_; (with_reducible refine (seq_Before.calls a1 a0_0 false _ A3.out).mono ?_); rintro e w' ⟨rfl, ⟨nd, rfl⟩⟩; refine ⟨_, rfl, ?_⟩) | ((with_reducible refine gate_callee (f := 91) rfl ?_); refine goesL_ (some 13) rfl rfl Tryz.func91 kr rfl #[.int .u16 a0_0, .int .u16 a1] rfl gl_ ?_; (with_reducible refine (seq_Ahead.calls a0_0 a1 t533 _ A7.out).mono ?_); rintro e w' ⟨rfl, ⟨nd, rfl⟩⟩; refine ⟨_, rfl, ?_⟩))
     go_ret
     exact ⟨by first | rfl | (simp [errW_none, errW_some] <;> rfl) | (simp only [← hji10, ← hji12]; first | rfl | (simp [errW_none, errW_some] <;> rfl)) | (simp [*, errW_none, errW_some] <;> rfl), by repeat (first | (with_reducible first | exact HB.out | apply below_alloc | apply pw_below_drewN | apply below_drew1 | refine below_set ?_ GE531.out) | exact HB.out)⟩
    ·rw [if_neg c11] at H
     exact absurd H (by simp)
   ·rw [if_neg c9] at H
    have c9b0 : decide (t533 ≤ 32) = false := decide_eq_false c9
    clear c9
    obtain rfl := Option.some.inj H
    go_enter Tryz.func46, Tryz.ntmps46
    go_wp2_with (first | ((with_reducible refine gate_dst (N := 2) rfl ?_); refine be_ 2 #[.int .u16 a0_0, .int .u32 a0_1] 45 ?_; intro gb531 hg w15 hbox hb; have n0_ := ax (below_step bl_ hb); have n1_ := ax (hbox); have n2_ := ax ((by rw [hg]; exact (below_size bl_) : w.heap.size ≤ gb531)); have n3_ := ax ((by rw [hg]; exact (below_size bl_) : w.heap.size ≤ gb531)); clear HB; have HB := n0_; have BK531 := n1_; have GW531 := n2_; have GE531 := n3_; clear n0_ n1_ n2_ n3_; clear hb hbox hg; have hcz16_0 : w15.cell? ⟨gb531, 0, none⟩ = some (.int .u16 a0_0) := (blk_cell BK531.out 0).trans rfl; have hcz16_1 : w15.cell? ⟨gb531, 1, none⟩ = some (.int .u32 a0_1) := (blk_cell BK531.out 1).trans rfl; have hfz16_0 := blk_frozen BK531.out 0; have hfz16_1 := blk_frozen BK531.out 1) | ((with_reducible refine gate_callee (f := 81) rfl ?_); refine goesL_ (some 9) rfl rfl Tryz.func81 kr rfl #[.int .u16 a1, .int .u16 a0_0] rfl gl_ ?_; (with_reducible refine (seq_Before.calls a1 a0_0 false _ A3.out).mono ?_); rintro e w' ⟨rfl, ⟨nd, rfl⟩⟩; refine ⟨_, rfl, ?_⟩) | ((with_reducible refine gate_callee (f := 91) rfl ?_); refine goesL_ (some 13) rfl rfl Tryz.func91 kr rfl #[.int .u16 a0_0, .int .u16 a1] rfl gl_ ?_; (with_reducible refine (seq_Ahead.calls a0_0 a1 t533 _ A7.out).mono ?_); rintro e w' ⟨rfl, ⟨nd, rfl⟩⟩; refine ⟨_, rfl, ?_⟩))
    go_ret
    exact ⟨by first | rfl | (simp [errW_none, errW_some] <;> rfl) | (simp [*, errW_none, errW_some] <;> rfl), by repeat (first | (with_reducible first | exact HB.out | apply below_alloc | apply pw_below_drewN | apply below_drew1 | refine below_set ?_ GE531.out) | exact HB.out)⟩
  ·rw [if_neg c8] at H
   have c8b0 : decide (1 ≤ t533) = false := decide_eq_false c8
   clear c8
   obtain rfl := Option.some.inj H
   go_enter Tryz.func46, Tryz.ntmps46
   go_wp2_with (first | ((with_reducible refine gate_dst (N := 2) rfl ?_); refine be_ 2 #[.int .u16 a0_0, .int .u32 a0_1] 45 ?_; intro gb531 hg w17 hbox hb; have n0_ := ax (below_step bl_ hb); have n1_ := ax (hbox); have n2_ := ax ((by rw [hg]; exact (below_size bl_) : w.heap.size ≤ gb531)); have n3_ := ax ((by rw [hg]; exact (below_size bl_) : w.heap.size ≤ gb531)); clear HB; have HB := n0_; have BK531 := n1_; have GW531 := n2_; have GE531 := n3_; clear n0_ n1_ n2_ n3_; clear hb hbox hg; have hcz18_0 : w17.cell? ⟨gb531, 0, none⟩ = some (.int .u16 a0_0) := (blk_cell BK531.out 0).trans rfl; have hcz18_1 : w17.cell? ⟨gb531, 1, none⟩ = some (.int .u32 a0_1) := (blk_cell BK531.out 1).trans rfl; have hfz18_0 := blk_frozen BK531.out 0; have hfz18_1 := blk_frozen BK531.out 1) | ((with_reducible refine gate_callee (f := 81) rfl ?_); refine goesL_ (some 9) rfl rfl Tryz.func81 kr rfl #[.int .u16 a1, .int .u16 a0_0] rfl gl_ ?_; (with_reducible refine (seq_Before.calls a1 a0_0 false _ A3.out).mono ?_); rintro e w' ⟨rfl, ⟨nd, rfl⟩⟩; refine ⟨_, rfl, ?_⟩) | ((with_reducible refine gate_callee (f := 91) rfl ?_); refine goesL_ (some 13) rfl rfl Tryz.func91 kr rfl #[.int .u16 a0_0, .int .u16 a1] rfl gl_ ?_; (with_reducible refine (seq_Ahead.calls a0_0 a1 t533 _ A7.out).mono ?_); rintro e w' ⟨rfl, ⟨nd, rfl⟩⟩; refine ⟨_, rfl, ?_⟩))
   go_ret
   exact ⟨by first | rfl | (simp [errW_none, errW_some] <;> rfl) | (simp [*, errW_none, errW_some] <;> rfl), by repeat (first | (with_reducible first | exact HB.out | apply below_alloc | apply pw_below_drewN | apply below_drew1 | refine below_set ?_ GE531.out) | exact HB.out)⟩
end
-- YtajiggmeappfaaaGreatDoorP8
section
attribute [local go_sem] max2_int min2_int max_two min_two max_three min_three max_four min_four
def seq_Plus.f (a0 : Int) (a1 : Int) : Option (Int) := some (IntKind.u16.wrap (a0 + (IntKind.u16.wrap (a1))))
theorem seq_Plus.calls (a0 : Int) (a1 : Int) (r : Int) (w : World) (h : seq_Plus.f a0 a1 = some r) :
  Calls Tryz.prog 18 #[.int .u16 a0, .int .i64 a1] w fun e w' => e = .returned (.int .u16 r) ∧ Drawn0 w w' := by
 have H : (some (IntKind.u16.wrap (a0 + (IntKind.u16.wrap (a1))))) = some r := h
 clear h
 obtain rfl := Option.some.inj H
 go_enter Tryz.func18, Tryz.ntmps18
 go_wp2
 go_ret
 exact ⟨rs_, dr_⟩
end
-- YtajiggmeappfaaaGreatDoorPHMap
def pl (b : Int) (n : Nat) : Int := IntKind.u16.wrap (b + IntKind.u16.wrap (n : Int))
theorem ahead_f {b : Int} (hb : 0 ≤ b ∧ b ≤ 65535) {n : Nat} (hn : n ≤ 33) : seq_Ahead.f b (pl b n) = some (n : Int) := by
 unfold seq_Ahead.f pl
 refine congrArg some ?_
 rw [IntKind.wrap_u16, IntKind.wrap_u16, IntKind.wrap_u16]
 unfold wrap64; omega
theorem before_f {b : Int} (hb : 0 ≤ b ∧ b ≤ 65535) {n : Nat} (hn : n ≤ 33) : seq_Before.f (pl b n) b = some false := by
 have e : seq_Ahead.f (pl b n) b = some (if n = 0 then 0 else 65536 - (n : Int)) := by
  unfold seq_Ahead.f pl
  refine congrArg some ?_
  rw [IntKind.wrap_u16, IntKind.wrap_u16, IntKind.wrap_u16]
  by_cases h0 : n = 0
  ·rw [if_pos h0]; subst h0; unfold wrap64; omega
  ·rw [if_neg h0]; unfold wrap64; omega
 unfold seq_Before.f
 rw [e, Option.bind_some]
 by_cases h0 : n = 0
 ·rw [if_pos h0, if_neg (by decide)]
 ·rw [if_neg h0, if_pos (by omega), decide_eq_false (by omega)]
def ors (ms : List Nat) : Nat := ms.foldl (fun m n => m ||| 2 ^ (n - 1)) 0
theorem ors_snoc (ms : List Nat) (n : Nat) : ors (ms ++ [n]) = ors ms ||| 2 ^ (n - 1) := by unfold ors; rw [List.foldl_append]; rfl
theorem ors_lt (ms : List Nat) (h : ∀ n ∈ ms, 1 ≤ n ∧ n ≤ 32) : ors ms < 2 ^ 32 := by
 have key : ∀ (l : List Nat) (m : Nat), m < 2 ^ 32 → (∀ n ∈ l, 1 ≤ n ∧ n ≤ 32) → l.foldl (fun m n => m ||| 2 ^ (n - 1)) m < 2 ^ 32 := by
  intro l
  induction l with
  | nil => intro m hm _; exact hm
  | cons n l ih =>
   intro m hm hl
   have hn := hl n List.mem_cons_self
   refine ih _ (Nat.or_lt_two_pow hm ?_) (fun z hz => hl z (List.mem_cons_of_mem _ hz))
   exact Nat.pow_lt_pow_right (by decide) (by omega)
 exact key ms 0 (by decide) h
theorem ors_bit (ms : List Nat) (h : ∀ n ∈ ms, 1 ≤ n ∧ n ≤ 32) (j : Nat) : (ors ms).testBit j = decide (j + 1 ∈ ms) := by
 have key : ∀ (l : List Nat) (m : Nat), (∀ n ∈ l, 1 ≤ n ∧ n ≤ 32) → (l.foldl (fun m n => m ||| 2 ^ (n - 1)) m).testBit j = (m.testBit j || decide (j + 1 ∈ l)) := by
  intro l
  induction l with
  | nil => intro m _; simp
  | cons n l ih =>
   intro m hl
   have hn := hl n List.mem_cons_self
   rw [List.foldl_cons, ih _ (fun z hz => hl z (List.mem_cons_of_mem _ hz)), Nat.testBit_or, Nat.testBit_two_pow, Bool.or_assoc]
   congr 1
   have e : decide (n - 1 = j) = decide (j + 1 = n) := by
    by_cases c : n - 1 = j
    ·rw [decide_eq_true c, decide_eq_true (by omega)]
    ·rw [decide_eq_false c, decide_eq_false (by omega)]
   rw [e]
   simp [List.mem_cons]
 have := key ms 0 h
 rw [Nat.zero_testBit, Bool.false_or] at this
 exact this
theorem shl32 (j : Nat) (h : j < 32) : shl .u32 1 (j : Int) = ((2 ^ j : Nat) : Int) := by
 have all : ∀ s : Fin 32, shl .u32 1 ((s.val : Nat) : Int) = ((2 ^ s.val : Nat) : Int) := by decide +kernel
 exact all ⟨j, h⟩
theorem shr32 (m j : Nat) (h : j < 32) : shr .u32 (m : Int) (j : Int) = ((m / 2 ^ j : Nat) : Int) := by
 unfold shr
 rw [show min ((j : Int)).toNat IntKind.u32.bits = j from by simp [IntKind.bits]; omega]
 rw [show ((2 : Int) ^ j) = ((2 ^ j : Nat) : Int) from by simp]
 exact (Int.natCast_ediv m (2 ^ j)).symm
theorem of_l0 {b : Int} (hb : 0 ≤ b ∧ b ≤ 65535) (ms : List Nat) (hms : ∀ n ∈ ms, 1 ≤ n ∧ n ≤ 32) (hl : ms.length ≤ 20) (d : Nat) : ∀ k i : Nat, i + d = ms.length → d < k →
  ackmap_Of.l0 k b (ms.map (pl b)) ((ms.map (pl b)).length : Int) (i : Int) b ((ors (ms.take i) : Nat) : Int) = some (b, ((ors ms : Nat) : Int), 0) := by
 have hll : (ms.map (pl b)).length = ms.length := List.length_map ..
 induction d with
 | zero =>
  intro k i hi hk
  obtain ⟨k, rfl⟩ := pred hk
  rw [ackmap_Of.l0.eq_2, if_neg (by omega), List.take_of_length_le (by omega)]
 | succ d ih =>
  intro k i hi hk
  obtain ⟨k, rfl⟩ := pred hk
  have hlt : i < ms.length := by omega
  have hn := hms ms[i] (List.getElem_mem hlt)
  have hrd : rd (ms.map (pl b)) (i : Int) = pl b ms[i] := by
   rw [rd_get _ i (by omega), List.getElem_map]
  have h1 := ih k (i + 1) (by omega) (by omega)
  have hw : wrap64 ((ms[i] : Int) - 1) = ((ms[i] - 1 : Nat) : Int) := by unfold wrap64; omega
  have hor : Go.bits .or .u32 ((ors (ms.take i) : Nat) : Int) (shl .u32 1 (wrap64 ((ms[i] : Int) - 1))) = ((ors (ms.take (i + 1)) : Nat) : Int) := by
   rw [hw, shl32 _ (by omega), List.take_succ_eq_append_getElem hlt, ors_snoc]
   refine Go.u32_or_nat _ _ ?_ ?_
   ·exact Nat.lt_of_lt_of_le (ors_lt _ (fun n hn => hms n (List.mem_of_mem_take hn))) (by decide)
   ·exact Nat.lt_of_lt_of_le (Nat.pow_lt_pow_right (by decide) (by omega) : 2 ^ (ms[i] - 1) < 2 ^ 32) (by decide)
  rw [ackmap_Of.l0.eq_2, if_pos (by omega), if_pos (by omega), if_pos (by omega), hrd, ahead_f hb (by omega), Option.bind_some, before_f hb (by omega), Option.bind_some, if_neg (by decide), if_neg (by omega), if_neg (by omega), if_pos (by rw [hw]; omega), hor, wrap_succ i (by omega)]
  exact h1
theorem of_f {b : Int} (hb : 0 ≤ b ∧ b ≤ 65535) (ms : List Nat) (hms : ∀ n ∈ ms, 1 ≤ n ∧ n ≤ 32) (hl : ms.length ≤ 20) : ackmap_Of.f 100 b (ms.map (pl b)) = some (b, ((ors ms : Nat) : Int), 0) :=
 of_l0 hb ms hms hl ms.length 100 0 (by omega) (by omega)
theorem has_f {b : Int} (hb : 0 ≤ b ∧ b ≤ 65535) (ms : List Nat) (hms : ∀ n ∈ ms, 1 ≤ n ∧ n ≤ 32) (n : Nat) (hn : n ≤ 32) : ackmap_Has.f b ((ors ms : Nat) : Int) (pl b n) = some (decide (n ∈ ms)) := by
 unfold ackmap_Has.f
 rw [before_f hb (by omega), Option.bind_some, if_neg (by decide), ahead_f hb (by omega), Option.bind_some]
 by_cases h0 : n = 0
 ·subst h0
  rw [if_neg (by decide), decide_eq_false (fun h => by have := hms 0 h; omega)]
 ·have hw : wrap64 ((n : Int) - 1) = ((n - 1 : Nat) : Int) := by unfold wrap64; omega
  rw [if_pos (by omega), if_pos (by omega), if_pos (by rw [hw]; omega), hw, shr32 _ _ (by omega)]
  have hlt := ors_lt ms hms
  have hdv : ors ms / 2 ^ (n - 1) ≤ ors ms := Nat.div_le_self _ _
  have ea : Go.bits .and .u32 ((ors ms / 2 ^ (n - 1) : Nat) : Int) 1 = ((ors ms / 2 ^ (n - 1) % 2 : Nat) : Int) := by
   rw [show (1 : Int) = ((1 : Nat) : Int) from rfl, Go.u32_and_nat _ 1 (by omega) (by decide), Go.nat_mask1]
  rw [ea]
  have hb := ors_bit ms hms (n - 1)
  rw [Nat.testBit_eq_decide_div_mod_eq, show n - 1 + 1 = n by omega] at hb
  refine congrArg some ?_
  by_cases c : n ∈ ms
  ·rw [decide_eq_true c] at hb ⊢
   have := of_decide_eq_true hb
   rw [this]; rfl
  ·rw [decide_eq_false c] at hb ⊢
   have := of_decide_eq_false hb
   have e2 : ors ms / 2 ^ (n - 1) % 2 = 0 := by omega
   rw [e2]; rfl
theorem pl_nm (first : Int) (b n : Nat) (hb : n ≤ 100) : pl (nm first b) n = nm first (b + n) := by
 unfold pl nm
 rw [IntKind.wrap_u16, IntKind.wrap_u16]; omega
theorem before_lt (first : Int) {i b : Nat} (h : i < b) (hb : b ≤ 100) : seq_Before.f (nm first i) (nm first b) = some true := by
 unfold seq_Before.f seq_Ahead.f nm
 rw [IntKind.wrap_u16, Option.bind_some]
 have e : wrap64 (((first + ↑b) % 65536 - (first + ↑i) % 65536) % 65536) = (b : Int) - i := by unfold wrap64; omega
 rw [e, if_pos (by omega), decide_eq_true (by omega)]
theorem has_nm (first : Int) {b : Nat} (hb : b ≤ 50) (ms : List Nat) (hms : ∀ n ∈ ms, 1 ≤ n ∧ n ≤ 32) (i : Nat) (hi : i ≤ b + 32) : ackmap_Has.f (nm first b) ((ors ms : Nat) : Int) (nm first i) = some (decide (i < b ∨ (b ≤ i ∧ i - b ∈ ms))) := by
 by_cases c : i < b
 ·unfold ackmap_Has.f
  rw [before_lt first c (by omega), Option.bind_some, if_pos rfl, decide_eq_true (.inl c)]
 ·have e : nm first i = pl (nm first b) (i - b) := by rw [pl_nm _ _ _ (by omega)]; congr 1; omega
  rw [e, has_f (nm_rng first b) ms hms (i - b) (by omega)]
  refine congrArg some ?_
  by_cases d : i - b ∈ ms
  ·rw [decide_eq_true d, decide_eq_true (.inr ⟨by omega, d⟩)]
  ·rw [decide_eq_false d, decide_eq_false (fun h => h.elim (fun h => c h) (fun h => d h.2))]
-- YtajiggmeappfaaaGreatDoorPSFarL
theorem plus_calls (first : Int) (i k : Nat) (x : Int) (hx : x = (k : Int)) (hk : k ≤ 100) (w : World) : Calls Tryz.prog 18 #[.int .u16 (nm first i), .int .i64 x] w fun e w' => e = .returned (.int .u16 (nm first (i + k))) ∧ Below w.heap.size w w' := by
 refine (seq_Plus.calls (nm first i) x (nm first (i + k)) w ?_).mono (fun e w' h => ⟨h.1, h.2.below⟩)
 unfold seq_Plus.f nm
 rw [IntKind.wrap_u16, IntKind.wrap_u16, hx]
 refine congrArg some ?_
 omega
def sfar1.T : Bool × List (List Nat × List Nat) := (true, [([], []), ([], []), ([1], [1]), ([], []), ([3], [3]), ([4], [4]), ([5], [5]), ([6], [6]), ([0, 2, 7], [0, 2, 7])])
def sfar1.B : List Nat := [0, 0, 2, 0, 8, 24, 56, 120, 255]
theorem sfar1.tab : rtab .any (opsOf Tryz.f45 1) = sfar1.T := by kernel_rfl
theorem sfar1.bits : waitsOk sfar1.T.2 sfar1.B = true := by kernel_rfl
def sfar6.T : Bool × List (List Nat × List Nat) := (true, [([], []), ([0], [0]), ([], []), ([1, 2], [1, 2]), ([3], [3]), ([4], [4]), ([5], [5]), ([6], [6]), ([6], [6]), ([8, 6], [6, 8]), ([6], [6]), ([10, 6], [6, 10]), ([9, 11, 6, 6], [6, 9, 11]), ([6], [6]), ([13, 6], [6, 13]), ([14, 6], [6, 14]), ([15, 6], [6, 15]), ([16, 6], [6, 16]), ([17, 6], [6, 17]), ([7, 12, 18, 12, 6], [6, 7, 12, 18]), ([6, 19], [6, 19])])
def sfar6.B : List Nat := [0, 1, 0, 7, 15, 31, 63, 127, 127, 383, 127, 1151, 3967, 127, 8319, 24703, 57471, 123007, 254079, 524287, 1048575]
theorem sfar6.tab : rtab .any (opsOf Tryz.f45 6) = sfar6.T := by kernel_rfl
theorem sfar6.bits : waitsOk sfar6.T.2 sfar6.B = true := by kernel_rfl
def sfar6b.T : Bool × List (List Nat × List Nat) := (true, [([], []), ([0], [0]), ([], []), ([1, 2], [1, 2]), ([3], [3]), ([4], [4]), ([5], [5]), ([6], [6]), ([6], [6]), ([8, 6], [6, 8]), ([6], [6]), ([10, 6], [6, 10]), ([9, 11, 6, 6], [6, 9, 11]), ([6], [6]), ([13, 6], [6, 13]), ([14, 6], [6, 14]), ([15, 6], [6, 15]), ([16, 6], [6, 16]), ([17, 6], [6, 17]), ([7, 12, 18, 12, 6], [6, 7, 12, 18]), ([6, 19], [6, 19])])
def sfar6b.B : List Nat := [0, 1, 0, 7, 15, 31, 63, 127, 127, 383, 127, 1151, 3967, 127, 8319, 24703, 57471, 123007, 254079, 524287, 1048575]
theorem sfar6b.tab : rtab .any (opsOf Tryz.f45 6) = sfar6b.T := by kernel_rfl
theorem sfar6b.bits : waitsOk sfar6b.T.2 sfar6b.B = true := by kernel_rfl
theorem sfar_calls {w : World} {sb gk off cap g : Nat} {first : Int} {n lo : Nat} {L : List Nat} {lv rn : Int} (h : SNB w sb (nm first lo) (kv gk off cap L) g lv rn) (hL : L.length = n - lo) (hlo : lo ≤ n ∧ n ≤ 6) {b : Nat} (hb : b ≤ n) (ms : List Nat) (hms : ∀ m ∈ ms, 1 ≤ m ∧ m ≤ 32 ∧ b + m < n) :
  Calls Tryz.prog 45 #[.pointer (some ⟨sb, 0, none⟩), .agg #[.int .u16 (nm first b), .int .u32 ((ors ms : Nat) : Int)]] w fun e w' => e = .returned (.bool false) ∧ Below w.heap.size w w' := by
 obtain ⟨nl, hnl⟩ : ∃ nl, nl = L.length := ⟨_, rfl⟩
 rw [← hnl] at hL
 obtain ⟨mr, hmr⟩ : ∃ mr : Int, mr = ((ors ms : Nat) : Int) := ⟨_, rfl⟩
 rw [← hmr]
 have HM := ax hmr
 have HP := ax (And.intro hL (And.intro hlo (And.intro hb hms)))
 have hba := below_alloc (Below.refl w.heap.size w) (.cells #[.int .u16 (nm first b), .int .u32 mr] 45)
 have hbb := blk_new w (.cells #[.int .u16 (nm first b), .int .u32 mr] 45)
 obtain ⟨bx, hbx⟩ : ∃ bx, bx = w.heap.size := ⟨_, rfl⟩
 obtain ⟨w1, hw1⟩ : ∃ w1, w1 = w.alloc (.cells #[.int .u16 (nm first b), .int .u32 mr] 45) := ⟨_, rfl⟩
 rw [← hw1] at hba hbb
 rw [← hbx] at hbb
 have hs1 := (hba.block sb (blk_lt h)).trans h
 have hsl : kv gk off cap L = .slice (some ⟨gk, off, none⟩) nl cap := by rw [hnl]
 have HSN := ax (show ∀ w', Below w1.heap.size w1 w' → w'.cell? ⟨bx, 1, none⟩ = some (.int .u32 mr) ∧ w'.cell? ⟨bx, 0, none⟩ = some (.int .u16 (nm first b)) ∧ w'.cell? ⟨sb, 4, none⟩ = some (.slice (some ⟨gk, off, none⟩) nl cap) from fun w' hb' => ⟨blk_cell ((hb'.block bx (blk_lt hbb)).trans hbb) 1, blk_cell ((hb'.block bx (blk_lt hbb)).trans hbb) 0, by rw [← hsl]; exact blk_cell ((hb'.block sb (blk_lt hs1)).trans hs1) 4⟩)
 have HBE := ax (show ∀ (i : Nat) (most : Int), i ≤ 100 → (i : Int) - lo ≤ most → ∀ w', Below w1.heap.size w1 w' → Calls Tryz.prog 94 #[.pointer (some ⟨sb, 0, none⟩), .int .u16 (nm first i), .int .i64 most] w' fun e w'' => e = .returned (.bool false) ∧ Below w'.heap.size w' w'' from fun i most h1 h2 w' hb' => beyond_calls ((hb'.block sb (blk_lt hs1)).trans hs1) h1 (by omega) most h2)
 have HB1 := ax hba
 have HBX := ax hbx
 have HW := ax hw1
 have HI0 := ax (HSN.out w1.drew (below_drew1 (Below.refl _ _)))
 have hnl6 : (nl : Int) ≤ 6 := by omega
 have hwl : wrap64 ((nl : Int) - 1) = (nl : Int) - 1 := by unfold wrap64; omega
 clear h hL hlo hb hms hnl hmr hba hbb hbx hw1 hs1 hsl
 go_enter Tryz.func45, Tryz.ntmps45
 go_wp2_with fail
 rw [← HW.out, ← HBX.out]
 refine start_ (n := 9) (S := (fun w' => w'.cell? ⟨bx, 1, none⟩ = some (.int .u32 mr) ∧ w'.cell? ⟨bx, 0, none⟩ = some (.int .u16 (nm first b)) ∧ w'.cell? ⟨sb, 4, none⟩ = some (.slice (some ⟨gk, off, none⟩) nl cap))) (ds := [8]) #[false, false, false, false, false, false, false, false, false] kr rfl rfl HI0.out (fun hHeld => ?_)
 refine with_tabW sfar1.tab sfar1.bits (fun HT_ HW_ => ?_)
 refine pu_ 0 6 HT_ ?_; refine pu_ 1 7 HT_ ?_; refine tk_ 2 8 HT_ HW_ hHeld ?_; refine pu_ 3 9 HT_ ?_; refine pu_ 4 10 HT_ ?_; refine pu_ 5 11 HT_ ?_; refine tk_ 6 12 HT_ HW_ hHeld ?_; refine pu_ 7 13 HT_ ?_
 refine last_ (i := 8) (N := some 14) #[true, true, true, true, true, true, true, true, true] rfl rfl (one_of HT_.out kr) (by decide) (fun K hK => ?_)
 refine goes_ Tryz.func94 kr rfl #[.pointer (some ⟨sb, 0, none⟩), .int .u16 (nm first b), .int .i64 ↑nl] (by rfl) rfl rfl gs_ ?_
 refine (HBE.out b nl (by have := HP.out; omega) (by have := HP.out.1; have := HP.out.2.2.1; omega) _ (below_drew1 (Below.refl _ _))).mono ?_
 rintro e w2 ⟨rfl, hb2⟩
 have HB2 := ax (below_step (below_drew1 (Below.refl w1.heap.size w1)) hb2)
 clear hb2
 refine ⟨_, rfl, ?_⟩
 refine hK.out _ _ ?_
 clear hK K
 refine norm_ (a' := ?_) ?_ ?_
 rotate_left
 ·show Act.put _ (some 14) _ = _
  simp only [Act.put, List.setIfInBounds_toArray, List.set_cons_zero, List.set_cons_succ, i64_w, i32_w]
  rfl
 refine done_ (done_of HT_.out kr) ?_
 clear hHeld HT_ HW_ HI0
 go_wp2_with fail
 go_loopw [15] (fun v15 wr => ∃ (k : Nat), v15 = .int .i64 (k : Int) ∧ k ≤ 32 ∧ Aside0 (Below w1.heap.size w1 wr)) (fun v15 _ => 32 - (intOf v15).toNat)
 case atStart => exact ⟨0, by simp, by omega, HB2⟩
 case round =>
  clear HB2
  obtain ⟨k, rfl, hk, HB⟩ := hrel
  by_cases hlt : k < 32
  ·have hlb : decide ((k : Int) < 32) = true := decide_eq_true (by omega)
   have hk0 : (0 : Int) ≤ (k : Int) := by omega
   have hkn : (k : Int) < 32 := by omega
   have hk1 : wrap64 ((k : Int) + 1) = (k : Int) + 1 := by unfold wrap64; omega
   have HI := ax (HSN.out _ (below_drew1 HB.out))
   obtain ⟨z, hz⟩ : ∃ z : Int, z = ((ors ms / 2 ^ k : Nat) : Int) := ⟨_, rfl⟩
   have hsh : mr / 2 ^ k = z := by rw [hz, HM.out, Int.natCast_ediv]; simp
   have hlt' := ors_lt ms (fun m hm => ⟨(HP.out.2.2.2 m hm).1, (HP.out.2.2.2 m hm).2.1⟩)
   have hdv : ors ms / 2 ^ k ≤ ors ms := Nat.div_le_self _ _
   have ea : Go.bits .and .u32 z 1 = ((ors ms / 2 ^ k % 2 : Nat) : Int) := by
    rw [hz, show (1 : Int) = ((1 : Nat) : Int) from rfl, Go.u32_and_nat _ 1 (by omega) (by decide), Go.nat_mask1]
   have hbit := ors_bit ms (fun m hm => ⟨(HP.out.2.2.2 m hm).1, (HP.out.2.2.2 m hm).2.1⟩) k
   rw [Nat.testBit_eq_decide_div_mod_eq] at hbit
   by_cases c : k + 1 ∈ ms
   ·have han : Go.bits .and .u32 z 1 = 1 := by
     rw [decide_eq_true c] at hbit
     rw [ea, of_decide_eq_true hbit]; rfl
    have hkb : b + (k + 1) < n := (HP.out.2.2.2 _ c).2.2
    have HK := ax (And.intro hkb hlt)
    clear hz hlt' hdv ea hbit c hkb
    go_wp2_with fail
    refine start_ (n := 21) (S := (fun w' => w'.cell? ⟨bx, 1, none⟩ = some (.int .u32 mr) ∧ w'.cell? ⟨bx, 0, none⟩ = some (.int .u16 (nm first b)) ∧ w'.cell? ⟨sb, 4, none⟩ = some (.slice (some ⟨gk, off, none⟩) nl cap))) (ds := [19]) #[false, false, false, false, false, false, false, false, false, false, false, false, false, false, false, false, false, false, false, false, false] kr rfl rfl HI.out (fun hHeld => ?_)
    refine with_tabW sfar6.tab sfar6.bits (fun HT_ HW_ => ?_)
    refine pu_ 0 18 HT_ ?_; refine tk_ 1 19 HT_ HW_ hHeld ?_; refine pu_ 2 20 HT_ ?_; refine pu_ 3 21 HT_ ?_; refine pu_ 4 22 HT_ ?_; refine pu_ 5 23 HT_ ?_; refine pu_ 6 24 HT_ ?_; refine pu_ 7 25 HT_ ?_; refine pu_ 8 26 HT_ ?_; refine tk_ 9 27 HT_ HW_ hHeld ?_; refine pu_ 10 28 HT_ ?_; refine pu_ 11 29 HT_ ?_; refine pu_ 13 31 HT_ ?_; refine pu_ 14 32 HT_ ?_; refine pu_ 15 33 HT_ ?_; refine tk_ 16 34 HT_ HW_ hHeld ?_; refine pu_ 17 35 HT_ ?_; refine pu_ 18 36 HT_ ?_
    refine on_ 12 HT_ fun K hK => ?_
    refine goes_ Tryz.func18 kr rfl #[.int .u16 (nm first b), .int .i64 (↑k + 1)] (by rfl) rfl rfl gs_ ?_
    refine (plus_calls first b (k + 1) ((k : Int) + 1) (by omega) (by have := HK.out.2; omega) _).mono ?_
    rintro e w3 ⟨rfl, hb3⟩
    have HB3 := ax (below_step (below_drew1 HB.out) hb3)
    clear hb3
    refine ⟨_, rfl, ?_⟩
    refine hK.out _ _ (HSN.out _ HB3.out) (fun hHeld => ?_)
    clear hK K
    refine norm_ (a' := ?_) ?_ ?_
    rotate_left
    ·show Act.put _ (some 30) _ = _
     simp only [Act.put, List.setIfInBounds_toArray, List.set_cons_zero, List.set_cons_succ, i64_w, i32_w]
     rfl
    refine last_ (i := 19) (N := some 37) #[true, true, true, true, true, true, true, true, true, true, true, true, true, true, true, true, true, true, true, true, false] rfl rfl (one_of HT_.out kr) (by decide) (fun K hK => ?_)
    refine goes_ Tryz.func94 kr rfl #[.pointer (some ⟨sb, 0, none⟩), .int .u16 (nm first (b + (k + 1))), .int .i64 (↑nl - 1)] (by rfl) rfl rfl gs_ ?_
    refine (HBE.out (b + (k + 1)) ((nl : Int) - 1) (by have := HP.out; have := HK.out; omega) (by have := HP.out.1; have := HK.out.1; omega) _ HB3.out).mono ?_
    rintro e w4 ⟨rfl, hb4⟩
    have HB4 := ax (below_step HB3.out hb4)
    clear hb4
    refine ⟨_, rfl, ?_⟩
    refine hK.out _ _ ?_
    clear hK K
    refine norm_ (a' := ?_) ?_ ?_
    rotate_left
    ·show Act.put _ (some 37) _ = _
     simp only [Act.put, List.setIfInBounds_toArray, List.set_cons_zero, List.set_cons_succ, i64_w, i32_w]
     rfl
    refine pu_ 20 38 HT_ ?_
    refine done_ (done_of HT_.out kr) ?_
    clear hHeld HT_ HW_ HI
    go_wp2_with fail
    go_roundw
    case rel => exact ⟨k + 1, by simp, by omega, HB4⟩
    case measure => simp [intOf]; omega
   ·have han : Go.bits .and .u32 z 1 = 0 := by
     rw [decide_eq_false c] at hbit
     have := of_decide_eq_false hbit
     have e2 : ors ms / 2 ^ k % 2 = 0 := by omega
     rw [ea, e2]; rfl
    clear hz hlt' hdv ea hbit c
    go_wp2_with fail
    refine start_ (n := 21) (S := (fun w' => w'.cell? ⟨bx, 1, none⟩ = some (.int .u32 mr) ∧ w'.cell? ⟨bx, 0, none⟩ = some (.int .u16 (nm first b)) ∧ w'.cell? ⟨sb, 4, none⟩ = some (.slice (some ⟨gk, off, none⟩) nl cap))) (ds := []) #[false, false, false, false, false, false, false, false, false, false, false, false, false, false, false, false, false, false, false, false, false] kr rfl rfl HI.out (fun hHeld => ?_)
    refine with_tabW sfar6b.tab sfar6b.bits (fun HT_ HW_ => ?_)
    refine pu_ 0 18 HT_ ?_; refine tk_ 1 19 HT_ HW_ hHeld ?_; refine pu_ 2 20 HT_ ?_; refine pu_ 3 21 HT_ ?_; refine pu_ 4 22 HT_ ?_; refine pu_ 5 23 HT_ ?_; refine pu_ 6 24 HT_ ?_; refine pn_ 7 25 HT_ ?_; refine pn_ 8 26 HT_ ?_; refine pn_ 9 27 HT_ ?_; refine pn_ 10 28 HT_ ?_; refine pn_ 11 29 HT_ ?_; refine pn_ 12 30 HT_ ?_; refine pn_ 13 31 HT_ ?_; refine pn_ 14 32 HT_ ?_; refine pn_ 15 33 HT_ ?_; refine pn_ 16 34 HT_ ?_; refine pn_ 17 35 HT_ ?_; refine pn_ 18 36 HT_ ?_; refine pn_ 19 37 HT_ ?_; refine pu_ 20 38 HT_ ?_
    refine done_ (done_of HT_.out kr) ?_
    clear hHeld HT_ HW_ HI
    go_wp2_with fail
    go_roundw
    case rel => exact ⟨k + 1, by simp, by omega, ⟨below_drew1 HB.out⟩⟩
    case measure => simp [intOf]; omega
  ·have hlb : decide ((k : Int) < 32) = false := decide_eq_false (by omega)
   go_wp2_with fail
   have hrs : (Tryz.f45).results = #[.tmp 4] := by kernel_rfl
   refine bodyPost_ret (results_tmp hrs _ _ _) rfl ?_
   exact ⟨rfl, below_step HB1.out HB.out⟩
-- YtajiggmeappfaaaGreatDoorPSAcked
abbrev HasM (b : Nat) (ms : List Nat) (i : Nat) : Prop := i < b ∨ (b ≤ i ∧ i - b ∈ ms)
def keptOf (w : World) (sb : Nat) : Nat := match w.cell? ⟨sb, 4, none⟩ with
 | some (.slice _ n _) => n
 | _ => 0
theorem keptOf_eq {w : World} {sb gk off cap g : Nat} {base : Int} {L : List Nat} {lv rn : Int} (h : SNB w sb base (kv gk off cap L) g lv rn) : keptOf w sb = L.length := by
 unfold keptOf
 rw [show w.cell? ⟨sb, 4, none⟩ = some (kv gk off cap L) from blk_cell h 4]
theorem SD.cut {w w' : World} {S sb g mp gk : Nat} {first : Int} {n lo : Nat} {Ms : Nat → List Int} {X : Nat → Nat} {Q : Nat → Option Nat} {ak : Nat → Bool} {T : Nat → Int} {now : Int} {V : Nat → Value} {ts : List (Int × Int)} (h : SD w S sb g mp gk first n lo Ms X Q ak T now V ts (fun _ => False)) (hlo : lo < n) (ha : ak lo = true) {off cap : Nat} {lv rn : Int}
  (hs : SNB w' sb (nm first (lo + 1)) (kv gk off cap (rowX X (lo + 1) n)) g lv rn) (hk : KR w' gk off cap (rowX X (lo + 1) n)) (hl : (0 ≤ lv ∧ lv ≤ 2) ∧ (0 ≤ rn ∧ rn ≤ 3)) (hp : Keep (fun k => k = sb) w w') :
  SD w' S sb g mp gk first n (lo + 1) Ms X Q ak T now V ts (fun _ => False) := by
 obtain ⟨off0, cap0, lv0, rn0, h1, _⟩ := h.box
 have hne : ∀ (k : Nat) (cs : Array Value) (t : TypeId), w.heap[k]? = some (.cells cs t (0, 0)) → t ≠ 82 → w'.heap[k]? = w.heap[k]? := fun k cs t hk ht => hp.block k (blk_lt hk) (fun e => by have e : k = sb := e; subst e; exact two_types hk h1 ht)
 refine ⟨by have := h.le; omega, h.byts, ⟨off, cap, lv, rn, hs, hk, hl⟩, fun i hi hn => (h.en i (by omega) hn).keep (fun k cs hk => ?_), h.wh.keep (fun k hk => hp.block k (h.wh.foot k hk).1 (fun e => h.wh.typed h1 (by decide) (by decide) (by have e : k = sb := e; rw [← e]; exact hk))), fun i j hi => h.xinj i j (by omega) |> fun f h1 h2 h3 => f h1 (by omega) h3, fun i j k hi h1 h2 => h.qinj i j k (by omega) h1 (by omega), ⟨h.low.1, fun i hi => h.low.2.1 i (by omega), fun i k hi => h.low.2.2 i k (by omega)⟩, fun p hp => ?_, fun i hi => h.has i (by omega), h.lt, h.lrng⟩
 ·rcases hk with ⟨hk, _⟩ | ⟨hk, _⟩ | hk
  ·exact hne _ _ _ hk (by decide)
  ·exact hne _ _ _ hk (by decide)
  ·exact hne _ _ _ hk (by decide)
 ·obtain ⟨i, h2, h3, h4, h5, h6, h7⟩ := h.tim p hp
  have : i ≠ lo := fun e => by rw [e, ha] at h6; cases h6
  exact ⟨i, by omega, h3, by omega, h5, h6, h7⟩
def sacked8a.T : Bool × List (List Nat × List Nat) := (true, [([], []), ([0], [0]), ([1], [1]), ([2], [2]), ([3], [3]), ([4], [4]), ([5], [5]), ([5], [5]), ([7, 5], [5, 7]), ([8, 5], [5, 8]), ([9, 5], [5, 9]), ([6, 10, 5, 5], [5, 6, 10]), ([5, 11], [5, 11])])
def sacked8a.B : List Nat := [0, 1, 3, 7, 15, 31, 63, 63, 191, 447, 959, 2047, 4095]
theorem sacked8a.tab : rtab .any (opsOf Tryz.f15 8) = sacked8a.T := by kernel_rfl
theorem sacked8a.bits : waitsOk sacked8a.T.2 sacked8a.B = true := by kernel_rfl
def sacked8b.T : Bool × List (List Nat × List Nat) := (true, [([], []), ([0], [0]), ([1], [1]), ([2], [2]), ([3], [3]), ([4], [4]), ([5], [5]), ([5], [5]), ([7, 5], [5, 7]), ([8, 5], [5, 8]), ([9, 5], [5, 9]), ([6, 10, 5, 5], [5, 6, 10]), ([5, 11], [5, 11])])
def sacked8b.B : List Nat := [0, 1, 3, 7, 15, 31, 63, 63, 191, 447, 959, 2047, 4095]
theorem sacked8b.tab : rtab .any (opsOf Tryz.f15 8) = sacked8b.T := by kernel_rfl
theorem sacked8b.bits : waitsOk sacked8b.T.2 sacked8b.B = true := by kernel_rfl
def sacked8c.T : Bool × List (List Nat × List Nat) := (true, [([], []), ([0], [0]), ([1], [1]), ([2], [2]), ([3], [3]), ([4], [4]), ([5], [5]), ([5], [5]), ([7, 5], [5, 7]), ([8, 5], [5, 8]), ([9, 5], [5, 9]), ([6, 10, 5, 5], [5, 6, 10]), ([5, 11], [5, 11])])
def sacked8c.B : List Nat := [0, 1, 3, 7, 15, 31, 63, 63, 191, 447, 959, 2047, 4095]
theorem sacked8c.tab : rtab .any (opsOf Tryz.f15 8) = sacked8c.T := by kernel_rfl
theorem sacked8c.bits : waitsOk sacked8c.T.2 sacked8c.B = true := by kernel_rfl
theorem sacked_calls {w : World} {S sb g mp gk : Nat} {first : Int} {n lo : Nat} {Ms : Nat → List Int} {X : Nat → Nat} {Q : Nat → Option Nat} {ak : Nat → Bool} {now : Int} {V : Nat → Value} {ts : List (Int × Int)} (h : SD w S sb g mp gk first n lo Ms X Q ak (fun _ => now) now V ts (fun _ => False)) (hnow : now ≤ 1000) {b : Nat} (hb : b ≤ n) (ms : List Nat) (hms : ∀ m ∈ ms, 1 ≤ m ∧ m ≤ 32 ∧ b + m < n) (htr : ∀ i, lo ≤ i → i < n → HasM b ms i → (Q i).isSome = true) (hSw : S ≤ w.heap.size) :
  Calls Tryz.prog 15 #[.pointer (some ⟨sb, 0, none⟩), .agg #[.int .u16 (nm first b), .int .u32 ((ors ms : Nat) : Int)]] w fun e w' => e = .returned (.int .i64 0) ∧ ∃ (lo' : Nat) (ak' : Nat → Bool) (V' : Nat → Value) (ts' : List (Int × Int)),
   lo ≤ lo' ∧ SD w' S sb g mp gk first n lo' Ms X Q ak' (fun _ => now) now V' ts' (fun _ => False) ∧ (∀ i, lo ≤ i → i < n → (ak' i = true ↔ ak i = true ∨ HasM b ms i)) ∧ (∀ i, lo ≤ i → i < lo' → ak' i = true) ∧ (lo' < n → ak' lo' = false) ∧
   (∀ i t, i ≤ 100 → (nm first i, t) ∈ ts → ak' i = false → (nm first i, t) ∈ ts') ∧ KT sTs [mp] S w w' := by
 obtain ⟨mr, hmr⟩ : ∃ mr : Int, mr = ((ors ms : Nat) : Int) := ⟨_, rfl⟩
 rw [← hmr]
 have HM := ax hmr
 have HP := ax (And.intro hb (And.intro hms (And.intro htr (And.intro hnow hSw))))
 have hba := below_alloc (Below.refl w.heap.size w) (.cells #[.int .u16 (nm first b), .int .u32 mr] 45)
 have hbb := blk_new w (.cells #[.int .u16 (nm first b), .int .u32 mr] 45)
 obtain ⟨bx, hbx⟩ : ∃ bx, bx = w.heap.size := ⟨_, rfl⟩
 obtain ⟨w1, hw1⟩ : ∃ w1, w1 = w.alloc (.cells #[.int .u16 (nm first b), .int .u32 mr] 45) := ⟨_, rfl⟩
 rw [← hw1] at hba hbb
 rw [← hbx] at hbb
 have HD1 := ax (h.below hba)
 have HB1 := ax hba
 have HX1 := ax hbb
 have HBX := ax hbx
 have HW := ax hw1
 have hx0 := blk_cell hbb 0
 have hx1 := blk_cell hbb 1
 obtain ⟨off, cap, lv, rn, hs1, hk1, hlr⟩ := HD1.out.box
 have HFR := ax (sfar_calls hs1 (rowX_len X lo n) HD1.out.le hb ms hms)
 rw [← hmr] at HFR
 have HS1 := ax hs1
 have HK1 := ax hk1
 clear h hnow hb hms htr hSw hmr hba hbb hbx hw1 hs1 hk1 hlr
 go_enter Tryz.func15, Tryz.ntmps15
 go_wp2_with fail
 rw [← HW.out, ← HBX.out]
 go_wp2_with (first
  | (go_at_call 45; refine Aside0.out ?_)
  | fail)
 refine ax ?_
 refine HFR.out.mono ?_
 rintro e w2 ⟨rfl, hb2⟩
 have HD2 := ax (HD1.out.below hb2)
 have HX2 := ax ((hb2.block bx (blk_lt HX1.out)).trans HX1.out)
 have HB2 := ax (below_step HB1.out hb2)
 have hs2 := (hb2.block sb (blk_lt HS1.out)).trans HS1.out
 obtain ⟨nl, hnl⟩ : ∃ nl, nl = (rowX X lo n).length := ⟨_, rfl⟩
 have hc4 : w2.cell? ⟨sb, 4, none⟩ = some (.slice (some ⟨gk, off, none⟩) nl cap) := by rw [hnl]; exact blk_cell hs2 4
 have HN := ax (show nl = n - lo from hnl.trans (rowX_len X lo n))
 have HAT := ax (show ∀ i (h : i < (rowX X lo n).length), w2.cell? ⟨gk, off + i, none⟩ = some (encP (rowX X lo n)[i]) from fun i hi => by
  obtain ⟨cs, hc⟩ := HK1.out.blk
  exact (hb2.cell (p := ⟨gk, off + i, none⟩) (blk_lt hc)).trans (HK1.out.at_ i hi))
 have HGK := ax (show ∃ cs, w2.heap[gk]? = some (.cells cs 93 (0, 0)) from by
  obtain ⟨cs, hc⟩ := HK1.out.blk
  exact ⟨cs, (hb2.block gk (blk_lt hc)).trans hc⟩)
 have hcap : nl ≤ cap := by rw [hnl]; exact HK1.out.cap_
 have hnl6 : nl ≤ 6 := by have := HN.out; have := HD2.out.le; omega
 clear hb2 hs2 hnl hx0 hx1 HFR HD1 HX1 HB1 HS1 HK1 HW
 go_wp2_with fail
 go_loopw [19] (fun v19 wr => ∃ (i : Nat) (ak2 : Nat → Bool) (V2 : Nat → Value) (ts2 : List (Int × Int)), v19 = .int .i64 (i : Int) ∧ i ≤ nl ∧ Aside0 (SD wr S sb g mp gk first n lo Ms X Q ak2 (fun _ => now) now V2 ts2 (fun _ => False)) ∧ Aside0 (wr.heap[bx]? = some (.cells #[.int .u16 (nm first b), .int .u32 mr] 45 (0, 0))) ∧ Aside0 (KT sTs [mp] S w2 wr) ∧ Aside0 ((∀ j, ak2 j = true ↔ ak j = true ∨ (lo ≤ j ∧ j < lo + i ∧ HasM b ms j)) ∧ ∀ j t, j ≤ 100 → (nm first j, t) ∈ ts → ak2 j = false → (nm first j, t) ∈ ts2)) (fun v19 _ => nl - (intOf v19).toNat)
 case atStart => exact ⟨0, ak, V, ts, by simp, by omega, HD2, HX2, ⟨Keep.refl _ _⟩, ⟨fun j => ⟨fun h => .inl h, fun h => h.elim id (fun h => by omega)⟩, fun j t _ h _ => h⟩⟩
 case round =>
  obtain ⟨i, ak2, V2, ts2, rfl, hi, HD, HX, HK, HA⟩ := hrel
  by_cases hlt : i < nl
  ·have hlb : decide ((i : Int) < (nl : Int)) = true := decide_eq_true (by omega)
   have hi0 : (0 : Int) ≤ (i : Int) := by omega
   have hin : (i : Int) < (nl : Int) := by omega
   have hgk : wr.heap[gk]? = w2.heap[gk]? := by
    obtain ⟨cs, hc⟩ := HGK.out
    exact HK.out.typed hc (by decide) (HD2.out.not_mp hc)
   have hcx : wr.cell? ⟨gk, off + i, none⟩ = some (.pointer (some ⟨X (lo + i), 0, none⟩)) := by
    have := HAT.out i (by rw [rowX_len, ← HN.out]; exact hlt)
    rw [rowX_get] at this
    exact (World.cell?_of_block (a := ⟨gk, off + i, none⟩) hgk).trans this
   have HJ := ax (show lo ≤ lo + i ∧ lo + i < n ∧ i < nl from ⟨by omega, by have := HN.out; omega, hlt⟩)
   obtain ⟨p, hen, _⟩ := (HD.out.en (lo + i) HJ.out.1 HJ.out.2.1).ent
   obtain ⟨j, hj⟩ : ∃ j, j = lo + i := ⟨_, rfl⟩
   rw [← hj] at hcx hen HJ
   obtain ⟨x, hx⟩ : ∃ x, x = X j := ⟨_, rfl⟩
   obtain ⟨num, hnum⟩ : ∃ num, num = nm first j := ⟨_, rfl⟩
   have HH := ax (show ∀ w', Calls Tryz.prog 46 #[.agg #[.int .u16 (nm first b), .int .u32 mr], .int .u16 num] w' fun e w'' => e = .returned (.bool (decide (HasM b ms j))) ∧ Below w'.heap.size w' w'' from fun w' => ackmap_Has.calls _ _ _ _ w' (by rw [hnum, HM.out]; exact has_nm first (by have := HP.out.1; have := HD.out.le; omega) ms (fun m hm => ⟨(HP.out.2.1 m hm).1, (HP.out.2.1 m hm).2.1⟩) j (by have := HJ.out.2.1; have := HD.out.le; omega)))
   rw [← hx] at hcx hen
   rw [← hnum] at hen
   have HE := ax hen
   have HV := ax (And.intro hj (And.intro hx hnum))
   obtain ⟨z, hz⟩ : ∃ z, z = ak2 j := ⟨_, rfl⟩
   rw [← hz] at hen HE
   have HZ := ax hz
   have HSN := ax (show ∀ w', Below wr.heap.size wr w' → w'.cell? ⟨bx, 0, none⟩ = some (.int .u16 (nm first b)) ∧ w'.cell? ⟨bx, 1, none⟩ = some (.int .u32 mr) ∧ w'.cell? ⟨x, 0, none⟩ = some (.int .u16 num) ∧ w'.cell? ⟨x, 7, none⟩ = some (.bool z) from fun w' hb => ⟨blk_cell ((hb.block bx (blk_lt HX.out)).trans HX.out) 0, blk_cell ((hb.block bx (blk_lt HX.out)).trans HX.out) 1, blk_cell ((hb.block x (blk_lt HE.out)).trans HE.out) 0, blk_cell ((hb.block x (blk_lt HE.out)).trans HE.out) 7⟩)
   have HI := ax (HSN.out _ (below_drew1 (Below.refl wr.heap.size wr)))
   clear hgk hen hj hx hnum hz
   cases z with
   | true =>
    go_wp2_with fail
    refine start_ (n := 13) (S := (fun w' => w'.cell? ⟨bx, 0, none⟩ = some (.int .u16 (nm first b)) ∧ w'.cell? ⟨bx, 1, none⟩ = some (.int .u32 mr) ∧ w'.cell? ⟨x, 0, none⟩ = some (.int .u16 num) ∧ w'.cell? ⟨x, 7, none⟩ = some (.bool true))) (ds := []) #[false, false, false, false, false, false, false, false, false, false, false, false, false] kr rfl rfl HI.out (fun hHeld => ?_)
    refine with_tabW sacked8a.tab sacked8a.bits (fun HT_ HW_ => ?_)
    refine pu_ 0 23 HT_ ?_; refine pu_ 1 24 HT_ ?_; refine pu_ 2 25 HT_ ?_; refine tk_ 3 26 HT_ HW_ hHeld ?_; refine pu_ 4 27 HT_ ?_; refine pu_ 5 28 HT_ ?_; refine pn_ 6 29 HT_ ?_; refine pn_ 7 30 HT_ ?_; refine pn_ 8 31 HT_ ?_; refine pn_ 9 32 HT_ ?_; refine pn_ 10 33 HT_ ?_; refine pn_ 11 34 HT_ ?_; refine pu_ 12 35 HT_ ?_
    refine done_ (done_of HT_.out kr) ?_
    clear hHeld HT_ HW_ HI
    go_wp2_with fail
    go_roundw
    case rel =>
     have hb3 := below_drew1 (Below.refl wr.heap.size wr)
     refine ⟨i + 1, ak2, V2, ts2, by simp, by omega, ⟨HD.out.below hb3⟩, ⟨HX.out⟩, ⟨HK.out.next (Keep.of_below hb3)⟩, ⟨fun j' => ⟨fun h => ?_, fun h => ?_⟩, HA.out.2⟩⟩
     ·rcases (HA.out.1 j').1 h with h | h
      ·exact .inl h
      ·exact .inr ⟨h.1, by omega, h.2.2⟩
     ·rcases h with h | ⟨h1, h2, h3⟩
      ·exact (HA.out.1 j').2 (.inl h)
      ·by_cases c : j' = j
       ·rw [c]; exact HZ.out.symm
       ·exact (HA.out.1 j').2 (.inr ⟨h1, by have := HV.out.1; omega, h3⟩)
    case measure => simp [intOf]; omega
   | false =>
    by_cases hm : HasM b ms j
    ·rw [decide_eq_true hm] at HH
     have HQS := ax (HP.out.2.2.1 j (HJ.out.1) HJ.out.2.1 hm)
     have HMQ := ax hm
     clear hm
     go_wp2_with fail
     refine start_ (n := 13) (S := (fun w' => w'.cell? ⟨bx, 0, none⟩ = some (.int .u16 (nm first b)) ∧ w'.cell? ⟨bx, 1, none⟩ = some (.int .u32 mr) ∧ w'.cell? ⟨x, 0, none⟩ = some (.int .u16 num) ∧ w'.cell? ⟨x, 7, none⟩ = some (.bool false))) (ds := [11]) #[false, false, false, false, false, false, false, false, false, false, false, false, false] kr rfl rfl HI.out (fun hHeld => ?_)
     refine with_tabW sacked8b.tab sacked8b.bits (fun HT_ HW_ => ?_)
     refine pu_ 0 23 HT_ ?_; refine pu_ 1 24 HT_ ?_; refine pu_ 2 25 HT_ ?_; refine tk_ 3 26 HT_ HW_ hHeld ?_; refine pu_ 4 27 HT_ ?_; refine pu_ 5 28 HT_ ?_; refine tk_ 6 29 HT_ HW_ hHeld ?_; refine pu_ 7 30 HT_ ?_; refine pu_ 8 31 HT_ ?_; refine pu_ 9 32 HT_ ?_; refine tk_ 10 33 HT_ HW_ hHeld ?_
     refine last_ (i := 11) (N := some 34) #[true, true, true, true, true, true, true, true, true, true, true, true, false] rfl rfl (one_of HT_.out kr) (by decide) (fun K hK => ?_)
     refine goes_ Tryz.func46 kr rfl #[.agg #[.int .u16 (nm first b), .int .u32 mr], .int .u16 num] (by rfl) rfl rfl gs_ ?_
     refine (HH.out _).mono ?_
     rintro e w3 ⟨rfl, hb3⟩
     have HB3 := ax (below_step (below_drew1 (Below.refl wr.heap.size wr)) hb3)
     clear hb3
     refine ⟨_, rfl, ?_⟩
     refine hK.out _ _ ?_
     clear hK K
     refine norm_ (a' := ?_) ?_ ?_
     rotate_left
     ·show Act.put _ (some 34) _ = _
      simp only [Act.put, List.setIfInBounds_toArray, List.set_cons_zero, List.set_cons_succ, i64_w, i32_w]
      rfl
     refine pu_ 12 35 HT_ ?_
     refine done_ (done_of HT_.out kr) ?_
     clear hHeld HT_ HW_ HI HH
     have hsa := sack_calls (HD.out.below HB3.out) HJ.out.1 HJ.out.2.1 HP.out.2.2.2.1 HZ.out.symm HQS.out
     rw [← HV.out.2.1] at hsa
     have HSA := ax hsa
     clear hsa
     go_wp2_with (first
      | (go_at_call 47; refine HSA.out.mono ?_; rintro e w4 ⟨rfl, V4, h4, hk4⟩; have H4 := ax (And.intro h4 hk4); clear h4 hk4)
      | fail)
     go_roundw
     case rel =>
      have hx3 := (HB3.out.block bx (blk_lt HX.out)).trans HX.out
      refine ⟨i + 1, _, V4, _, by simp, by omega, ⟨H4.out.1⟩, ⟨(H4.out.2.typed hx3 (by decide) ((HD.out.below HB3.out).not_mp hx3)).trans hx3⟩, ⟨HK.out.next (KT.next (Keep.of_below HB3.out) H4.out.2)⟩, ⟨fun j' => ⟨fun h => ?_, fun h => ?_⟩, fun j' t' h1 h2 h3 => ?_⟩⟩
      ·by_cases c : j' = j
       ·exact .inr ⟨by have := HJ.out.1; omega, by have := HV.out.1; omega, by rw [c]; exact HMQ.out⟩
       ·simp only [if_neg c] at h
        rcases (HA.out.1 j').1 h with h | h
        ·exact .inl h
        ·exact .inr ⟨h.1, by omega, h.2.2⟩
      ·by_cases c : j' = j
       ·simp [c]
       ·simp only [if_neg c]
        rcases h with h | ⟨h1, h2, h3⟩
        ·exact (HA.out.1 j').2 (.inl h)
        ·exact (HA.out.1 j').2 (.inr ⟨h1, by have := HV.out.1; omega, h3⟩)
      ·by_cases c : j' = j
       ·simp [c] at h3
       ·simp only [if_neg c] at h3
        refine List.mem_filter.2 ⟨HA.out.2 j' t' h1 h2 h3, ?_⟩
        have hne : nm first j' ≠ nm first j := fun e => c (nm_inj h1 (by have := HJ.out.2.1; have := HD.out.le; omega) e)
        simpa using hne
     case measure => simp [intOf]; omega
    ·rw [decide_eq_false hm] at HH
     have HMQ := ax hm
     clear hm
     go_wp2_with fail
     refine start_ (n := 13) (S := (fun w' => w'.cell? ⟨bx, 0, none⟩ = some (.int .u16 (nm first b)) ∧ w'.cell? ⟨bx, 1, none⟩ = some (.int .u32 mr) ∧ w'.cell? ⟨x, 0, none⟩ = some (.int .u16 num) ∧ w'.cell? ⟨x, 7, none⟩ = some (.bool false))) (ds := [11]) #[false, false, false, false, false, false, false, false, false, false, false, false, false] kr rfl rfl HI.out (fun hHeld => ?_)
     refine with_tabW sacked8c.tab sacked8c.bits (fun HT_ HW_ => ?_)
     refine pu_ 0 23 HT_ ?_; refine pu_ 1 24 HT_ ?_; refine pu_ 2 25 HT_ ?_; refine tk_ 3 26 HT_ HW_ hHeld ?_; refine pu_ 4 27 HT_ ?_; refine pu_ 5 28 HT_ ?_; refine tk_ 6 29 HT_ HW_ hHeld ?_; refine pu_ 7 30 HT_ ?_; refine pu_ 8 31 HT_ ?_; refine pu_ 9 32 HT_ ?_; refine tk_ 10 33 HT_ HW_ hHeld ?_
     refine last_ (i := 11) (N := some 34) #[true, true, true, true, true, true, true, true, true, true, true, true, false] rfl rfl (one_of HT_.out kr) (by decide) (fun K hK => ?_)
     refine goes_ Tryz.func46 kr rfl #[.agg #[.int .u16 (nm first b), .int .u32 mr], .int .u16 num] (by rfl) rfl rfl gs_ ?_
     refine (HH.out _).mono ?_
     rintro e w3 ⟨rfl, hb3⟩
     have HB3 := ax (below_step (below_drew1 (Below.refl wr.heap.size wr)) hb3)
     clear hb3
     refine ⟨_, rfl, ?_⟩
     refine hK.out _ _ ?_
     clear hK K
     refine norm_ (a' := ?_) ?_ ?_
     rotate_left
     ·show Act.put _ (some 34) _ = _
      simp only [Act.put, List.setIfInBounds_toArray, List.set_cons_zero, List.set_cons_succ, i64_w, i32_w]
      rfl
     refine pu_ 12 35 HT_ ?_
     refine done_ (done_of HT_.out kr) ?_
     clear hHeld HT_ HW_ HI HH
     go_wp2_with fail
     go_roundw
     case rel =>
      refine ⟨i + 1, ak2, V2, ts2, by simp, by omega, ⟨HD.out.below HB3.out⟩, ⟨(HB3.out.block bx (blk_lt HX.out)).trans HX.out⟩, ⟨HK.out.next (Keep.of_below HB3.out)⟩, ⟨fun j' => ⟨fun h => ?_, fun h => ?_⟩, HA.out.2⟩⟩
      ·rcases (HA.out.1 j').1 h with h | h
       ·exact .inl h
       ·exact .inr ⟨h.1, by omega, h.2.2⟩
      ·rcases h with h | ⟨h1, h2, h3⟩
       ·exact (HA.out.1 j').2 (.inl h)
       ·by_cases c : j' = j
        ·rw [c] at h3; exact absurd h3 HMQ.out
        ·exact (HA.out.1 j').2 (.inr ⟨h1, by have := HV.out.1; omega, h3⟩)
     case measure => simp [intOf]; omega
  ·have hlb : decide ((i : Int) < (nl : Int)) = false := decide_eq_false (by omega)
   have HL0 := ax (show ∀ j, lo ≤ j → j < n → (ak2 j = true ↔ ak j = true ∨ HasM b ms j) from fun j h1 h2 => by
    rw [HA.out.1 j]
    constructor
    ·exact fun h => h.imp id (fun h => h.2.2)
    ·exact fun h => h.imp id (fun h => ⟨h1, by have := HN.out; omega, h⟩))
   have HK0 := ax (show KT sTs [mp] S w wr from KT.next (Keep.of_below HB2.out) HK.out)
   have HA0 := ax HA.out.2
   clear HA HK HX HD2 HX2 hc4 HAT HGK
   go_wp2_with fail
   go_loopw [] (fun wz => ∃ (lo2 : Nat), lo ≤ lo2 ∧ Aside0 (SD wz S sb g mp gk first n lo2 Ms X Q ak2 (fun _ => now) now V2 ts2 (fun _ => False)) ∧ Aside0 (∀ i, lo ≤ i → i < lo2 → ak2 i = true) ∧ Aside0 (KT sTs [mp] S w wz)) (fun wz => keptOf wz sb)
   case atStart => exact ⟨lo, Nat.le_refl _, HD, ⟨fun i h1 h2 => by omega⟩, HK0⟩
   case round =>
    clear HD HK0
    obtain ⟨lo2, hl2, HD, HU, HK⟩ := hrel
    obtain ⟨off2, cap2, lv2, rn2, hs2, hk2, hlr2⟩ := HD.out.box
    have HB2 := ax (And.intro hs2 (And.intro hk2 hlr2))
    by_cases hlt2 : lo2 < n
    ·have hrow := rowX_cons X hlt2
     have hx0 : wr.cell? ⟨gk, off2, none⟩ = some (.pointer (some ⟨X lo2, 0, none⟩)) := by
      have := hk2.at_ 0 (by rw [rowX_len]; omega)
      rw [rowX_get] at this
      exact this
     obtain ⟨p, hen, _⟩ := (HD.out.en lo2 (Nat.le_refl _) hlt2).ent
     obtain ⟨x, hx⟩ : ∃ x, x = X lo2 := ⟨_, rfl⟩
     rw [← hx] at hx0 hen
     obtain ⟨z, hz⟩ : ∃ z, z = ak2 lo2 := ⟨_, rfl⟩
     rw [← hz] at hen
     have hc7 : wr.cell? ⟨x, 7, none⟩ = some (.bool z) := blk_cell hen 7
     obtain ⟨m2, hm2⟩ : ∃ m2, m2 = (rowX X lo2 n).length := ⟨_, rfl⟩
     have hc4 : wr.cell? ⟨sb, 4, none⟩ = some (.slice (some ⟨gk, off2, none⟩) m2 cap2) := by rw [hm2]; exact blk_cell hs2 4
     have hm0 : (0 : Int) < (m2 : Int) := by rw [hm2, rowX_len]; omega
     have hmn : 0 < m2 := by omega
     have hmc : m2 ≤ cap2 := by rw [hm2]; exact hk2.cap_
     have hc3 : wr.cell? ⟨sb, 3, none⟩ = some (.int .u16 (nm first lo2)) := blk_cell hs2 3
     have hf4 := blk_frozen hs2 4
     have hf3 := blk_frozen hs2 3
     have HX2 := ax (And.intro hx (And.intro hz (And.intro hm2 (And.intro hlt2 hrow))))
     clear hs2 hk2 hlr2 hen hx hz hm2 hrow hlt2
     cases z with
     | false =>
      go_wp2_with fail
      have hrs : (Tryz.f15).results = #[.tmp 4] := by kernel_rfl
      refine bodyPost_ret (results_tmp hrs _ _ _) rfl ?_
      exact ⟨rfl, lo2, ak2, V2, ts2, hl2, HD.out, HL0.out, HU.out, fun _ => HX2.out.2.1.symm, fun i t h1 h2 h3 => HA0.out i t h1 h2 h3, HK.out⟩
     | true =>
      by_cases hcp : cap2 = 1
      ·obtain ⟨v4, hv4⟩ : ∃ v4, v4 = Value.slice (some ⟨gk, off2, none⟩) (m2 - 1) 0 := ⟨_, rfl⟩
       have HV4 := ax (show ∃ o c, v4 = kv gk o c (rowX X (lo2 + 1) n) ∧ ∀ w', w'.heap[gk]? = wr.heap[gk]? → KR w' gk o c (rowX X (lo2 + 1) n) from ⟨off2, 0, by rw [hv4, kv, rowX_len, HX2.out.2.2.1, rowX_len]; rfl, fun w' hb => ⟨by obtain ⟨cs, hc⟩ := HB2.out.2.1.blk; exact ⟨cs, hb.trans hc⟩, by have h1 := HX2.out.2.2.1; rw [rowX_len] at h1 ⊢; omega, by rw [rowX_len]; have := HD.out.le; omega, fun i hi => by have h1 := HX2.out.2.2.1; rw [rowX_len] at h1 hi; omega⟩⟩)
       have hs4 : (wr.setCell ⟨sb, 4, none⟩ v4).heap[sb]? = some (.cells (sndC (nm first lo2) v4 g lv2 rn2) 82 (0, 0)) := blk_put HB2.out.1 4 v4 rfl
       have HS4 := ax hs4
       clear hs4
       go_wp2_with (first
        | (go_at_call 18; rw [← hv4]; refine (plus_calls first lo2 1 1 rfl (by decide) _).mono ?_; rintro e w5 ⟨rfl, hb5⟩; have hs5 := (hb5.block sb (blk_lt HS4.out)).trans HS4.out; have HS5 := ax hs5; have HB5 := ax hb5; have hc35 := blk_cell hs5 3; have hf35 := blk_frozen hs5 3; clear hb5 hs5)
        | fail)
       go_roundw
       case rel =>
        obtain ⟨o, c, hv, hkr⟩ := HV4.out
        have hs6 : SNB (w5.setCell ⟨sb, 3, none⟩ (.int .u16 (nm first (lo2 + 1)))) sb (nm first (lo2 + 1)) (kv gk o c (rowX X (lo2 + 1) n)) g lv2 rn2 := by
         rw [← hv]; exact blk_put HS5.out 3 _ rfl
        have hkp : Keep (fun k => k = sb) wr (w5.setCell ⟨sb, 3, none⟩ (.int .u16 (nm first (lo2 + 1)))) := (Keep.of_put (F := fun k => k = sb) (Put1.set sb 4 wr v4) rfl).seq ((Keep.of_below HB5.out).seq (Keep.of_put (Put1.set sb 3 w5 _) rfl))
        have hgk : (w5.setCell ⟨sb, 3, none⟩ (.int .u16 (nm first (lo2 + 1)))).heap[gk]? = wr.heap[gk]? := by
         obtain ⟨cs, hc⟩ := HB2.out.2.1.blk
         exact hkp.block gk (blk_lt hc) (fun e => by have e : gk = sb := e; subst e; exact two_types hc HB2.out.1 (by decide))
        refine ⟨lo2 + 1, by omega, ⟨HD.out.cut HX2.out.2.2.2.1 HX2.out.2.1.symm hs6 (hkr _ hgk) HB2.out.2.2 hkp⟩, ⟨fun i h1 h2 => ?_⟩, ⟨HK.out.next (KT.of_keep hkp (fun k _ hk => ?_))⟩⟩
        ·by_cases e : i = lo2
         ·rw [e]; exact HX2.out.2.1.symm
         ·exact HU.out i h1 (by omega)
        ·have hk : k = sb := hk
         subst hk
         exact ⟨HD.out.low.1, .inr ⟨_, _, HB2.out.1, by decide⟩⟩
       case measure =>
        obtain ⟨o, c, hv, hkr⟩ := HV4.out
        have hs6 : SNB (w5.setCell ⟨sb, 3, none⟩ (.int .u16 (nm first (lo2 + 1)))) sb (nm first (lo2 + 1)) (kv gk o c (rowX X (lo2 + 1) n)) g lv2 rn2 := by
         rw [← hv]; exact blk_put HS5.out 3 _ rfl
        rw [keptOf_eq hs6, keptOf_eq HB2.out.1, rowX_len, rowX_len]
        have := HX2.out.2.2.2.1
        omega
      ·obtain ⟨v4, hv4⟩ : ∃ v4, v4 = Value.slice (some ⟨gk, off2 + 1, none⟩) (m2 - 1) (cap2 - 1) := ⟨_, rfl⟩
       have HV4 := ax (show ∃ o c, v4 = kv gk o c (rowX X (lo2 + 1) n) ∧ ∀ w', w'.heap[gk]? = wr.heap[gk]? → KR w' gk o c (rowX X (lo2 + 1) n) from ⟨off2 + 1, cap2 - 1, by rw [hv4, kv, rowX_len, HX2.out.2.2.1, rowX_len]; rfl, fun w' hb => KR.keep (KR.tail (by rw [← HX2.out.2.2.2.2]; exact HB2.out.2.1)) hb⟩)
       have hs4 : (wr.setCell ⟨sb, 4, none⟩ v4).heap[sb]? = some (.cells (sndC (nm first lo2) v4 g lv2 rn2) 82 (0, 0)) := blk_put HB2.out.1 4 v4 rfl
       have HS4 := ax hs4
       clear hs4
       go_wp2_with (first
        | (go_at_call 18; rw [← hv4]; refine (plus_calls first lo2 1 1 rfl (by decide) _).mono ?_; rintro e w5 ⟨rfl, hb5⟩; have hs5 := (hb5.block sb (blk_lt HS4.out)).trans HS4.out; have HS5 := ax hs5; have HB5 := ax hb5; have hc35 := blk_cell hs5 3; have hf35 := blk_frozen hs5 3; clear hb5 hs5)
        | fail)
       go_roundw
       case rel =>
        obtain ⟨o, c, hv, hkr⟩ := HV4.out
        have hs6 : SNB (w5.setCell ⟨sb, 3, none⟩ (.int .u16 (nm first (lo2 + 1)))) sb (nm first (lo2 + 1)) (kv gk o c (rowX X (lo2 + 1) n)) g lv2 rn2 := by
         rw [← hv]; exact blk_put HS5.out 3 _ rfl
        have hkp : Keep (fun k => k = sb) wr (w5.setCell ⟨sb, 3, none⟩ (.int .u16 (nm first (lo2 + 1)))) := (Keep.of_put (F := fun k => k = sb) (Put1.set sb 4 wr v4) rfl).seq ((Keep.of_below HB5.out).seq (Keep.of_put (Put1.set sb 3 w5 _) rfl))
        have hgk : (w5.setCell ⟨sb, 3, none⟩ (.int .u16 (nm first (lo2 + 1)))).heap[gk]? = wr.heap[gk]? := by
         obtain ⟨cs, hc⟩ := HB2.out.2.1.blk
         exact hkp.block gk (blk_lt hc) (fun e => by have e : gk = sb := e; subst e; exact two_types hc HB2.out.1 (by decide))
        refine ⟨lo2 + 1, by omega, ⟨HD.out.cut HX2.out.2.2.2.1 HX2.out.2.1.symm hs6 (hkr _ hgk) HB2.out.2.2 hkp⟩, ⟨fun i h1 h2 => ?_⟩, ⟨HK.out.next (KT.of_keep hkp (fun k _ hk => ?_))⟩⟩
        ·by_cases e : i = lo2
         ·rw [e]; exact HX2.out.2.1.symm
         ·exact HU.out i h1 (by omega)
        ·have hk : k = sb := hk
         subst hk
         exact ⟨HD.out.low.1, .inr ⟨_, _, HB2.out.1, by decide⟩⟩
       case measure =>
        obtain ⟨o, c, hv, hkr⟩ := HV4.out
        have hs6 : SNB (w5.setCell ⟨sb, 3, none⟩ (.int .u16 (nm first (lo2 + 1)))) sb (nm first (lo2 + 1)) (kv gk o c (rowX X (lo2 + 1) n)) g lv2 rn2 := by
         rw [← hv]; exact blk_put HS5.out 3 _ rfl
        rw [keptOf_eq hs6, keptOf_eq HB2.out.1, rowX_len, rowX_len]
        have := HX2.out.2.2.2.1
        omega
    ·have hc4 : wr.cell? ⟨sb, 4, none⟩ = some (.slice (some ⟨gk, off2, none⟩) 0 cap2) := by
      have h1 : (rowX X lo2 n).length = 0 := by rw [rowX_len]; omega
      rw [← h1]; exact blk_cell hs2 4
     have HX2 := ax hlt2
     clear hs2 hk2 hlr2 hlt2
     go_wp2_with fail
     have hrs : (Tryz.f15).results = #[.tmp 4] := by kernel_rfl
     refine bodyPost_ret (results_tmp hrs _ _ _) rfl ?_
     exact ⟨rfl, lo2, ak2, V2, ts2, hl2, HD.out, HL0.out, HU.out, fun h => absurd h HX2.out, fun i t h1 h2 h3 => HA0.out i t h1 h2 h3, HK.out⟩
-- YtajiggmeappfaaaGreatDoorPWNew
theorem wnew_calls {w : World} : Calls Tryz.prog 26 #[] w fun e w' => ∃ g mp, e = .returned (.pointer (some ⟨g, 0, none⟩)) ∧ WH w' w.heap.size g mp 0 (fun _ => .slice none 0 0) [] ∧ Below w.heap.size w w' := by
 have hmm := @run_makeMap Tryz.prog
 go_enter Tryz.func26, Tryz.ntmps26
 go_wp2_with fail
 have hrs : (Tryz.f26).results = #[.tmp 0] := by kernel_rfl
 refine bodyPost_ret (results_tmp hrs _ _ _) rfl ?_
 have ho := World.ownsMap_made w Tryz.prog seqT (plainElem (H := Unit) Tryz.prog 3)
 have hb1 := below_alloc (Below.refl w.heap.size w) (.map #[] 0)
 obtain ⟨C, hC⟩ : ∃ C : Array Value, C = (Value.int .i64 0 :: Value.map (some w.heap.size) :: List.replicate 32 (Value.slice none 0 0)).toArray := ⟨_, rfl⟩
 have hbx := blk_new (w.alloc (.map #[] 0)) (.cells C 137)
 have hb2 := below_alloc (Below.refl (w.alloc (.map #[] 0)).heap.size (w.alloc (.map #[] 0))) (.cells C 137)
 rw [World.size_alloc] at hbx
 have hgoal : ∀ W, W = (w.alloc (.map #[] 0)).alloc (.cells C 137) → ∃ g mp, Ending.returned (Value.pointer (some ⟨w.heap.size + 1, 0, none⟩)) = .returned (.pointer (some ⟨g, 0, none⟩)) ∧ WH W w.heap.size g mp 0 (fun _ => .slice none 0 0) [] ∧ Below w.heap.size w W := by
  rintro W rfl
  refine ⟨w.heap.size + 1, w.heap.size, rfl, ⟨⟨C, hbx, by rw [hC]; rfl, by rw [hC]; rfl, by rw [hC]; rfl, fun j hj => ?_⟩, ⟨.map [], own_fit (ownT_block ho (hb2.block _ (by rw [World.size_alloc]; omega))), rfl, fun a => rfl, fun p hp => (by cases hp)⟩, fun j hj => Kd.R_nil _ _ _ _ _, fun i j _ _ _ k hk => (by cases hk), ⟨by omega, by omega⟩, by simp, fun p hp => (by cases hp), by simp⟩, below_step hb1 hb2⟩
  rw [hC, Nat.add_comm, List.getElem?_toArray, List.getElem?_cons_succ, List.getElem?_cons_succ, List.getElem?_replicate, if_pos hj]
 exact hgoal _ (by rw [hC]; rfl)
-- YtajiggmeappfaaaGreatDoorPSSend
theorem WH.lower {w : World} {S S' g mp : Nat} {now : Int} {V : Nat → Value} {ts : List (Int × Int)} (h : WH w S' g mp now V ts) (hS : S ≤ S') : WH w S g mp now V ts :=
 ⟨h.box, h.own, fun j hj => Kd.R_lower (h.row j hj) hS, h.apart, ⟨by have := h.lo.1; omega, by have := h.lo.2; omega⟩, h.nd, h.rng, h.few⟩
theorem gen_alloc2 {w w2 : World} {o : Obj} {a : Act} {N : Option Tmp} {K : Act → World → Prop} {S g mp : Nat} {now : Int} {V : Nat → Value} {ts : List (Int × Int)} (hb : Below w2.heap.size w2 w) (hw : WH w S g mp now V ts) (h : ∀ (b : Nat) (w' : World), w2.heap.size ≤ b → w'.heap[b]? = some o → Below w2.heap.size w2 w' → WH w' S g mp now V ts → K (a.put N (.pointer (some ⟨b, 0, none⟩))) w') : K (a.put N (.pointer (some ⟨w.heap.size, 0, none⟩))) (w.alloc o) :=
 h _ _ hb.size (blk_new w o) (below_step hb (below_alloc (Below.refl _ _) o)) (hw.below (below_alloc (Below.refl _ _) o))
def snew3.T : Bool × List (List Nat × List Nat) := (true, [([], []), ([], []), ([], []), ([0, 1, 2], [0, 1, 2]), ([3], [3]), ([4, 2, 0, 1, 2, 3, 4], [4]), ([5, 0, 1, 2, 3, 4, 5], [])])
def snew3.B : List Nat := [0, 0, 0, 7, 15, 31, 63]
theorem snew3.tab : rtab .any (opsOf Tryz.f5 3) = snew3.T := by kernel_rfl
theorem snew3.bits : waitsOk snew3.T.2 snew3.B = true := by kernel_rfl
def ssend6.T : Bool × List (List Nat × List Nat) := (true, [([], []), ([0], [0]), ([1], [1]), ([2], [2]), ([3], [3]), ([], []), ([5], [5]), ([6], [6]), ([7], [7]), ([8], [8]), ([4, 9], [4, 9]), ([10], [10])])
def ssend6.B : List Nat := [0, 1, 3, 7, 15, 0, 32, 96, 224, 480, 1023, 2047]
theorem ssend6.tab : rtab .any (opsOf Tryz.f8 6) = ssend6.T := by kernel_rfl
theorem ssend6.bits : waitsOk ssend6.T.2 ssend6.B = true := by kernel_rfl
def ssend8.T : Bool × List (List Nat × List Nat) := (true, [([], []), ([], []), ([1], [1]), ([2], [2]), ([3], [3]), ([], []), ([5], [5]), ([6], [6]), ([7], [7]), ([], []), ([9], [9]), ([10], [10]), ([11], [11]), ([12], [12]), ([8, 13], [8, 13]), ([], []), ([15], [15]), ([], []), ([14, 16, 17], [14, 16, 17]), ([18], [18]), ([19], [19]), ([4, 20, 14], [4, 20]), ([0, 0, 1, 2, 3, 4, 5, 6, 7, 8, 9, 10, 11, 12, 13, 14, 15, 16, 17, 18, 19, 20, 21], [0]), ([22, 0, 1, 2, 3, 4, 5, 6, 7, 8, 9, 10, 11, 12, 13, 14, 15, 16, 17, 18, 19, 20, 21], [22]), ([23, 21, 21, 0, 1, 2, 3, 4, 5, 6, 7, 8, 9, 10, 11, 12, 13, 14, 15, 16, 17, 18, 19, 20, 21], [21, 23])])
def ssend8.B : List Nat := [0, 0, 2, 6, 14, 0, 32, 96, 224, 0, 512, 1536, 3584, 7680, 16352, 0, 32768, 0, 262112, 524256, 1048544, 2097150, 4194303, 8388607, 16777215]
theorem ssend8.tab : rtab .any (opsOf Tryz.f8 8) = ssend8.T := by kernel_rfl
theorem ssend8.bits : waitsOk ssend8.T.2 ssend8.B = true := by kernel_rfl
theorem snew_calls {w : World} (first : Int) : Calls Tryz.prog 5 #[.int .u16 first, .agg #[.int .i64 3, .int .i64 8, .int .i64 2]] w fun e w' => ∃ sb g mp, e = .returned (.tuple #[.pointer (some ⟨sb, 0, none⟩), .int .i64 0]) ∧ SNB w' sb first (.slice none 0 0) g 0 0 ∧ WH w' w.heap.size g mp 0 (fun _ => .slice none 0 0) [] ∧ w.heap.size ≤ sb ∧ Below w.heap.size w w' := by
 have hba := below_alloc (Below.refl w.heap.size w) (.cells #[.int .i64 3, .int .i64 8, .int .i64 2] 26)
 have hbb := blk_new w (.cells #[.int .i64 3, .int .i64 8, .int .i64 2] 26)
 obtain ⟨bx, hbx⟩ : ∃ bx, bx = w.heap.size := ⟨_, rfl⟩
 obtain ⟨w1, hw1⟩ : ∃ w1, w1 = w.alloc (.cells #[.int .i64 3, .int .i64 8, .int .i64 2] 26) := ⟨_, rfl⟩
 rw [← hw1] at hba hbb
 rw [← hbx] at hbb
 have HB1 := ax hba
 have HX1 := ax hbb
 have HW := ax (And.intro hw1 hbx)
 have HSN := ax (show ∀ w', Below w1.heap.size w1 w' → w'.cell? ⟨bx, 0, none⟩ = some (.int .i64 3) ∧ w'.cell? ⟨bx, 1, none⟩ = some (.int .i64 8) ∧ w'.cell? ⟨bx, 2, none⟩ = some (.int .i64 2) from fun w' hb => ⟨blk_cell ((hb.block bx (blk_lt hbb)).trans hbb) 0, blk_cell ((hb.block bx (blk_lt hbb)).trans hbb) 1, blk_cell ((hb.block bx (blk_lt hbb)).trans hbb) 2⟩)
 have hx0 := blk_cell hbb 0
 have hx1 := blk_cell hbb 1
 clear hba hbb hbx hw1
 go_enter Tryz.func5, Tryz.ntmps5
 go_wp2_with fail
 rw [← HW.out.1, ← HW.out.2]
 go_wp2_with fail
 have HB := ax (below_drew1 (Below.refl w1.heap.size w1))
 clear hx0 hx1
 refine start_ (n := 7) (S := (fun w' => w'.cell? ⟨bx, 0, none⟩ = some (.int .i64 3) ∧ w'.cell? ⟨bx, 1, none⟩ = some (.int .i64 8) ∧ w'.cell? ⟨bx, 2, none⟩ = some (.int .i64 2))) (ds := [4]) #[false, false, false, false, false, false, false] kr rfl rfl (HSN.out _ HB.out) (fun hHeld => ?_)
 refine with_tabW snew3.tab snew3.bits (fun HT_ HW_ => ?_)
 refine tk_ 0 26 HT_ HW_ hHeld ?_; refine pu_ 1 27 HT_ ?_
 refine on_ 2 HT_ fun K hK => ?_
 refine goes_ Tryz.func26 kr rfl #[] (by rfl) rfl rfl gs_ ?_
 refine wnew_calls.mono ?_
 rintro e w2 ⟨g, mp, rfl, hw2, hb2⟩
 have HW2 := ax (hw2.lower HB.out.size)
 have HB := ax (below_step HB.out hb2)
 clear hw2 hb2
 refine ⟨_, rfl, ?_⟩
 refine hK.out _ _ (HSN.out _ HB.out) (fun hHeld => ?_)
 clear hK K
 refine norm_ (a' := ?_) ?_ ?_
 rotate_left
 ·show Act.put _ (some 28) _ = _
  simp only [Act.put, List.setIfInBounds_toArray, List.set_cons_zero, List.set_cons_succ, i64_w, i32_w]
  rfl
 refine pu_ 3 29 HT_ ?_
 refine last_ (i := 4) (N := some 30) #[true, true, true, true, true, false, false] rfl rfl (one_of HT_.out kr) (by decide) (fun K hK => ?_)
 refine value_ (w1 := ?_) (v := ?_) (by rfl) rfl ?_ ?_
 rotate_left 2
 ·go_simp
  constructor
  ·rfl
  ·rfl
 refine gen_alloc2 HB.out HW2.out (fun sb wx hxl hxb hxx hxw => ?_)
 have H3 := ax (And.intro hxl (And.intro hxb (And.intro hxx hxw)))
 clear hxl hxb hxx hxw
 refine hK.out _ _ ?_
 clear hK K
 refine norm_ (a' := ?_) ?_ ?_
 rotate_left
 ·show Act.put _ (some 30) _ = _
  simp only [Act.put, List.setIfInBounds_toArray, List.set_cons_zero, List.set_cons_succ, i64_w, i32_w]
  rfl
 refine pu_ 5 4 HT_ ?_; refine pu_ 6 5 HT_ ?_
 refine done_ (done_of HT_.out kr) ?_
 go_wp2_with fail
 have hrs : (Tryz.f5).results = #[.tmp 4, .tmp 5] := by kernel_rfl
 refine bodyPost_ret (results_tmp2 hrs _ _ _) rfl ?_
 exact ⟨sb, g, mp, rfl, H3.out.2.1, H3.out.2.2.2.lower HB1.out.size, Nat.le_trans HB1.out.size H3.out.1, below_step HB1.out H3.out.2.2.1⟩
structure SN (w : World) (S sb g mp : Nat) (first : Int) (Ms : Nat → List Int) (v : Value) (L : List Nat) : Prop where
 box : SNB w sb (nm first 0) v g 0 0
 row : Kd.R kPt 93 w S (fun _ => True) v L
 en : ∀ i x, L[i]? = some x → S ≤ x ∧ EN w x (nm first i) (Ms i) none false 0
 nd : L.Nodup
 wh : WH w S g mp 0 (fun _ => .slice none 0 0) []
 lo : S ≤ sb
theorem pr_blk {w : World} {L : List Nat} {S : Nat} {v : Value} (h : Kd.R kPt 93 w S (fun _ => True) v L) : ∃ A c, v = .slice A L.length c := Kd.R_slice h
theorem ssend_calls {w : World} (hT : TP w) {S sb g mp : Nat} {first : Int} {Ms : Nat → List Int} {v : Value} {L : List Nat} (h : SN w S sb g mp first Ms v L) (hSw : S ≤ w.heap.size) (hl : L.length < 8) {A : Option Addr} {c : Nat} {M : List Int} (hMs : Ms L.length = M) (hM : Kd.C (Kd.int .u8) w A M.length M) (hc : M.length ≤ c) (hb : byt M) (hl5 : M.length ≤ 5) :
  Calls Tryz.prog 8 #[.pointer (some ⟨sb, 0, none⟩), .slice A M.length c] w fun e w' => e = .returned (.int .i64 0) ∧ ∃ (v' : Value) (x : Nat), SN w' S sb g mp first Ms v' (L ++ [x]) ∧ Below S w w' ∧ Keep (fun k => k = sb ∨ v.ownBlock = some k) w w' := by
 obtain ⟨Av, cv, rfl⟩ := pr_blk h.row
 have HH := ax h
 have HV := ax (kversions_calls hT hM hc hb (by omega))
 obtain ⟨nl, hnl⟩ : ∃ nl, nl = L.length := ⟨_, rfl⟩
 obtain ⟨ln, hln⟩ : ∃ ln, ln = M.length := ⟨_, rfl⟩
 have hn8 : ¬ nl = 8 := by omega
 have hn8' : (nl : Int) < 8 := by omega
 have hr := h.row
 have hbox := h.box
 rw [← hnl] at hr hbox
 rw [← hln] at HV ⊢
 have HR := ax hr
 have HBX := ax hbox
 have HN := ax (And.intro hnl (And.intro hln (And.intro hMs (And.intro hb (And.intro hl5 (And.intro hSw hl))))))
 clear hT h hM hc hb hl5 hr hbox hnl hln hMs hSw hl
 go_enter Tryz.func8, Tryz.ntmps8
 go_wp2_with (first
  | (go_at_call 29; refine Aside0.out ?_)
  | fail)
 refine ax ?_
 refine HV.out.mono ?_
 rintro e w2 ⟨vs, rfl, hvs, hb2⟩
 have hone := q4_one (fun u hu => R_one (hvs u hu))
 have HVS := ax hvs
 have HB2 := ax hb2
 clear hvs hb2 HV
 go_wp2_with (first
  | (refine wpList_store_row rfl 90 (.tmp 5) (.tmp 12) rfl w2.heap.size (q4 vs) rfl rfl 90 _ (blk_new w2 _) q4_size rfl hone ?_; refine Aside0.out ?_)
  | fail)
 refine ax ?_
 have hba := below_alloc (Below.refl w2.heap.size w2) (.cells #[.slice none 0 0, .slice none 0 0, .slice none 0 0, .slice none 0 0] 90)
 have hbb := setRow_heap (w2.alloc (.cells #[.slice none 0 0, .slice none 0 0, .slice none 0 0, .slice none 0 0] 90)) w2.heap.size _ (q4 vs) _ _ (blk_new w2 (.cells #[.slice none 0 0, .slice none 0 0, .slice none 0 0, .slice none 0 0] 90))
 have hbs := below_setRow hba (Nat.le_refl _) (q4 vs)
 obtain ⟨b5, hb5⟩ : ∃ b, b = w2.heap.size := ⟨_, rfl⟩
 obtain ⟨w3, hw3⟩ : ∃ w3, w3 = (w2.alloc (.cells #[.slice none 0 0, .slice none 0 0, .slice none 0 0, .slice none 0 0] 90)).setRow w2.heap.size (q4 vs) := ⟨_, rfl⟩
 rw [← hw3] at hbs hbb ⊢
 rw [← hb5] at hbb ⊢
 have HB3 := ax (below_step HB2.out hbs)
 have HV3 := ax (fun u hu => Kd.R_below (HVS.out u hu) hbs)
 have HX3 := ax hbb
 have hsb3 := (HB3.out.block sb (blk_lt HBX.out)).trans HBX.out
 have HS3 := ax hsb3
 have HSN := ax (show ∀ w', Below w3.heap.size w3 w' → (w'.cell? ⟨sb, 4, none⟩ = some (.slice Av nl cv) ∧ w'.cell? ⟨sb, 1, none⟩ = some (.int .i64 8) ∧ w'.cell? ⟨sb, 3, none⟩ = some (.int .u16 (nm first 0))) ∧ w'.cell? ⟨b5, 0, none⟩ = some (vs 0) ∧ w'.cell? ⟨b5, 1, none⟩ = some (vs 1) ∧ w'.cell? ⟨b5, 2, none⟩ = some (vs 2) ∧ w'.cell? ⟨b5, 3, none⟩ = some (vs 3) from fun w' hb => ⟨⟨blk_cell ((hb.block sb (blk_lt hsb3)).trans hsb3) 4, blk_cell ((hb.block sb (blk_lt hsb3)).trans hsb3) 1, blk_cell ((hb.block sb (blk_lt hsb3)).trans hsb3) 3⟩, blk_cell ((hb.block b5 (blk_lt hbb)).trans hbb) 0, blk_cell ((hb.block b5 (blk_lt hbb)).trans hbb) 1, blk_cell ((hb.block b5 (blk_lt hbb)).trans hbb) 2, blk_cell ((hb.block b5 (blk_lt hbb)).trans hbb) 3⟩)
 have HI := ax (HSN.out _ (below_drew1 (Below.refl w3.heap.size w3)))
 clear hsb3 hbs hbb hba hb5 hw3 hone
 go_wp2_with fail
 refine start_ (n := 12) (S := (fun w' => (w'.cell? ⟨sb, 4, none⟩ = some (.slice Av nl cv) ∧ w'.cell? ⟨sb, 1, none⟩ = some (.int .i64 8) ∧ w'.cell? ⟨sb, 3, none⟩ = some (.int .u16 (nm first 0))) ∧ w'.cell? ⟨b5, 0, none⟩ = some (vs 0) ∧ w'.cell? ⟨b5, 1, none⟩ = some (vs 1) ∧ w'.cell? ⟨b5, 2, none⟩ = some (vs 2) ∧ w'.cell? ⟨b5, 3, none⟩ = some (vs 3))) (ds := []) #[false, false, false, false, false, false, false, false, false, false, false, false] kr rfl rfl HI.out (fun hHeld => ?_)
 refine with_tabW ssend6.tab ssend6.bits (fun HT_ HW_ => ?_)
 refine pu_ 0 19 HT_ ?_; refine pu_ 1 20 HT_ ?_; refine pu_ 2 21 HT_ ?_
 refine take_ (i := 3) (N := some 22) (v := ?_) (a' := ?_) #[true, true, true, true, false, false, false, false, false, false, false, false] rfl rfl (take_ofW HT_.out HW_.out kr) (fun _ _ _ h => h) (Or.inl ⟨by rfl, ?_⟩) hHeld ?_ ?_
 rotate_left
 ·rintro w' ⟨s0, s1, s2, s3, s4⟩
  have s9 := s0.1; have s8 := s0.2.1; go_simp; with_reducible rfl
 rotate_left
 ·simp only [Act.put, List.setIfInBounds_toArray, List.set_cons_zero, List.set_cons_succ, i64_w, i32_w]
  rfl
 refine pu_ 4 23 HT_ ?_; refine pu_ 5 24 HT_ ?_; refine pu_ 6 25 HT_ ?_; refine pu_ 7 26 HT_ ?_; refine pu_ 8 27 HT_ ?_
 refine take_ (i := 9) (N := some 28) (v := ?_) (a' := ?_) #[true, true, true, true, true, true, true, true, true, true, false, false] rfl rfl (take_ofW HT_.out HW_.out kr) (fun _ _ _ h => h) (Or.inl ⟨by rfl, ?_⟩) hHeld ?_ ?_
 rotate_left
 ·rintro w' ⟨s0, s1, s2, s3, s4⟩
  have s9 := s0.1; have s8 := s0.2.1; go_simp; with_reducible rfl
 rotate_left
 ·simp only [Act.put, List.setIfInBounds_toArray, List.set_cons_zero, List.set_cons_succ, i64_w, i32_w]
  rfl
 refine pu_ 10 29 HT_ ?_; refine pu_ 11 18 HT_ ?_
 refine done_ (done_of HT_.out kr) ?_
 clear hHeld HT_ HW_ HI
 go_wp2_with fail
 have HB := ax (below_drew1 (below_drew1 (Below.refl w3.heap.size w3)))
 refine start_ (n := 25) (S := (fun w' => (w'.cell? ⟨sb, 4, none⟩ = some (.slice Av nl cv) ∧ w'.cell? ⟨sb, 1, none⟩ = some (.int .i64 8) ∧ w'.cell? ⟨sb, 3, none⟩ = some (.int .u16 (nm first 0))) ∧ w'.cell? ⟨b5, 0, none⟩ = some (vs 0) ∧ w'.cell? ⟨b5, 1, none⟩ = some (vs 1) ∧ w'.cell? ⟨b5, 2, none⟩ = some (vs 2) ∧ w'.cell? ⟨b5, 3, none⟩ = some (vs 3))) (ds := [21, 24]) #[false, false, false, false, false, false, false, false, false, false, false, false, false, false, false, false, false, false, false, false, false, false, false, false, false] kr rfl rfl (HSN.out _ HB.out) (fun hHeld => ?_)
 refine with_tabW ssend8.tab ssend8.bits (fun HT_ HW_ => ?_)
 refine pu_ 0 30 HT_ ?_; refine pu_ 1 31 HT_ ?_; refine pu_ 2 32 HT_ ?_; refine pu_ 3 33 HT_ ?_
 refine take_ (i := 4) (N := some 34) (v := ?_) (a' := ?_) #[true, true, true, true, true, false, false, false, false, false, false, false, false, false, false, false, false, false, false, false, false, false, false, false, false] rfl rfl (take_ofW HT_.out HW_.out kr) (fun _ _ _ h => h) (Or.inl ⟨by rfl, ?_⟩) hHeld ?_ ?_
 rotate_left
 ·rintro w' ⟨s0, s1, s2, s3, s4⟩
  have s9 := s0.1; go_simp; with_reducible rfl
 rotate_left
 ·simp only [Act.put, List.setIfInBounds_toArray, List.set_cons_zero, List.set_cons_succ, i64_w, i32_w]
  rfl
 refine pu_ 5 35 HT_ ?_; refine pu_ 6 36 HT_ ?_; refine pu_ 7 37 HT_ ?_
 refine take_ (i := 8) (N := some 38) (v := ?_) (a' := ?_) #[true, true, true, true, true, true, true, true, true, false, false, false, false, false, false, false, false, false, false, false, false, false, false, false, false] rfl rfl (take_ofW HT_.out HW_.out kr) (fun _ _ _ h => h) (Or.inl ⟨by rfl, ?_⟩) hHeld ?_ ?_
 rotate_left
 ·rintro w' ⟨s0, s1, s2, s3, s4⟩
  have s9 := s0.2.2; go_simp; with_reducible rfl
 rotate_left
 ·simp only [Act.put, List.setIfInBounds_toArray, List.set_cons_zero, List.set_cons_succ, i64_w, i32_w]
  rfl
 refine pu_ 9 39 HT_ ?_; refine pu_ 10 40 HT_ ?_; refine pu_ 11 41 HT_ ?_
 refine take_ (i := 12) (N := some 42) (v := ?_) (a' := ?_) #[true, true, true, true, true, true, true, true, true, true, true, true, true, false, false, false, false, false, false, false, false, false, false, false, false] rfl rfl (take_ofW HT_.out HW_.out kr) (fun _ _ _ h => h) (Or.inl ⟨by rfl, ?_⟩) hHeld ?_ ?_
 rotate_left
 ·rintro w' ⟨s0, s1, s2, s3, s4⟩
  have s9 := s0.1; go_simp; with_reducible rfl
 rotate_left
 ·simp only [Act.put, List.setIfInBounds_toArray, List.set_cons_zero, List.set_cons_succ, i64_w, i32_w]
  rfl
 refine pu_ 13 43 HT_ ?_; refine pu_ 15 45 HT_ ?_; refine pu_ 16 46 HT_ ?_; refine tk_ 17 47 HT_ HW_ hHeld ?_
 refine on_ 14 HT_ fun K hK => ?_
 refine goes_ Tryz.func18 kr rfl #[.int .u16 (nm first 0), .int .i64 ↑nl] (by rfl) rfl rfl gs_ ?_
 refine (plus_calls first 0 nl _ rfl (by omega) _).mono ?_
 rintro e w4 ⟨rfl, hb4⟩
 have HB := ax (below_step HB.out hb4)
 clear hb4
 refine ⟨_, rfl, ?_⟩
 refine hK.out _ _ (HSN.out _ HB.out) (fun hHeld => ?_)
 clear hK K
 refine norm_ (a' := ?_) ?_ ?_
 rotate_left
 ·show Act.put _ (some 44) _ = _
  simp only [Act.put, List.setIfInBounds_toArray, List.set_cons_zero, List.set_cons_succ, i64_w, i32_w]
  rfl
 refine pu_ 18 48 HT_ ?_
 refine on_ 19 HT_ fun K hK => ?_
 refine value_ (w1 := ?_) (v := ?_) (by rfl) rfl ?_ ?_
 rotate_left 2
 ·go_simp
  constructor
  ·rfl
  ·rfl
 refine gen_alloc HB.out (fun x wx hxl hxb hxx => ?_)
 have HX := ax hxb
 have HB := ax hxx
 have HXL := ax hxl
 clear hxl hxb hxx
 refine hK.out _ _ (HSN.out _ HB.out) (fun hHeld => ?_)
 clear hK K
 refine norm_ (a' := ?_) ?_ ?_
 rotate_left
 ·show Act.put _ (some 49) _ = _
  simp only [Act.put, List.setIfInBounds_toArray, List.set_cons_zero, List.set_cons_succ, i64_w, i32_w]
  rfl
 refine on_ 20 HT_ fun K hK => ?_
 refine Kd.R_lit_step kPt (w0 := wx) wx.heap.size 93 (by rfl) (N := 50) rfl (xs := [x]) (inner := [encP x]) (ok := fun _ => True) (okp := fun _ => True) (by first | (go_simp; done) | (go_simp; rfl)) ⟨rfl, by intro j p hj; cases j with | zero => (injection hj with hj; subst hj; rfl) | succ j => cases hj⟩ (fun _ hk => hk) trivial (Below.refl _ _) (Nat.le_refl _) (by simp) ?_
 intro v3 wy ho3 hb3 hg3 hnew3
 obtain ⟨A3, c3, e3⟩ := Kd.R_slice ho3
 subst e3
 have H3 := ax ho3
 have HX := ax ((hb3.block x (blk_lt HX.out)).trans HX.out)
 have HB := ax (below_step HB.out hb3)
 have HRY := ax (Kd.R_below HR.out (below_step HB3.out HB.out))
 have HSY := ax (show S ≤ wy.heap.size from by have := HN.out.2.2.2.2.2.1; have := HB3.out.size; have := HB.out.size; omega)
 clear ho3 hb3 hg3 hnew3
 refine hK.out _ _ (HSN.out _ HB.out) (fun hHeld => ?_)
 clear hK K
 refine norm_ (a' := ?_) ?_ ?_
 rotate_left
 ·show Act.put _ (some 50) _ = _
  simp only [Act.put, List.setIfInBounds_toArray, List.set_cons_zero, List.set_cons_succ, i64_w, i32_w]
  rfl
 refine last_ (i := 21) (N := some 51) #[true, true, true, true, true, true, true, true, true, true, true, true, true, true, true, true, true, true, true, true, true, true, false, false, false] rfl rfl (one_of HT_.out kr) (by decide) (fun K hK => ?_)
 refine Kd.R_append_rows_step kPt (w0 := wy) S (by rfl) (.tmp 34) (.tmp 50) 78 93 (.pointer none) 8 rfl Tryz.underlying78 pt_info rfl (by decide) (by decide) (.slice Av nl cv) L [x] A3 [x].length c3 (fun _ => True) (fun _ => False) (by first | rfl | (go_simp; done)) (by first | rfl | (go_simp; done)) HRY.out (Kd.R_reads' H3.out).2.2 (fun _ _ h => h) (fun _ h => h.elim) (fun _ _ => trivial) (Below.refl _ _) HSY.out (by have := HN.out.2.2.2.2.2.2; simp; omega) ?_
 intro v4 wz ho4 hb4 hg4 hat4
 have H4 := ax ho4
 have HG4 := ax hg4
 have hsy := (HB.out.block sb (blk_lt HS3.out)).trans HS3.out
 have HSZ := ax ((hg4.block sb (blk_lt hsy) (fun e => by
  obtain ⟨cs', hcs'⟩ := Kd.R_typed HRY.out sb e.symm
  exact two_types hsy hcs' (by decide))).trans hsy)
 have HXZ := ax ((hg4.block x (blk_lt HX.out) (fun e => by
  obtain ⟨cs', hcs'⟩ := Kd.R_typed HRY.out x e.symm
  exact two_types HX.out hcs' (by decide))).trans HX.out)
 clear ho4 hb4 hg4 hat4 hsy
 refine hK.out _ _ ?_
 clear hK K
 refine norm_ (a' := ?_) ?_ ?_
 rotate_left
 ·show Act.put _ (some 51) _ = _
  simp only [Act.put, List.setIfInBounds_toArray, List.set_cons_zero, List.set_cons_succ, i64_w, i32_w]
  rfl
 refine pu_ 22 52 HT_ ?_; refine pu_ 23 53 HT_ ?_
 refine last_ (i := 24) (N := none) #[true, true, true, true, true, true, true, true, true, true, true, true, true, true, true, true, true, true, true, true, true, true, true, true, true] rfl rfl (one_of HT_.out kr) (by decide) (fun K hK => ?_)
 rw [if_pos (by rfl)]
 have hc4 := (blk_cell HSZ.out 4)
 have hf4 := (blk_frozen HSZ.out 4)
 obtain ⟨A4, c4, e4⟩ := Kd.R_slice H4.out
 subst e4
 unfold Oper.wp
 go_simp
 refine hK.out _ _ ?_
 clear hK K
 refine done_ (done_of HT_.out kr) ?_
 clear hHeld HT_ HW_
 go_wp2_with fail
 have hrs : (Tryz.f8).results = #[.tmp 4] := by kernel_rfl
 refine bodyPost_ret (results_tmp hrs _ _ _) rfl ?_
 have hp6 := Put1.set sb 4 wz (.slice A4 (L.length + 1) c4)
 have hkeep : Keep (fun k => k = sb ∨ (Value.slice Av nl cv).ownBlock = some k) w (wz.setCell ⟨sb, 4, none⟩ (.slice A4 (L.length + 1) c4)) := (Keep.of_below HB3.out).seq ((Keep.of_below HB.out).seq ((Keep.of_grown HG4.out (fun k hk => .inr hk)).seq (Keep.of_put hp6 (.inl rfl))))
 have hty : ∀ (k : Nat) (cs : Array Value) (T : TypeId), w.heap[k]? = some (.cells cs T (0, 0)) → T ≠ 82 → T ≠ 93 → (wz.setCell ⟨sb, 4, none⟩ (.slice A4 (L.length + 1) c4)).heap[k]? = w.heap[k]? := fun k cs T hk h1 h2 => hkeep.block k (blk_lt hk) (fun e => by
  rcases e with e | e
  ·subst e; exact two_types hk HBX.out h1
  ·obtain ⟨cs', hcs'⟩ := Kd.R_typed HR.out k e
   exact two_types hk hcs' h2)
 have hr4 : Kd.R kPt 93 wz S (fun _ => True) (.slice A4 (L.length + 1) c4) (L ++ [x]) := by simpa using H4.out
 have hxw : w.heap.size ≤ x := Nat.le_trans HB3.out.size HXL.out
 have hn := HN.out
 have hsbl := blk_lt HBX.out
 have hbox6 : SNB (wz.setCell ⟨sb, 4, none⟩ (.slice A4 (L.length + 1) c4)) sb (nm first 0) (.slice A4 (L.length + 1) c4) g 0 0 := blk_put HSZ.out 4 _ rfl
 refine ⟨rfl, .slice A4 (L.length + 1) c4, x, ⟨hbox6, R_keepP hr4 (fun k hk => hp6.block k (fun e => ?_)), fun i y hy => ?_, ?_, HH.out.wh.keep (fun k hk => ?_), HH.out.lo⟩, hkeep.below hn.2.2.2.2.2.1 (fun k hk => ?_), by have hkk := hkeep; rw [hn.1] at hkk; exact hkk⟩
 ·obtain ⟨cs', hcs'⟩ := Kd.R_typed hr4 k hk
  subst e
  exact two_types hcs' HSZ.out (by decide)
 ·by_cases c : i < L.length
  ·rw [List.getElem?_append_left c] at hy
   obtain ⟨h1, h2⟩ := HH.out.en i y hy
   refine ⟨h1, h2.keep (fun k cs hk => ?_)⟩
   rcases hk with ⟨hk, _⟩ | ⟨hk, _⟩ | hk
   ·exact hty k cs _ hk (by decide) (by decide)
   ·exact hty k cs _ hk (by decide) (by decide)
   ·exact hty k cs _ hk (by decide) (by decide)
  ·rw [List.getElem?_append_right (by omega)] at hy
   have hi : i = nl := by
    have := (List.getElem?_eq_some_iff.1 hy).1
    simp at this; omega
   subst hi
   rw [hn.1, Nat.sub_self] at hy
   injection hy with hy
   subst hy
   have e1 : Ms i = M := by rw [hn.1]; exact hn.2.2.1
   have hxs : x ≠ sb := by omega
   refine ⟨by omega, ⟨vs, ?_, fun u hu => ?_⟩, fun k hk => by cases hk⟩
   ·rw [e1, ← hn.2.1]
    exact (hp6.block x hxs).trans HXZ.out
   ·rw [e1, ← hn.2.1]
    have h7 : PRT w3 (vs u) _ := PRT.of_R (HV3.out u hu)
    refine (h7.below HB.out).same (fun k cs hk => ?_)
    have g1 : wz.heap[k]? = wy.heap[k]? := HG4.out.block k (blk_lt hk) (fun e => by
     obtain ⟨cs', hcs'⟩ := Kd.R_typed HRY.out k e.symm
     exact two_types hk hcs' (by decide))
    exact (hp6.block k (fun e => by rw [e] at g1 hk; exact two_types (g1.trans hk) HSZ.out (by decide))).trans g1
 ·rw [List.nodup_append]
  refine ⟨HH.out.nd, by simp, fun y hy z hz => ?_⟩
  rw [List.mem_singleton] at hz
  subst hz
  obtain ⟨i, hi, rfl⟩ := List.mem_iff_getElem.1 hy
  obtain ⟨_, h2⟩ := HH.out.en i _ (List.getElem?_eq_getElem hi)
  obtain ⟨p, h3, _⟩ := h2.ent
  have := blk_lt h3
  omega
 ·rcases HH.out.wh.kinds hk with e | ⟨cs, T, h3, h4⟩
  ·subst e
   obtain ⟨D, hD, _⟩ := HH.out.wh.own
   obtain ⟨es, cl, hm⟩ := ownT_map hD
   refine hkeep.block k (HH.out.wh.foot k hk).1 (fun e => ?_)
   rcases e with e | e
   ·subst e; rw [HBX.out] at hm; cases hm
   ·obtain ⟨cs', hcs'⟩ := Kd.R_typed HR.out k e
    rw [hcs'] at hm; cases hm
  ·exact hty k cs T h3 (by rcases h4 with rfl | rfl <;> decide) (by rcases h4 with rfl | rfl <;> decide)
 ·rcases hk with e | e
  ·subst e; exact HH.out.lo
  ·exact Kd.R_base HR.out k e
-- YtajiggmeappfaaaGreatDoorPKPool
def RP (v : Value) : Option (DataW Unit × List MemPlace) := match v with
 | .pointer _ => some (.lit (.bool true), [])
 | _ => none
theorem seqLaw : Maps.Keyed Tryz.prog 31 := Maps.int_keyed Tryz.underlying31
theorem seqKey {a : Int} (ha : 0 ≤ a ∧ a ≤ 65535) : keyOf Tryz.prog 31 (.int .u16 a) = some (.int .u16 a) := Maps.keyOf_int_mk Tryz.underlying31 (by simp [Lit.wf, IntKind.signed, IntKind.bits, IntKind.min, IntKind.max]; omega)
structure PO (w : World) (gp mp : Nat) (size : Int) (n : Nat) (D : DataW Unit) : Prop where
 box : w.heap[gp]? = some (.cells #[.int .i64 size, .map (some mp)] 140 (0, 0))
 own : w.ownsMap Tryz.prog 31 RP mp n D
theorem own_lt {w : World} {mp n : Nat} {D : DataW Unit} (h : w.ownsMap Tryz.prog 31 RP mp n D) : ∃ es clock, w.heap[mp]? = some (.map es clock) := by
 obtain ⟨es, clock, hb, _⟩ := h
 exact ⟨es, clock, hb⟩
theorem own_block {w w' : World} {mp n : Nat} {D : DataW Unit} (h : w.ownsMap Tryz.prog 31 RP mp n D) (hb : w'.heap[mp]? = w.heap[mp]?) : w'.ownsMap Tryz.prog 31 RP mp n D := by
 obtain ⟨es, clock, h1, h2⟩ := h
 exact ⟨es, clock, hb.trans h1, h2⟩
theorem own_empty {w : World} {mp n : Nat} (h : w.ownsMap Tryz.prog 31 RP mp n (.map [])) : w.ownsMap Tryz.prog 31 RP mp 0 (.map []) := by
 obtain ⟨es, clock, h1, h2, h3, h4⟩ := h
 refine ⟨es, clock, h1, h2, ?_, h4⟩
 injection h4 with h4
 have := congrArg List.length h4
 rw [length_sorted] at this
 simp at this
 simp [this]
theorem PO.lt {w : World} {gp mp n : Nat} {size : Int} {D : DataW Unit} (h : PO w gp mp size n D) : gp < w.heap.size ∧ mp < w.heap.size ∧ gp ≠ mp := by
 obtain ⟨es, clock, hb⟩ := own_lt h.own
 have hm : mp < w.heap.size := by
  rcases Nat.lt_or_ge mp w.heap.size with c | c
  ·exact c
  ·rw [Array.getElem?_eq_none c] at hb; cases hb
 refine ⟨blk_lt h.box, hm, fun e => ?_⟩
 subst e
 rw [h.box] at hb; cases hb
theorem PO.keep {w w' : World} {gp mp n : Nat} {size : Int} {D : DataW Unit} (h : PO w gp mp size n D) (h1 : w'.heap[gp]? = w.heap[gp]?) (h2 : w'.heap[mp]? = w.heap[mp]?) : PO w' gp mp size n D := ⟨h1.trans h.box, own_block h.own h2⟩
theorem PO.below {w w' : World} {gp mp n : Nat} {size : Int} {D : DataW Unit} (h : PO w gp mp size n D) (hb : Below w.heap.size w w') : PO w' gp mp size n D := h.keep (hb.block gp h.lt.1) (hb.block mp h.lt.2.1)
theorem PO.low {w w' : World} {S gp mp n : Nat} {size : Int} {D : DataW Unit} (h : PO w gp mp size n D) (hg : gp < S) (hm : mp < S) (hb : Below S w w') : PO w' gp mp size n D := h.keep (hb.block gp hg) (hb.block mp hm)
theorem put_of_turned {w w' : World} {mp : Nat} (h : w.mapTurned w' mp) : Put1 mp w w' := by
 obtain ⟨es, clock, es', clock', hb, rfl⟩ := h
 exact ⟨rfl, rfl, rfl, by simp [ChangeMaps.setBlock], fun k hk => ChangeMaps.heap_setBlock_other hb _ hk⟩
theorem zeroP (w : World) : (zeroValue 109).run Tryz.prog w = .ok (.pointer none) w := by kernel_rfl
theorem poolNew_calls {w : World} (size : Nat) (h1 : 1 ≤ size) (h2 : size ≤ 16) :
  Calls Tryz.prog 27 #[.int .i64 (size : Int)] w fun e w' => ∃ gp mp, e = .returned (.tuple #[.pointer (some ⟨gp, 0, none⟩), .int .i64 0]) ∧ PO w' gp mp size 0 (.map []) ∧ w.heap.size ≤ gp ∧ w.heap.size ≤ mp ∧ Below w.heap.size w w' := by
 have e1 : ¬ (size : Int) < 1 := by omega
 have e2 : ¬ (size : Int) > 16 := by omega
 have hmm := @run_makeMap Tryz.prog
 go_enter Tryz.func27, Tryz.ntmps27
 go_wp2_with fail
 have hrs : (Tryz.f27).results = #[.tmp 2, .tmp 3] := by kernel_rfl
 refine bodyPost_ret (results_tmp2 hrs _ _ _) rfl ?_
 have ho := (World.ownsMap_made w Tryz.prog 31 RP)
 have hb1 := below_alloc (Below.refl w.heap.size w) (.map #[] 0)
 have hb2 := below_alloc (Below.refl (w.alloc (.map #[] 0)).heap.size (w.alloc (.map #[] 0))) (.cells #[.int .i64 (size : Int), .map (some w.heap.size)] 140)
 have hbx := blk_new (w.alloc (.map #[] 0)) (.cells #[.int .i64 (size : Int), .map (some w.heap.size)] 140)
 rw [World.size_alloc] at hbx
 refine ⟨w.heap.size + 1, rfl, w.heap.size, ⟨hbx, own_block ho (hb2.block _ (by rw [World.size_alloc]; omega))⟩, by omega, by omega, below_step hb1 hb2⟩
def kroom1.T : Bool × List (List Nat × List Nat) := (true, [([], []), ([0], [0]), ([1], [1]), ([2], [2]), ([3], [3]), ([], []), ([5], [5]), ([6], [6]), ([7], [7]), ([4, 8], [4, 8])])
def kroom1.B : List Nat := [0, 1, 3, 7, 15, 0, 32, 96, 224, 511]
theorem kroom1.tab : rtab .any (opsOf Tryz.f84 1) = kroom1.T := by kernel_rfl
theorem kroom1.bits : waitsOk kroom1.T.2 kroom1.B = true := by kernel_rfl
theorem room_calls {w : World} {gp mp n : Nat} {size : Int} (h : PO w gp mp size n (.map [])) (hs : 0 < size) (b a : Int) :
  Calls Tryz.prog 84 #[.pointer (some ⟨gp, 0, none⟩), .int .u16 b, .int .u16 a] w fun e w' => e = .returned (.int .i64 0) ∧ Below w.heap.size w w' := by
 have HS := ax (show w.drew.cell? ⟨gp, 0, none⟩ = some (.int .i64 size) ∧ w.drew.cell? ⟨gp, 1, none⟩ = some (.map (some mp)) ∧ w.drew.ownsMap Tryz.prog 31 RP mp n (.map []) from ⟨blk_cell h.box 0, blk_cell h.box 1, World.ownsMap.drew h.own⟩)
 have HB := ax (show Below w.heap.size w w.drew from below_drew1 (Below.refl _ _))
 clear h
 go_enter Tryz.func84, Tryz.ntmps84
 go_wp2_with fail
 refine start_ (n := 10) (S := (fun w' => w'.cell? ⟨gp, 0, none⟩ = some (.int .i64 size) ∧ w'.cell? ⟨gp, 1, none⟩ = some (.map (some mp)) ∧ w'.ownsMap Tryz.prog 31 RP mp n (.map []))) (ds := []) #[false, false, false, false, false, false, false, false, false, false] kr rfl rfl HS.out (fun hHeld => ?_)
 refine with_tabW kroom1.tab kroom1.bits (fun HT_ HW_ => ?_)
 refine pu_ 0 9 HT_ ?_; refine pu_ 1 10 HT_ ?_; refine pu_ 2 11 HT_ ?_; refine tk_ 3 12 HT_ HW_ hHeld ?_
 refine take_ (i := 4) (N := some 13) (v := ?_) (a' := ?_) #[true, true, true, true, true, false, false, false, false, false] rfl rfl (take_ofW HT_.out HW_.out kr) (fun _ _ _ h => h) (Or.inl ⟨by rfl, ?_⟩) hHeld ?_ ?_
 rotate_left
 ·rintro w' ⟨s0, s1, s2⟩
  have hl := s2.len Tryz.underlying138 3; rw [show ((Maps.size (DataW.map [] : DataW Unit) : Nat) : Int) = 0 from rfl] at hl; go_simp; with_reducible rfl
 rotate_left
 ·simp only [Act.put, List.setIfInBounds_toArray, List.set_cons_zero, List.set_cons_succ, i64_w, i32_w]
  rfl
 refine pu_ 5 14 HT_ ?_; refine pu_ 6 15 HT_ ?_; refine pu_ 7 16 HT_ ?_; refine tk_ 8 17 HT_ HW_ hHeld ?_; refine pu_ 9 18 HT_ ?_
 refine done_ (done_of HT_.out kr) ?_
 clear hHeld
 go_wp2_with fail
 have hrs : (Tryz.f84).results = #[.tmp 6] := by kernel_rfl
 refine bodyPost_ret (results_tmp hrs _ _ _) rfl ?_
 exact ⟨rfl, HB.out⟩
theorem give_calls {w : World} {gp mp : Nat} {size : Int} (h : PO w gp mp size 0 (.map [])) (hs : 0 < size) (b a : Int) (ha : 0 ≤ a ∧ a ≤ 65535) {n N : Nat} (hn : n ≤ 64) (hN : N = 8 * (n + 4)) :
  Calls Tryz.prog 38 #[.pointer (some ⟨gp, 0, none⟩), .int .u16 b, .int .u16 a, .int .i64 (n : Int)] w fun e w' => ∃ q g h, e = .returned (.tuple #[.pointer (some ⟨q, 0, none⟩), .int .i64 0]) ∧ PO w' gp mp size 1 ((DataW.map []).put (.int .u16 a) (.lit (.bool true))) ∧
   w'.heap[q]? = some (.cells (prc n (some ⟨g, 0, none⟩) 0 false) 181 (0, 0)) ∧ BU w' w.heap.size g h N (List.replicate (4 * (N + 6)) 0) ∧ w.heap.size ≤ q ∧ q ≠ g ∧ q ≠ h ∧ Fg mp w w' := by
 have HP := ax h
 have HN := ax (And.intro hn (And.intro hN hs))
 have HK := ax (seqKey ha)
 have hc1 : w.cell? ⟨gp, 1, none⟩ = some (.map (some mp)) := blk_cell h.box 1
 clear h hn hN hs ha
 go_enter Tryz.func38, Tryz.ntmps38
 go_wp2_with (first
  | (at_lookup; refine wpList_lookup_own_ok _ rfl _ _ 138 rfl 31 109 seqLaw Tryz.underlying138 RP (zeroP _) (.lit (.bool true)) [] rfl mp 0 (.map []) rfl HP.out.own _ _ rfl HK.out ?_; intro v ps hv; have hh : Maps.has (DataW.map [] : DataW Unit) (.int .u16 a) = false := rfl; rw [hh]; clear hv hh)
  | (go_at_call 83; refine Aside0.out ?_)
  | fail)
 refine ax ?_
 refine (harqNew_calls HN.out.1 HN.out.2.1).mono ?_
 rintro e w1 ⟨q, g, h, rfl, hq, hbu, h1, h2, h3, hb⟩
 have HP1 := ax (HP.out.below hb)
 have HQ1 := ax hq
 have HU1 := ax hbu
 have HB1 := ax hb
 have HL := ax (show w.heap.size ≤ q ∧ q ≠ g ∧ q ≠ h ∧ mp < w.heap.size ∧ gp < w.heap.size ∧ gp ≠ mp from ⟨h1, h2, h3, HP.out.lt.2.1, HP.out.lt.1, HP.out.lt.2.2⟩)
 clear hq hbu h1 h2 h3 hb hc1 HP
 go_wp2_with (first
  | (go_at_call 84; refine Aside0.out ?_)
  | fail)
 refine ax ?_
 refine (room_calls HP1.out HN.out.2.2 _ _).mono ?_
 rintro e w2 ⟨rfl, hb⟩
 have HP2 := ax (HP1.out.below hb)
 have HQ2 := ax ((hb.block q (blk_lt HQ1.out)).trans HQ1.out)
 have HU2 := ax (HU1.out.below hb)
 have HB2 := ax (below_step HB1.out hb)
 clear hb HP1 HQ1 HU1 HB1
 have hc1 : w2.cell? ⟨gp, 1, none⟩ = some (.map (some mp)) := blk_cell HP2.out.box 1
 go_wp2_with (first
  | (at_mapUpdate; refine wpList_mapUpdate_in _ rfl _ _ _ 138 rfl 31 109 seqLaw Tryz.underlying138 RP mp 0 (.map []) rfl HP2.out.own (by decide) _ _ _ rfl rfl HK.out (.lit (.bool true)) [] rfl ?_; intro w3 hown hturn; have HO3 := ax hown; have HT3 := ax (put_of_turned hturn); clear hown hturn)
  | fail)
 have hrs : (Tryz.f38).results = #[.tmp 8, .tmp 9] := by kernel_rfl
 refine bodyPost_ret (results_tmp2 hrs _ _ _) rfl ?_
 have hl := HU2.out.lo
 have hm := HL.out
 exact ⟨q, g, h, rfl, ⟨(HT3.out.block gp hm.2.2.2.2.2).trans HP2.out.box, HO3.out⟩, (HT3.out.block q (by omega)).trans HQ2.out, HU2.out.putq HT3.out (by omega), hm.1, hm.2.1, hm.2.2.1, Fg.trans (Fg.of_below HB2.out) (Fg.of_put HT3.out)⟩
theorem drop_calls {w : World} {gp mp : Nat} {size : Int} (a : Int) (ha : 0 ≤ a ∧ a ≤ 65535) (h : PO w gp mp size 1 ((DataW.map []).put (.int .u16 a) (.lit (.bool true)))) :
  Calls Tryz.prog 40 #[.pointer (some ⟨gp, 0, none⟩), .int .u16 a] w fun e w' => e = .returned (.int .i64 0) ∧ PO w' gp mp size 0 (.map []) ∧ Put1 mp w w' := by
 have HP := ax h
 have HK := ax (seqKey ha)
 have hc1 : w.cell? ⟨gp, 1, none⟩ = some (.map (some mp)) := blk_cell h.box 1
 have hsame : (Lit.int .u16 a).sameKey (.int .u16 a) = true := by simp [Lit.sameKey]
 have hh : Maps.has ((DataW.map []).put (.int .u16 a) (.lit (.bool true)) : DataW Unit) (.int .u16 a) = true := by
  show Maps.has (DataW.map [(Lit.int .u16 a, DataW.lit (.bool true))] : DataW Unit) (.int .u16 a) = true
  rw [Maps.has_eq]; simp [hsame]
 have hd : (((DataW.map []).put (.int .u16 a) (.lit (.bool true)) : DataW Unit)).del (.int .u16 a) = .map [] := by
  show (DataW.map [(Lit.int .u16 a, DataW.lit (.bool true))] : DataW Unit).del (.int .u16 a) = .map []
  simp [DataW.del, hsame]
 have HH := ax (And.intro hh hd)
 clear h ha hh hd hsame
 go_enter Tryz.func40, Tryz.ntmps40
 go_wp2_with (first
  | (at_lookup; refine wpList_lookup_own_ok _ rfl _ _ 138 rfl 31 109 seqLaw Tryz.underlying138 RP (zeroP _) (.lit (.bool true)) [] rfl mp 1 _ rfl HP.out.own _ _ rfl HK.out ?_; intro v ps hv; rw [HH.out.1]; clear hv)
  | (at_delete; refine wpList_delete_own _ rfl _ _ 138 31 rfl 109 seqLaw Tryz.underlying138 RP mp 1 _ rfl HP.out.own _ _ rfl HK.out ?_; intro w1 hown hturn; rw [HH.out.2] at hown; have HO := ax (own_empty hown); have HT := ax (put_of_turned hturn); clear hown hturn)
  | fail)
 have hrs : (Tryz.f40).results = #[.tmp 4] := by kernel_rfl
 refine bodyPost_ret (results_tmp hrs _ _ _) rfl ?_
 exact ⟨rfl, ⟨(HT.out.block gp HP.out.lt.2.2).trans HP.out.box, HO.out⟩, HT.out⟩
-- YtajiggmeappfaaaGreatDoorPRDef
abbrev encO (e : Option Addr × Nat × Nat) : Value := .slice e.1 e.2.1 e.2.2
abbrev kO : Kd (Option Addr × Nat × Nat) := Kd.scalar encO (fun _ => rfl)
def RC (v : Value) : Option (DataW Value × List MemPlace) := some (.held v, [])
abbrev ownC (w : World) (cm n : Nat) (D : DataW Value) : Prop := w.ownsMap Tryz.prog seqT RC cm n D
theorem ownC_fit {w : World} {mp n : Nat} {D : DataW Value} (h : ownC w mp n D) : ownC w mp (Maps.size D) D := by
 obtain ⟨es, clock, h1, h2, h3, h4⟩ := h
 refine ⟨es, clock, h1, h2, ?_, h4⟩
 subst h4
 simp [Maps.size, length_sorted]
theorem ownC_block {w w' : World} {mp n : Nat} {D : DataW Value} (h : ownC w mp n D) (hb : w'.heap[mp]? = w.heap[mp]?) : ownC w' mp n D := by
 obtain ⟨es, clock, h1, h2⟩ := h
 exact ⟨es, clock, hb.trans h1, h2⟩
theorem ownC_map {w : World} {mp n : Nat} {D : DataW Value} (h : ownC w mp n D) : ∃ es clock, w.heap[mp]? = some (.map es clock) := by
 obtain ⟨es, clock, h1, h2⟩ := h
 exact ⟨es, clock, h1⟩
abbrev rcvC (base : Int) (gp cm : Nat) (out : Value) : Array Value := #[.int .i64 3, .int .u16 base, .pointer (some ⟨gp, 0, none⟩), .map (some cm), out]
abbrev RCV (w : World) (rb : Nat) (base : Int) (gp cm : Nat) (out : Value) : Prop := w.heap[rb]? = some (.cells (rcvC base gp cm out) 88 (0, 0))
def cntC (C : Nat → Bool) : Nat := ((List.range 7).filter C).length
theorem cntC_le (C : Nat → Bool) : cntC C ≤ 7 := by
 have := List.length_filter_le C (List.range 7)
 simpa [cntC] using this
theorem cnt_add (C : Nat → Bool) (i : Nat) (hi : C i = false) : ∀ l : List Nat, l.Nodup → i ∈ l → (l.filter fun j => C j || j == i).length = (l.filter C).length + 1 := by
 intro l
 induction l with
 | nil => intro _ h; cases h
 | cons x l ih =>
  intro hn hm
  rw [List.nodup_cons] at hn
  by_cases e : x = i
  ·subst e
   have h1 : (l.filter fun j => C j || j == x) = l.filter C := List.filter_congr (fun j hj => by
    have : j ≠ x := fun e => hn.1 (e ▸ hj)
    simp [this])
   simp [List.filter_cons, hi, h1]
  ·have hm' : i ∈ l := by
    rcases List.mem_cons.1 hm with h | h
    ·exact absurd h.symm e
    ·exact h
   have h2 := ih hn.2 hm'
   cases hc : C x <;> simp [List.filter_cons, hc, e, h2]
theorem cntC_add {C : Nat → Bool} {i : Nat} (hi : C i = false) (h7 : i < 7) : cntC (fun j => C j || j == i) = cntC C + 1 := cnt_add C i hi _ List.nodup_range (List.mem_range.2 h7)
theorem cntC_del {C : Nat → Bool} {i : Nat} (hi : C i = true) (h7 : i < 7) : cntC (fun j => C j && !(j == i)) + 1 = cntC C := by
 rw [← cntC_add (C := fun j => C j && !(j == i)) (i := i) (by simp) h7]
 have hf : (fun j => C j && !(j == i) || j == i) = C := by
  funext j
  by_cases e : j = i
  ·subst e; simp [hi]
  ·have h1 : (j == i) = false := by simpa using e
   simp only [h1, Bool.not_false, Bool.and_true, Bool.or_false]
 exact congrArg cntC hf
structure CM (w : World) (cm : Nat) (first : Int) (Ms : Nat → List Int) (C : Nat → Bool) (D : DataW Value) : Prop where
 own : ownC w cm (Maps.size D) D
 has : ∀ x, Maps.has D (.int .u16 x) = true ↔ ∃ i, C i = true ∧ x = nm first i
 at_ : ∀ i, C i = true → ∃ v, (∀ z, D.atKey (.int .u16 (nm first i)) z = .held v) ∧ PRT w v (Ms i)
 siz : Maps.size D = cntC C
structure OUT (w : World) (S : Nat) (out : Value) (Ms : Nat → List Int) (got b : Nat) : Prop where
 row : ∃ es, Kd.Q kO 37 w S (fun _ => True) out es ∧ es.length = b - got ∧ ∀ k (h : k < es.length), PRT w (encO es[k]) (Ms (got + k))
structure RD (w : World) (S rb gp mp cm : Nat) (first : Int) (n : Nat) (Ms : Nat → List Int) (b : Nat) (C : Nat → Bool) (out : Value) (got : Nat) : Prop where
 le : got ≤ b ∧ b ≤ n ∧ n ≤ 6
 box : RCV w rb (nm first b) gp cm out
 po : PO w gp mp ((2 : Nat) : Int) 0 (.map [])
 ne : mp ≠ cm
 own : ∃ D, CM w cm first Ms C D
 ran : ∀ i, C i = true → b ≤ i ∧ i < n
 out_ : OUT w S out Ms got b
 low : S ≤ rb ∧ S ≤ gp ∧ S ≤ mp ∧ S ≤ cm
abbrev rAll : List TypeId := [88, 140, 37, 5]
theorem Q_keepO {w w' : World} {base : Nat} {e : TypeId} {v : Value} {xs : List (Option Addr × Nat × Nat)} (h : Kd.Q kO e w base (fun _ => True) v xs) (hb : ∀ k, v.ownBlock = some k → w'.heap[k]? = w.heap[k]?) : Kd.Q kO e w' base (fun _ => True) v xs :=
 Kd.Q_mono (Kd.Q_move (show Kd.Q kO e w base (fun k => v.ownBlock = some k) v xs from ⟨fun _ hk => hk, h.2⟩) (fun k ok => hb k ok)) (fun _ _ => trivial)
theorem Q_typedO {w : World} {base : Nat} {ok : Nat → Prop} {e : TypeId} {v : Value} {xs : List (Option Addr × Nat × Nat)} (h : Kd.Q kO e w base ok v xs) (k : Nat) (hk : v.ownBlock = some k) : base ≤ k ∧ ∃ cells, w.heap[k]? = some (.cells cells e (0, 0)) := by
 obtain ⟨inner, hq, _⟩ := h.2
 exact q_typed hq k hk
theorem CM.keep {w w' : World} {cm : Nat} {first : Int} {Ms : Nat → List Int} {C : Nat → Bool} {D : DataW Value} (h : CM w cm first Ms C D) (hm : w'.heap[cm]? = w.heap[cm]?) (hs : Same5 w w') : CM w' cm first Ms C D :=
 ⟨ownC_block h.own hm, h.has, fun i hi => by obtain ⟨v, h1, h2⟩ := h.at_ i hi; exact ⟨v, h1, h2.same hs⟩, h.siz⟩
theorem OUT.keep {w w' : World} {S : Nat} {out : Value} {Ms : Nat → List Int} {got b : Nat} (h : OUT w S out Ms got b) (hm : ∀ k, out.ownBlock = some k → w'.heap[k]? = w.heap[k]?) (hs : Same5 w w') : OUT w' S out Ms got b := by
 obtain ⟨es, h1, h2, h3⟩ := h.row
 exact ⟨es, Q_keepO h1 hm, h2, fun k hk => (h3 k hk).same hs⟩
theorem OUT.typed {w : World} {S : Nat} {out : Value} {Ms : Nat → List Int} {got b : Nat} (h : OUT w S out Ms got b) (k : Nat) (hk : out.ownBlock = some k) : S ≤ k ∧ ∃ cells, w.heap[k]? = some (.cells cells 37 (0, 0)) := by
 obtain ⟨es, h1, h2, h3⟩ := h.row
 exact Q_typedO h1 k hk
theorem RD.keep {w w' : World} {S rb gp mp cm : Nat} {first : Int} {n : Nat} {Ms : Nat → List Int} {b : Nat} {C : Nat → Bool} {out : Value} {got : Nat} (h : RD w S rb gp mp cm first n Ms b C out got)
  (hb : ∀ k, (k = mp ∨ k = cm ∨ ∃ cs T, w.heap[k]? = some (Obj.cells cs T (0, 0)) ∧ T ∈ rAll) → w'.heap[k]? = w.heap[k]?) : RD w' S rb gp mp cm first n Ms b C out got := by
 have h5 : Same5 w w' := fun k cs hk => hb k (.inr (.inr ⟨cs, _, hk, by decide⟩))
 obtain ⟨D, hD⟩ := h.own
 exact ⟨h.le, (hb rb (.inr (.inr ⟨_, _, h.box, by decide⟩))).trans h.box, h.po.keep (hb gp (.inr (.inr ⟨_, _, h.po.box, by decide⟩))) (hb mp (.inl rfl)), h.ne, ⟨D, hD.keep (hb cm (.inr (.inl rfl))) h5⟩, h.ran, h.out_.keep (fun k hk => by obtain ⟨_, cs, hc⟩ := h.out_.typed k hk; exact hb k (.inr (.inr ⟨cs, _, hc, by decide⟩))) h5, h.low⟩
theorem RD.mp_lt {w : World} {S rb gp mp cm : Nat} {first : Int} {n : Nat} {Ms : Nat → List Int} {b : Nat} {C : Nat → Bool} {out : Value} {got : Nat} (h : RD w S rb gp mp cm first n Ms b C out got) : mp < w.heap.size ∧ cm < w.heap.size := by
 refine ⟨h.po.lt.2.1, ?_⟩
 obtain ⟨D, hD⟩ := h.own
 exact hD.own.lt
theorem RD.below {w w' : World} {S rb gp mp cm : Nat} {first : Int} {n : Nat} {Ms : Nat → List Int} {b : Nat} {C : Nat → Bool} {out : Value} {got : Nat} (h : RD w S rb gp mp cm first n Ms b C out got) (hb : Below w.heap.size w w') : RD w' S rb gp mp cm first n Ms b C out got :=
 h.keep (fun k hk => hb.block k (by rcases hk with rfl | rfl | ⟨cs, T, hk, _⟩; exact h.mp_lt.1; exact h.mp_lt.2; exact blk_lt hk))
-- YtajiggmeappfaaaGreatDoorPRNew
theorem rnew_calls {w : World} (first : Int) (hf : 0 ≤ first ∧ first ≤ 65535) (n : Nat) (hn : n ≤ 6) (Ms : Nat → List Int) : Calls Tryz.prog 6 #[.int .u16 first, .agg #[.int .i64 3, .int .i64 8, .int .i64 2]] w fun e w' => ∃ rb gp mp cm, e = .returned (.tuple #[.pointer (some ⟨rb, 0, none⟩), .int .i64 0]) ∧ RD w' w.heap.size rb gp mp cm first n Ms 0 (fun _ => false) (.slice none 0 0) 0 ∧ Below w.heap.size w w' := by
 have hba := below_alloc (Below.refl w.heap.size w) (.cells #[.int .i64 3, .int .i64 8, .int .i64 2] 26)
 have hbb := blk_new w (.cells #[.int .i64 3, .int .i64 8, .int .i64 2] 26)
 obtain ⟨bx, hbx⟩ : ∃ bx, bx = w.heap.size := ⟨_, rfl⟩
 obtain ⟨w1, hw1⟩ : ∃ w1, w1 = w.alloc (.cells #[.int .i64 3, .int .i64 8, .int .i64 2] 26) := ⟨_, rfl⟩
 rw [← hw1] at hba hbb
 rw [← hbx] at hbb
 have HB1 := ax hba
 have HX1 := ax hbb
 have HW := ax (And.intro hw1 hbx)
 have hx2 := blk_cell hbb 2
 have HN := ax (And.intro hf hn)
 have hmm := @run_makeMap Tryz.prog
 clear hba hbb hbx hw1 hf hn
 go_enter Tryz.func6, Tryz.ntmps6
 go_wp2_with fail
 rw [← HW.out.1, ← HW.out.2]
 go_wp2_with (go_at_call 27; refine (poolNew_calls (w := w1) 2 (by decide) (by decide)).mono ?_; rintro e w2 ⟨gp, mp, rfl, hp, h1, h2, hb⟩; have H2 := ax (And.intro hp (And.intro h1 (And.intro h2 hb))); have hx0 := blk_cell ((hb.block bx (blk_lt HX1.out)).trans HX1.out) 0; clear hp h1 h2 hb)
 have hrs : (Tryz.f6).results = #[.tmp 4, .tmp 5] := by kernel_rfl
 refine bodyPost_ret (results_tmp2 hrs _ _ _) rfl ?_
 have ho := (World.ownsMap_made w2 Tryz.prog seqT RC)
 have hb1 := below_alloc (Below.refl w2.heap.size w2) (.map #[] 0)
 have hb2 := below_alloc (Below.refl (w2.alloc (.map #[] 0)).heap.size (w2.alloc (.map #[] 0))) (.cells (rcvC first gp w2.heap.size (.slice none 0 0)) 88)
 have hbx := blk_new (w2.alloc (.map #[] 0)) (.cells (rcvC first gp w2.heap.size (.slice none 0 0)) 88)
 rw [World.size_alloc] at hbx
 have e0 : nm first 0 = first := by unfold nm; have := HN.out.1; omega
 have hs1 := HB1.out.size
 have hs2 := H2.out.2.2.2.size
 have hl := H2.out.1.lt
 refine ⟨w2.heap.size + 1, gp, mp, w2.heap.size, rfl, ⟨⟨Nat.le_refl _, Nat.zero_le _, HN.out.2⟩, by rw [e0]; exact hbx, (H2.out.1.below hb1).below hb2, by omega, ⟨.map [], ⟨ownC_block ho (hb2.block _ (by rw [World.size_alloc]; omega)), fun x => ?_, fun i hi => (by cases hi), (show (0 : Nat) = cntC (fun _ => false) by decide)⟩⟩, fun i hi => (by cases hi), ⟨[], Kd.Q_nil _ _ _ _ _, rfl, fun k hk => absurd hk (by simp)⟩, by omega, by have := H2.out.2.1; omega, by have := H2.out.2.2.1; omega, by omega⟩, below_step HB1.out (below_step H2.out.2.2.2 (below_step hb1 hb2))⟩
 constructor
 ·intro h; cases h
 ·rintro ⟨i, h, _⟩; cases h
theorem rpoll_none {w : World} {S rb gp mp cm : Nat} {first : Int} {n : Nat} {Ms : Nat → List Int} {b : Nat} {C : Nat → Bool} {out : Value} (h : RD w S rb gp mp cm first n Ms b C out b) :
  Calls Tryz.prog 16 #[.pointer (some ⟨rb, 0, none⟩)] w fun e w' => e = .returned (.tuple #[.slice none 0 0, .bool false]) ∧ Below w.heap.size w w' := by
 obtain ⟨es, h1, h2, _⟩ := h.out_.row
 obtain ⟨A, c, rfl, _⟩ := Kd.Q_slice h1
 have he : es.length = 0 := by omega
 have hc : w.cell? ⟨rb, 4, none⟩ = some (.slice A 0 c) := by rw [← he]; exact blk_cell h.box 4
 clear h h1 h2 he
 go_enter Tryz.func16, Tryz.ntmps16
 go_wp2_with fail
 have hrs : (Tryz.f16).results = #[.tmp 2, .tmp 3] := by kernel_rfl
 refine bodyPost_ret (results_tmp2 hrs _ _ _) rfl ?_
 exact ⟨rfl, Below.refl _ _⟩
theorem Q_at {w : World} {e : TypeId} {base : Nat} {ok : Nat → Prop} {ad : Addr} {n c : Nat} {es : List (Option Addr × Nat × Nat)} (h : Kd.Q kO e w base ok (.slice (some ad) n c) es) (hl : 0 < es.length) : ∃ gr o, ad = ⟨gr, o, none⟩ := by
 obtain ⟨inner, hq, _⟩ := h.2
 rcases hq.2 with ⟨h0, _⟩ | ⟨g, off, cap, cur, hv, _⟩
 ·omega
 ·injection hv with hv
  injection hv with hv
  exact ⟨g, off * kO.sz, hv⟩
theorem rpoll_some {w : World} {S rb gp mp cm : Nat} {first : Int} {n : Nat} {Ms : Nat → List Int} {b : Nat} {C : Nat → Bool} {out : Value} {got : Nat} (h : RD w S rb gp mp cm first n Ms b C out got) (hg : got < b) :
  Calls Tryz.prog 16 #[.pointer (some ⟨rb, 0, none⟩)] w fun e w' => ∃ v out', e = .returned (.tuple #[v, .bool true]) ∧ PRT w' v (Ms got) ∧ RD w' S rb gp mp cm first n Ms b C out' (got + 1) ∧ out'.ownBlock = out.ownBlock ∧ Keep (fun k => k = rb) w w' := by
 have HH := ax h
 obtain ⟨es, h1, h2, h3⟩ := h.out_.row
 obtain ⟨A, c, rfl, hnc⟩ := Kd.Q_slice h1
 have hlen : 0 < es.length := by omega
 have hq4 := Kd.Q_drop h1 (k := 1) (by omega)
 have hr := (Kd.Q_reads' h1).2.2
 have HPR := ax h3
 obtain ⟨m, hm⟩ : ∃ m, m = es.length := ⟨_, rfl⟩
 have hc4 : w.cell? ⟨rb, 4, none⟩ = some (.slice A m c) := by rw [hm]; exact blk_cell h.box 4
 have hf4 := blk_frozen h.box 4
 have HQ := ax (show 0 < es.length ∧ es.length = b - got ∧ got < b from ⟨hlen, h2, hg⟩)
 obtain ⟨ad, hA, hcx0⟩ := ReadsOf.at_ (Kd.reads_of_C (enc := encO) (d := ((none, 0, 0) : Option Addr × Nat × Nat)) (h1 := fun _ => rfl) hr) 0 (by decide) (by omega)
 subst hA
 obtain ⟨e0, he0⟩ : ∃ e0, e0 = es[0] := ⟨_, rfl⟩
 have hcx : w.cell? ad = some (encO e0) := by
  have e : rdOf (none, 0, 0) es (0 : Int) = e0 := by rw [he0]; simp [rdOf, hlen]
  rw [e] at hcx0
  simpa [Addr.add] using hcx0
 have hpos : (0 : Int) < (m : Int) := by omega
 have hm1 : 1 ≤ m := by omega
 have hmc : m ≤ c := by omega
 rw [← hm] at hq4
 have HE0 := ax he0
 obtain ⟨gr, o, rfl⟩ := Q_at h1 hlen
 by_cases hcp : c = 1
 ·rw [if_pos hcp] at hq4
  obtain ⟨v4, hv4⟩ : ∃ v4, v4 = Value.slice (some ⟨gr, o, none⟩) (m - 1) 0 := ⟨_, rfl⟩
  have hq5 : Kd.Q kO 37 w S (fun _ => True) v4 (es.drop 1) := by rw [hv4]; have := hq4; rw [hcp] at this; exact this
  have HQ4 := ax hq5
  have hown : v4.ownBlock = (Value.slice (some ⟨gr, o, none⟩) es.length c).ownBlock := by rw [hv4]; rfl
  clear h h1 h2 h3 hq4 hr hm he0 hcx0 hq5 hnc
  go_enter Tryz.func16, Tryz.ntmps16
  go_wp2_with fail
  have hrs : (Tryz.f16).results = #[.tmp 2, .tmp 3] := by kernel_rfl
  refine bodyPost_ret (results_tmp2 hrs _ _ _) rfl ?_
  rw [← hv4]
  have hbox4 : RCV (w.setCell ⟨rb, 4, none⟩ v4) rb (nm first b) gp cm v4 := blk_put HH.out.box 4 v4 rfl
  have hp4 := Put1.set rb 4 w v4
  have hne : ∀ (k : Nat) (cs : Array Value) (T : TypeId), w.heap[k]? = some (.cells cs T (0, 0)) → T ≠ 88 → (w.setCell ⟨rb, 4, none⟩ v4).heap[k]? = w.heap[k]? := fun k cs T hk hT => hp4.block k (fun e => by subst e; exact two_types hk HH.out.box hT)
  have h5 : Same5 w (w.setCell ⟨rb, 4, none⟩ v4) := fun k cs hk => hne k cs _ hk (by decide)
  have hmap : ∀ m : Nat, (∃ (es : Array MapEntry) (cl : Nat), w.heap[m]? = some (Obj.map es cl)) → (w.setCell ⟨rb, 4, none⟩ v4).heap[m]? = w.heap[m]? := fun m ⟨es, cl, hm⟩ => hp4.block m (fun e => by subst e; rw [HH.out.box] at hm; cases hm)
  obtain ⟨D, hD⟩ := HH.out.own
  have hle := HH.out.le
  refine ⟨_, v4, rfl, ?_, ⟨⟨by have := HQ.out.2.2; omega, hle.2⟩, hbox4, HH.out.po.keep (hne gp _ _ HH.out.po.box (by decide)) (hmap mp (own_lt HH.out.po.own)), HH.out.ne, ⟨D, hD.keep (hmap cm (ownC_map hD.own)) h5⟩, HH.out.ran, ⟨es.drop 1, ?_, by rw [List.length_drop]; have := HQ.out.2.1; omega, fun k hk => ?_⟩, HH.out.low⟩, hown, Keep.of_put hp4 rfl⟩
  ·have := HPR.out 0 HQ.out.1
   rw [Nat.add_zero, ← HE0.out] at this
   exact this.same h5
  ·exact Q_keepO HQ4.out (fun k hk => by
    obtain ⟨_, cs, hc⟩ := Q_typedO HQ4.out k hk
    exact hne k cs _ hc (by decide))
  ·rw [List.length_drop] at hk
   have h6 := HPR.out (1 + k) (by omega)
   rw [List.getElem_drop]
   have e : got + 1 + k = got + (1 + k) := by omega
   rw [e]
   exact h6.same h5
 ·rw [if_neg hcp] at hq4
  obtain ⟨v4, hv4⟩ : ∃ v4, v4 = Value.slice (some ⟨gr, o + 1, none⟩) (m - 1) (c - 1) := ⟨_, rfl⟩
  have hq5 : Kd.Q kO 37 w S (fun _ => True) v4 (es.drop 1) := by rw [hv4]; exact hq4
  have HQ4 := ax hq5
  have hown : v4.ownBlock = (Value.slice (some ⟨gr, o, none⟩) es.length c).ownBlock := by rw [hv4]; rfl
  clear h h1 h2 h3 hq4 hr hm he0 hcx0 hq5 hnc
  go_enter Tryz.func16, Tryz.ntmps16
  go_wp2_with fail
  have hrs : (Tryz.f16).results = #[.tmp 2, .tmp 3] := by kernel_rfl
  refine bodyPost_ret (results_tmp2 hrs _ _ _) rfl ?_
  rw [← hv4]
  have hbox4 : RCV (w.setCell ⟨rb, 4, none⟩ v4) rb (nm first b) gp cm v4 := blk_put HH.out.box 4 v4 rfl
  have hp4 := Put1.set rb 4 w v4
  have hne : ∀ (k : Nat) (cs : Array Value) (T : TypeId), w.heap[k]? = some (.cells cs T (0, 0)) → T ≠ 88 → (w.setCell ⟨rb, 4, none⟩ v4).heap[k]? = w.heap[k]? := fun k cs T hk hT => hp4.block k (fun e => by subst e; exact two_types hk HH.out.box hT)
  have h5 : Same5 w (w.setCell ⟨rb, 4, none⟩ v4) := fun k cs hk => hne k cs _ hk (by decide)
  have hmap : ∀ m : Nat, (∃ (es : Array MapEntry) (cl : Nat), w.heap[m]? = some (Obj.map es cl)) → (w.setCell ⟨rb, 4, none⟩ v4).heap[m]? = w.heap[m]? := fun m ⟨es, cl, hm⟩ => hp4.block m (fun e => by subst e; rw [HH.out.box] at hm; cases hm)
  obtain ⟨D, hD⟩ := HH.out.own
  have hle := HH.out.le
  refine ⟨_, v4, rfl, ?_, ⟨⟨by have := HQ.out.2.2; omega, hle.2⟩, hbox4, HH.out.po.keep (hne gp _ _ HH.out.po.box (by decide)) (hmap mp (own_lt HH.out.po.own)), HH.out.ne, ⟨D, hD.keep (hmap cm (ownC_map hD.own)) h5⟩, HH.out.ran, ⟨es.drop 1, ?_, by rw [List.length_drop]; have := HQ.out.2.1; omega, fun k hk => ?_⟩, HH.out.low⟩, hown, Keep.of_put hp4 rfl⟩
  ·have := HPR.out 0 HQ.out.1
   rw [Nat.add_zero, ← HE0.out] at this
   exact this.same h5
  ·exact Q_keepO HQ4.out (fun k hk => by
    obtain ⟨_, cs, hc⟩ := Q_typedO HQ4.out k hk
    exact hne k cs _ hc (by decide))
  ·rw [List.length_drop] at hk
   have h6 := HPR.out (1 + k) (by omega)
   rw [List.getElem_drop]
   have e : got + 1 + k = got + (1 + k) := by omega
   rw [e]
   exact h6.same h5
-- YtajiggmeappfaaaGreatDoorP110
section
attribute [local go_sem] max2_int min2_int max_two min_two max_three min_three max_four min_four
def seq_Within.f (a0 : Int) (a1 : Int) (a2 : Int) : Option (Bool) := (seq_Ahead.f a0 a2).bind fun t379 => (some (decide (t379 < a1)))
theorem seq_Within.calls (a0 : Int) (a1 : Int) (a2 : Int) (r : Bool) (w : World) (h : seq_Within.f a0 a1 a2 = some r) :
  Calls Tryz.prog 82 #[.int .u16 a0, .int .i64 a1, .int .u16 a2] w fun e w' => e = .returned (.bool r) ∧ Drawn0 w w' := by
 have H : ((seq_Ahead.f a0 a2).bind fun t379 => (some (decide (t379 < a1)))) = some r := h
 clear h
 replace H := Option.bind_eq_some_iff.mp H
 obtain ⟨t379, A40, H⟩ := H
 replace H : (some (decide (t379 < a1))) = some r := H
 have A4 := ax A40
 clear A40
 obtain rfl := Option.some.inj H
 go_enter Tryz.func82, Tryz.ntmps82
 go_wp2_with (first | ((with_reducible refine gate_callee (f := 91) rfl ?_); refine goesL_ (some 9) rfl rfl Tryz.func91 kr rfl #[.int .u16 a0, .int .u16 a2] rfl gl_ ?_; (with_reducible refine (seq_Ahead.calls a0 a2 t379 _ A4.out).mono ?_); rintro e w' ⟨rfl, ⟨nd, rfl⟩⟩; refine ⟨_, rfl, ?_⟩))
 go_ret
 exact ⟨rs_, dr_⟩
end
end Go.Proofs.YtajiggmeappfaaaGreatDoor.P
