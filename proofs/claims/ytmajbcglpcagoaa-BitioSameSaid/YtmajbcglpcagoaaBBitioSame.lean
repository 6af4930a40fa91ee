/- BitioSame by hand: two writers, three numbers. No condition. -/
import Derived.Test.YtmajbcglpcagoaaBBitioP
import Derived.Test.YtmajbcglpcagoaaBBitioB
import Derived.Test.YtmajbcglpcagoaaWTab
namespace Go.Proofs.Ytmajbcglpcagoaa.B
open Go Go.RowKit Go.Proofs.YtmajbcglpcagoaaW.PrintWords Go.Proofs.YtmajbcglpcagoaaW.PrintLast Go.Proofs.YtmajbcglpcagoaaW.PrintMore
set_option linter.unusedVariables false
set_option linter.unusedSimpArgs false

theorem WS.nil_ne {w : World} {n₀ g g' : Nat} {v : Value} {xs : List Int} (h : WS w n₀ g v xs) : ∀ b, (Value.slice none 0 0).ownBlock = some b → b ≠ g' ∧ some b ≠ v.ownBlock := by
  intro b hb; simp [Value.ownBlock] at hb
theorem Newer.nil {w : World} {v : Value} (h : Newer w (.slice none 0 0) v) : ∀ b, v.ownBlock = some b → w.heap.size ≤ b := by
  rcases h with h | h
  · intro b hb; rw [h] at hb; simp [Value.ownBlock] at hb
  · exact h
theorem one_to (x : Int) (hx : -9223372036854775808 ≤ x ∧ x ≤ 9223372036854775807) : ∃ m : Nat, 1 ≤ m ∧ m ≤ 16 ∧ wrap64 (1 + wrap64 ((IntKind.u64.wrap x).tmod 16)) = (m : Int) := by
  obtain ⟨u, hu⟩ := Int.eq_ofNat_of_zero_le (show 0 ≤ IntKind.u64.wrap x by rw [IntKind.wrap_u64]; omega)
  rw [hu, Int.tmod_eq_emod_of_nonneg (by omega)]
  refine ⟨1 + u % 16, by omega, by omega, ?_⟩
  rw [wrap_in (n := (u : Int) % 16) (by omega) (by omega), wrap_in (by omega) (by omega)]
  omega
theorem pow_le32 (S : Nat) (h : S ≤ 32) : 2 ^ S ≤ 4294967296 := Nat.pow_le_pow_right (n := 2) (by decide) h
theorem shl_u64_one (S : Nat) (h : S ≤ 32) : IntKind.u64.wrap (2 ^ min S 64) = ((2 ^ S : Nat) : Int) := by
  have all : ∀ s : Fin 33, IntKind.u64.wrap (2 ^ min s.val 64) = ((2 ^ s.val : Nat) : Int) := by decide +kernel
  exact all ⟨S, by omega⟩
theorem shl_i64_one (S : Nat) (h : S ≤ 32) : wrap64 (2 ^ min S 64) = ((2 ^ S : Nat) : Int) := by
  have all : ∀ s : Fin 33, wrap64 (2 ^ min s.val 64) = ((2 ^ s.val : Nat) : Int) := by decide +kernel
  exact all ⟨S, by omega⟩
/-- The numbers of the law. -/
structure SameN (n high low : Int) (H L S P Q N D R : Nat) (bs : List Int) : Prop where
  eH : wrap64 (1 + wrap64 ((IntKind.u64.wrap high).tmod 16)) = (H : Int)
  eL : wrap64 (1 + wrap64 ((IntKind.u64.wrap low).tmod 16)) = (L : Int)
  eS : wrap64 ((H : Int) + (L : Int)) = (S : Int)
  eP : IntKind.u64.wrap (2 ^ min S 64) = (P : Int)
  eQ : wrap64 (2 ^ min L 64) = (Q : Int)
  eN : (IntKind.u64.wrap n).tmod (P : Int) = (N : Int)
  wN : wrap64 (N : Int) = (N : Int)
  zP : ¬ P = 0
  zQ : ¬ Q = 0
  eD : wrap64 ((N : Int) / (Q : Int)) = (D : Int)
  eR : ((N : Int)).tmod (Q : Int) = (R : Int)
  p1 : putE (N : Int) (S : Int) = 0
  p2 : putE (D : Int) (H : Int) = 0
  p3 : putE (R : Int) (L : Int) = 0
  l1 : putL (N : Int) (S : Int) = bitL (N : Int) S 0
  l2 : putL (D : Int) (H : Int) = bitL (D : Int) H 0
  l3 : putL (R : Int) (L : Int) = bitL (R : Int) L 0
  two : bitL (D : Int) H 0 ++ bitL (R : Int) L 0 = bitL (N : Int) S 0
  len : (bitL (D : Int) H 0).length ≤ 1000000
  by_ : bits_Bytes.f 100 (bitL (N : Int) S 0) = some (bs, 0)
theorem same_nums (n high low : Int) (bn : -9223372036854775808 ≤ n ∧ n ≤ 9223372036854775807) (bh : -9223372036854775808 ≤ high ∧ high ≤ 9223372036854775807) (bl : -9223372036854775808 ≤ low ∧ low ≤ 9223372036854775807) :
    ∃ H L S P Q N D R bs, SameN n high low H L S P Q N D R bs := by
  obtain ⟨H, hH1, hH2, eH⟩ := one_to high bh
  obtain ⟨L, hL1, hL2, eL⟩ := one_to low bl
  have hP0 : 0 < 2 ^ (H + L) := Nat.two_pow_pos _
  have hP1 : 2 ^ (H + L) ≤ 4294967296 := pow_le32 _ (by omega)
  have hQ0 : 0 < 2 ^ L := Nat.two_pow_pos _
  have hQ1 : 2 ^ L ≤ 4294967296 := pow_le32 _ (by omega)
  obtain ⟨u, hu⟩ := Int.eq_ofNat_of_zero_le (show 0 ≤ IntKind.u64.wrap n by rw [IntKind.wrap_u64]; omega)
  obtain ⟨P, hP⟩ : ∃ P, P = 2 ^ (H + L) := ⟨_, rfl⟩
  obtain ⟨Q, hQ⟩ : ∃ Q, Q = 2 ^ L := ⟨_, rfl⟩
  rw [← hP] at hP0 hP1
  rw [← hQ] at hQ0 hQ1
  obtain ⟨N, hN⟩ : ∃ N : Nat, N = u % P := ⟨_, rfl⟩
  have hNP : N < P := hN ▸ Nat.mod_lt _ hP0
  have hD1 := Nat.div_le_self N Q
  have hDH : N / Q < 2 ^ H := by
    rw [Nat.div_lt_iff_lt_mul hQ0, hQ, ← Nat.pow_add, ← hP]; exact hNP
  have hRL : N % Q < 2 ^ L := by rw [← hQ]; exact Nat.mod_lt _ hQ0
  have hNS : N < 2 ^ (H + L) := hP ▸ hNP
  have hbit := bitL_bit N (H + L) 0 (by omega)
  refine ⟨H, L, H + L, P, Q, N, N / Q, N % Q, _, ⟨eH, eL, ?_, ?_, ?_, ?_, ?_, by omega, by omega, ?_, ?_, putE_ok _ _ (by omega) (by omega) hNS, putE_ok _ _ (by omega) (by omega) hDH, putE_ok _ _ (by omega) (by omega) hRL,
    putL_ok _ _ (by omega) (by omega) hNS, putL_ok _ _ (by omega) (by omega) hDH, putL_ok _ _ (by omega) (by omega) hRL, ?_, by rw [bitL_length]; omega, bytes_some hbit (by rw [bitL_length]; omega) 100 (by rw [bitL_length]; omega)⟩⟩
  · rw [wrap_in (by omega) (by omega)]; omega
  · rw [hP]; exact shl_u64_one _ (by omega)
  · rw [hQ]; exact shl_i64_one _ (by omega)
  · rw [hu, Int.tmod_eq_emod_of_nonneg (by omega), hN]; rfl
  · exact wrap_in (by omega) (by omega)
  · rw [show (N : Int) / (Q : Int) = ((N / Q : Nat) : Int) from rfl, wrap_in (Int.le_trans (by decide) (Int.natCast_nonneg _)) (by omega)]
  · rw [Int.tmod_eq_emod_of_nonneg (by omega)]; rfl
  · rw [bitL_two N H L (by omega), hQ]
def same7.T : Bool × List (List Nat × List Nat) := (true, [([], []), ([0, 0], [0]), ([1], [1]), ([2, 1], [1, 2]), ([1, 3], [1, 3]), ([4, 1], [4]), ([5], [5]), ([6, 5], [5, 6]), ([5, 7], [5, 7]), ([8, 5], [8]), ([9], [9]), ([10, 9], [9, 10]), ([9, 11], [9, 11]), ([12, 9], [12]), ([13], [13]), ([14, 13, 13], [13, 14]), ([15, 13], [13, 15]), ([13], [13]), ([17, 15, 13], [13, 17]), ([18, 13], [13, 18]), ([16, 19, 13], [13, 16, 19]), ([13, 20], [13, 20]), ([21, 18], [21]), ([22], [22]), ([23, 22, 22], [22, 23]), ([22], [22]), ([25, 24, 22], [22, 25]), ([24, 26, 22], [22, 24, 26]), ([22, 27], [22, 27]), ([28, 26, 0, 1, 2, 3, 4, 5, 6, 7, 8, 9, 10, 11, 12, 13, 14, 15, 16, 17, 18, 19, 20, 21, 22, 23, 24, 25, 26, 27, 28], [28])])
theorem same7.tab : rtab .any (opsOf Try.f5 7) = same7.T := by kernel_rfl
set_option maxRecDepth 100000 in
set_option maxHeartbeats 4000000 in
theorem same_calls (n high low : Int) (hn : (Lit.int .i64 n).wf = true) (hh : (Lit.int .i64 high).wf = true) (hl : (Lit.int .i64 low).wf = true) (w : World) :
    Calls Try.prog 5 #[.int .i64 n, .int .i64 high, .int .i64 low] w fun e w' => e = .returned (.bool true) ∧ Below w.heap.size w w' := by
  obtain ⟨H, L, S, P, Q, N, D, R, bs, sn⟩ := same_nums n high low (Go.bounds_i64 hn) (Go.bounds_i64 hh) (Go.bounds_i64 hl)
  clear hn hh hl
  have A := Aside0.mk sn
  have eH := sn.eH
  have eL := sn.eL
  have eS := sn.eS
  have eP := sn.eP
  have eQ := sn.eQ
  have eN := sn.eN
  have wN := sn.wN
  have zP := sn.zP
  have zQ := sn.zQ
  have eD := sn.eD
  have eR := sn.eR
  clear sn
  have bb : Below w.heap.size w ((w.alloc (.cells #[.slice none 0 0] 37)).alloc (.cells #[.slice none 0 0] 37)) := below_alloc (below_alloc (Below.refl _ _) _) _
  have a1 := (WS.new w).below (Below.refl _ _ |> fun h => below_alloc h (.cells #[.slice none 0 0] 37))
  have b1 := WS.new (w.alloc (.cells #[.slice none 0 0] 37))
  rw [World.size_alloc] at b1
  obtain ⟨wz, hwz⟩ : ∃ wz, wz = ((w.alloc (.cells #[.slice none 0 0] 37)).alloc (.cells #[.slice none 0 0] 37)) := ⟨_, rfl⟩
  have hsz : wz.heap.size = w.heap.size + 2 := by rw [hwz, World.size_alloc, World.size_alloc]
  rw [← hwz] at a1 b1 bb
  have AA := Aside0.mk a1
  have BB := Aside0.mk b1
  have HBB := Aside0.mk bb
  have HSZ := Aside0.mk hsz
  clear a1 b1 bb hsz
  go_enter Try.func5, Try.ntmps5
  go_wp2_with fail
  rw [← hwz]
  clear hwz
  refine (bitioPut_calls _ _ _ _ _ _ _ AA.out (by simp)).mono ?_
  rintro e w1 ⟨rfl, va, a2, fa, na⟩
  rw [A.out.l1, List.nil_append] at a2
  have b2 := BB.out.far fa (by simp) (by simp [Value.ownBlock]) (by simp [Value.ownBlock])
  have hva := Newer.nil na
  have AA2 := Aside0.mk a2
  have BB2 := Aside0.mk b2
  have HVA := Aside0.mk hva
  have FA := Aside0.mk fa
  clear a2 b2 hva fa na AA BB
  have p1 := A.out.p1
  have p2 := A.out.p2
  have p3 := A.out.p3
  go_wp2_with fail
  refine (bitioPut_calls _ _ _ _ _ _ _ BB2.out (by simp)).mono ?_
  rintro e w2 ⟨rfl, vb, b3, fb, nb⟩
  rw [A.out.l2, List.nil_append] at b3
  have a3 := AA2.out.far fb (by omega) (by simp [Value.ownBlock]) (fun b hb => ⟨by have := HVA.out b hb; have := HSZ.out; omega, by simp [Value.ownBlock]⟩)
  have hvb := Newer.nil nb
  have AA3 := Aside0.mk a3
  have BB3 := Aside0.mk b3
  have HVB := Aside0.mk hvb
  have FB := Aside0.mk fb
  have HLT := Aside0.mk (fun b hb => (AA2.out.row.lt b hb).2)
  clear a3 b3 hvb fb nb AA2 BB2
  go_wp2_with fail
  refine (bitioPut_calls _ _ _ _ _ _ _ BB3.out A.out.len).mono ?_
  rintro e w3 ⟨rfl, vb2, b4, fb2, nb2⟩
  rw [A.out.l3, A.out.two] at b4
  have a4 := AA3.out.far fb2 (by omega) (AA3.out.box.not_row (by decide) BB3.out.row) (fun b hb => ⟨by have := HVA.out b hb; have := HSZ.out; omega, fun e => by have := HVB.out b e.symm; have := HLT.out b hb; omega⟩)
  have b5 := Below.trans HBB.out (FA.out.below (B := w.heap.size) (by have := HSZ.out; omega) (Nat.le_refl _) (by simp [Value.ownBlock]))
  have s1 := FA.out.size
  have s2 := FB.out.size
  have b6 := Below.trans b5 (FB.out.below (B := w.heap.size) (by have := HSZ.out; omega) (by omega) (by simp [Value.ownBlock]))
  have b7 := Below.trans b6 (fb2.below (B := w.heap.size) (by have := HSZ.out; omega) (by omega) (fun b hb => by have := HVB.out b hb; have := HSZ.out; omega))
  have AA4 := Aside0.mk a4
  have BB4 := Aside0.mk b4
  have HB7 := Aside0.mk b7
  clear a4 b4 b7 b6 b5 s1 s2 AA3 BB3 fb2 nb2 HLT HVB FB HVA FA
  have BY := Aside0.mk (A.out.by_)
  clear A eH eL eS eP eQ eN wN zP zQ eD eR p1 p2 HSZ HBB
  go_wp2_with fail
  have hb := below_drew1 (Below.refl w3.heap.size w3)
  have n0 := Aside0.mk (AA4.out.below hb)
  have n1 := Aside0.mk (BB4.out.below hb)
  have n2 := Aside0.mk (below_step HB7.out hb)
  clear AA4 BB4 HB7 hb
  have AA4 := n0
  have BB4 := n1
  have HB7 := n2
  clear n0 n1 n2
  refine start_ (n := 30) (S := fun _ => True) (ds := []) #[false, false, false, false, false, false, false, false, false, false, false, false, false, false, false, false, false, false, false, false, false, false, false, false, false, false, false, false, false, false] (by kernel_rfl) rfl rfl trivial (fun _ => ?_)
  refine with_tab same7.tab (fun HT_ => ?_)
  refine one_ (i := 0) (N := some 54) #[true, false, false, false, false, false, false, false, false, false, false, false, false, false, false, false, false, false, false, false, false, false, false, false, false, false, false, false, false, false] rfl rfl (one_of HT_.out (by kernel_rfl)) (by decide) (fun K hK => ?_)
  refine goes_ Try.func14 (by kernel_rfl) rfl _ (by rfl) rfl rfl (by (try simp only [List.map_toArray, List.map_cons, List.map_nil]); first | done | rfl) ?_
  refine (puts_calls _).mono ?_; rintro e w4 ⟨rfl, hb⟩
  have n0 := Aside0.mk (AA4.out.below hb); have n1 := Aside0.mk (BB4.out.below hb); have n2 := Aside0.mk (below_step HB7.out hb); clear AA4 BB4 HB7; have AA4 := n0; have BB4 := n1; have HB7 := n2; clear n0 n1 n2; clear hb
  refine ⟨_, rfl, ?_⟩
  refine hK.out _ _ trivial (fun _ => ?_)
  clear hK K
  refine norm_ (a' := ?_) ?_ ?_
  rotate_left
  · show Act.put _ (some 54) _ = _
    simp only [Act.put, List.setIfInBounds_toArray, List.set_cons_zero, List.set_cons_succ, i64_w, i32_w]
    rfl
  refine pure_ (i := 1) (N := some 55) (v := ?_) (a' := ?_) #[true, true, false, false, false, false, false, false, false, false, false, false, false, false, false, false, false, false, false, false, false, false, false, false, false, false, false, false, false, false] rfl rfl (any_of HT_.out (by kernel_rfl)) (fun _ _ _ h => h) (Or.inl ⟨by rfl, ?_⟩) ?_ ?_
  rotate_left
  · intro w'
    go_simp
    with_reducible rfl
  rotate_left
  · simp only [Act.put, List.setIfInBounds_toArray, List.set_cons_zero, List.set_cons_succ, i64_w, i32_w]
    rfl
  refine pure_ (i := 2) (N := some 56) (v := ?_) (a' := ?_) #[true, true, true, false, false, false, false, false, false, false, false, false, false, false, false, false, false, false, false, false, false, false, false, false, false, false, false, false, false, false] rfl rfl (any_of HT_.out (by kernel_rfl)) (fun _ _ _ h => h) (Or.inl ⟨by rfl, ?_⟩) ?_ ?_
  rotate_left
  · intro w'
    go_simp
    with_reducible rfl
  rotate_left
  · simp only [Act.put, List.setIfInBounds_toArray, List.set_cons_zero, List.set_cons_succ, i64_w, i32_w]
    rfl
  refine pure_ (i := 3) (N := some 57) (v := ?_) (a' := ?_) #[true, true, true, true, false, false, false, false, false, false, false, false, false, false, false, false, false, false, false, false, false, false, false, false, false, false, false, false, false, false] rfl rfl (any_of HT_.out (by kernel_rfl)) (fun _ _ _ h => h) (Or.inl ⟨by rfl, ?_⟩) ?_ ?_
  rotate_left
  · intro w'
    go_simp
    with_reducible rfl
  rotate_left
  · simp only [Act.put, List.setIfInBounds_toArray, List.set_cons_zero, List.set_cons_succ, i64_w, i32_w]
    rfl
  refine pure_ (i := 4) (N := some 58) (v := ?_) (a' := ?_) #[true, true, true, true, true, false, false, false, false, false, false, false, false, false, false, false, false, false, false, false, false, false, false, false, false, false, false, false, false, false] rfl rfl (any_of HT_.out (by kernel_rfl)) (fun _ _ _ h => h) (Or.inl ⟨by rfl, ?_⟩) ?_ ?_
  rotate_left
  · intro w'
    go_simp
    with_reducible rfl
  rotate_left
  · simp only [Act.put, List.setIfInBounds_toArray, List.set_cons_zero, List.set_cons_succ, i64_w, i32_w]
    rfl
  refine pure_ (i := 5) (N := some 59) (v := ?_) (a' := ?_) #[true, true, true, true, true, true, false, false, false, false, false, false, false, false, false, false, false, false, false, false, false, false, false, false, false, false, false, false, false, false] rfl rfl (any_of HT_.out (by kernel_rfl)) (fun _ _ _ h => h) (Or.inl ⟨by rfl, ?_⟩) ?_ ?_
  rotate_left
  · intro w'
    go_simp
    with_reducible rfl
  rotate_left
  · simp only [Act.put, List.setIfInBounds_toArray, List.set_cons_zero, List.set_cons_succ, i64_w, i32_w]
    rfl
  refine pure_ (i := 6) (N := some 60) (v := ?_) (a' := ?_) #[true, true, true, true, true, true, true, false, false, false, false, false, false, false, false, false, false, false, false, false, false, false, false, false, false, false, false, false, false, false] rfl rfl (any_of HT_.out (by kernel_rfl)) (fun _ _ _ h => h) (Or.inl ⟨by rfl, ?_⟩) ?_ ?_
  rotate_left
  · intro w'
    go_simp
    with_reducible rfl
  rotate_left
  · simp only [Act.put, List.setIfInBounds_toArray, List.set_cons_zero, List.set_cons_succ, i64_w, i32_w]
    rfl
  refine pure_ (i := 7) (N := some 61) (v := ?_) (a' := ?_) #[true, true, true, true, true, true, true, true, false, false, false, false, false, false, false, false, false, false, false, false, false, false, false, false, false, false, false, false, false, false] rfl rfl (any_of HT_.out (by kernel_rfl)) (fun _ _ _ h => h) (Or.inl ⟨by rfl, ?_⟩) ?_ ?_
  rotate_left
  · intro w'
    go_simp
    with_reducible rfl
  rotate_left
  · simp only [Act.put, List.setIfInBounds_toArray, List.set_cons_zero, List.set_cons_succ, i64_w, i32_w]
    rfl
  refine pure_ (i := 8) (N := some 62) (v := ?_) (a' := ?_) #[true, true, true, true, true, true, true, true, true, false, false, false, false, false, false, false, false, false, false, false, false, false, false, false, false, false, false, false, false, false] rfl rfl (any_of HT_.out (by kernel_rfl)) (fun _ _ _ h => h) (Or.inl ⟨by rfl, ?_⟩) ?_ ?_
  rotate_left
  · intro w'
    go_simp
    with_reducible rfl
  rotate_left
  · simp only [Act.put, List.setIfInBounds_toArray, List.set_cons_zero, List.set_cons_succ, i64_w, i32_w]
    rfl
  refine pure_ (i := 9) (N := some 63) (v := ?_) (a' := ?_) #[true, true, true, true, true, true, true, true, true, true, false, false, false, false, false, false, false, false, false, false, false, false, false, false, false, false, false, false, false, false] rfl rfl (any_of HT_.out (by kernel_rfl)) (fun _ _ _ h => h) (Or.inl ⟨by rfl, ?_⟩) ?_ ?_
  rotate_left
  · intro w'
    go_simp
    with_reducible rfl
  rotate_left
  · simp only [Act.put, List.setIfInBounds_toArray, List.set_cons_zero, List.set_cons_succ, i64_w, i32_w]
    rfl
  refine pure_ (i := 10) (N := some 64) (v := ?_) (a' := ?_) #[true, true, true, true, true, true, true, true, true, true, true, false, false, false, false, false, false, false, false, false, false, false, false, false, false, false, false, false, false, false] rfl rfl (any_of HT_.out (by kernel_rfl)) (fun _ _ _ h => h) (Or.inl ⟨by rfl, ?_⟩) ?_ ?_
  rotate_left
  · intro w'
    go_simp
    with_reducible rfl
  rotate_left
  · simp only [Act.put, List.setIfInBounds_toArray, List.set_cons_zero, List.set_cons_succ, i64_w, i32_w]
    rfl
  refine pure_ (i := 11) (N := some 65) (v := ?_) (a' := ?_) #[true, true, true, true, true, true, true, true, true, true, true, true, false, false, false, false, false, false, false, false, false, false, false, false, false, false, false, false, false, false] rfl rfl (any_of HT_.out (by kernel_rfl)) (fun _ _ _ h => h) (Or.inl ⟨by rfl, ?_⟩) ?_ ?_
  rotate_left
  · intro w'
    go_simp
    with_reducible rfl
  rotate_left
  · simp only [Act.put, List.setIfInBounds_toArray, List.set_cons_zero, List.set_cons_succ, i64_w, i32_w]
    rfl
  refine pure_ (i := 12) (N := some 66) (v := ?_) (a' := ?_) #[true, true, true, true, true, true, true, true, true, true, true, true, true, false, false, false, false, false, false, false, false, false, false, false, false, false, false, false, false, false] rfl rfl (any_of HT_.out (by kernel_rfl)) (fun _ _ _ h => h) (Or.inl ⟨by rfl, ?_⟩) ?_ ?_
  rotate_left
  · intro w'
    go_simp
    with_reducible rfl
  rotate_left
  · simp only [Act.put, List.setIfInBounds_toArray, List.set_cons_zero, List.set_cons_succ, i64_w, i32_w]
    rfl
  refine pure_ (i := 13) (N := some 67) (v := ?_) (a' := ?_) #[true, true, true, true, true, true, true, true, true, true, true, true, true, true, false, false, false, false, false, false, false, false, false, false, false, false, false, false, false, false] rfl rfl (any_of HT_.out (by kernel_rfl)) (fun _ _ _ h => h) (Or.inl ⟨by rfl, ?_⟩) ?_ ?_
  rotate_left
  · intro w'
    go_simp
    with_reducible rfl
  rotate_left
  · simp only [Act.put, List.setIfInBounds_toArray, List.set_cons_zero, List.set_cons_succ, i64_w, i32_w]
    rfl
  refine pure_ (i := 14) (N := some 68) (v := ?_) (a' := ?_) #[true, true, true, true, true, true, true, true, true, true, true, true, true, true, true, false, false, false, false, false, false, false, false, false, false, false, false, false, false, false] rfl rfl (any_of HT_.out (by kernel_rfl)) (fun _ _ _ h => h) (Or.inl ⟨by rfl, ?_⟩) ?_ ?_
  rotate_left
  · intro w'
    go_simp
    with_reducible rfl
  rotate_left
  · simp only [Act.put, List.setIfInBounds_toArray, List.set_cons_zero, List.set_cons_succ, i64_w, i32_w]
    rfl
  refine pure_ (i := 17) (N := some 71) (v := ?_) (a' := ?_) #[true, true, true, true, true, true, true, true, true, true, true, true, true, true, true, false, false, true, false, false, false, false, false, false, false, false, false, false, false, false] rfl rfl (any_of HT_.out (by kernel_rfl)) (fun _ _ _ h => h) (Or.inl ⟨by rfl, ?_⟩) ?_ ?_
  rotate_left
  · intro w'
    go_simp
    with_reducible rfl
  rotate_left
  · simp only [Act.put, List.setIfInBounds_toArray, List.set_cons_zero, List.set_cons_succ, i64_w, i32_w]
    rfl
  refine one_ (i := 15) (N := some 69) #[true, true, true, true, true, true, true, true, true, true, true, true, true, true, true, true, false, true, false, false, false, false, false, false, false, false, false, false, false, false] rfl rfl (one_of HT_.out (by kernel_rfl)) (by decide) (fun K hK => ?_)
  refine goes_ Try.func15 (by kernel_rfl) rfl _ (by rfl) rfl rfl (by (try simp only [List.map_toArray, List.map_cons, List.map_nil]); first | done | rfl) ?_
  refine (bitioBytes_calls _ _ _ _ _ AA4.out 100 bs 0 BY.out).mono ?_; rintro e w5 ⟨ua, rfl, hu, hb⟩
  have n0 := Aside0.mk (AA4.out.below hb); have n1 := Aside0.mk (BB4.out.below hb); have n2 := Aside0.mk (below_step HB7.out hb); clear AA4 BB4 HB7; have AA4 := n0; have BB4 := n1; have HB7 := n2; clear n0 n1 n2; (try (have n3 := Aside0.mk (Kd.R_below HUB.out hb); clear HUB; have HUB := n3; clear n3)); have HUA := Aside0.mk hu; clear hu hb
  refine ⟨_, rfl, ?_⟩
  refine hK.out _ _ trivial (fun _ => ?_)
  clear hK K
  refine norm_ (a' := ?_) ?_ ?_
  rotate_left
  · show Act.put _ (some 69) _ = _
    simp only [Act.put, List.setIfInBounds_toArray, List.set_cons_zero, List.set_cons_succ, i64_w, i32_w]
    rfl
  refine two_ (i := 16) (j := 18) (Ni := some 70) (Nj := some 72) #[true, true, true, true, true, true, true, true, true, true, true, true, true, true, true, true, true, true, false, false, false, false, false, false, false, false, false, false, false, false] #[true, true, true, true, true, true, true, true, true, true, true, true, true, true, true, true, false, true, true, false, false, false, false, false, false, false, false, false, false, false] rfl rfl rfl rfl (two_of HT_.out (by kernel_rfl)) (by decide) (by decide) (fun K hK => ?_) (fun K hK => ?_)
  · skip
    have hcva := own_string (P := Try.prog) Try.underlying22 Try.underlying5 Try.underlying9 (Kd.own_of_R HUA.out)
    refine value_ (w1 := ?_) (v := ?_) (by rfl) rfl ?_ ?_
    rotate_left 2
    · go_simp
      constructor
      · rfl
      · rfl
    refine hK.out _ _ trivial (fun _ => ?_)
    clear hK K
    refine norm_ (a' := ?_) ?_ ?_
    rotate_left
    · show Act.put _ (some 70) _ = _
      simp only [Act.put, List.setIfInBounds_toArray, List.set_cons_zero, List.set_cons_succ, i64_w, i32_w]
      rfl
    refine one_ (i := 18) (N := some 72) #[true, true, true, true, true, true, true, true, true, true, true, true, true, true, true, true, true, true, true, false, false, false, false, false, false, false, false, false, false, false] rfl rfl (one_of HT_.out (by kernel_rfl)) (by decide) (fun K hK => ?_)
    refine goes_ Try.func15 (by kernel_rfl) rfl _ (by rfl) rfl rfl (by (try simp only [List.map_toArray, List.map_cons, List.map_nil]); first | done | rfl) ?_
    refine (bitioBytes_calls _ _ _ _ _ BB4.out 100 bs 0 BY.out).mono ?_; rintro e w6 ⟨ub, rfl, hu, hb⟩
    have n0 := Aside0.mk (AA4.out.below hb); have n1 := Aside0.mk (BB4.out.below hb); have n2 := Aside0.mk (below_step HB7.out hb); clear AA4 BB4 HB7; have AA4 := n0; have BB4 := n1; have HB7 := n2; clear n0 n1 n2; (try (have n3 := Aside0.mk (Kd.R_below HUA.out hb); clear HUA; have HUA := n3; clear n3)); have HUB := Aside0.mk hu; clear hu hb
    refine ⟨_, rfl, ?_⟩
    refine hK.out _ _ trivial (fun _ => ?_)
    clear hK K
    refine norm_ (a' := ?_) ?_ ?_
    rotate_left
    · show Act.put _ (some 72) _ = _
      simp only [Act.put, List.setIfInBounds_toArray, List.set_cons_zero, List.set_cons_succ, i64_w, i32_w]
      rfl
    refine one_ (i := 19) (N := some 73) #[true, true, true, true, true, true, true, true, true, true, true, true, true, true, true, true, true, true, true, true, false, false, false, false, false, false, false, false, false, false] rfl rfl (one_of HT_.out (by kernel_rfl)) (by decide) (fun K hK => ?_)
    have hcvb := own_string (P := Try.prog) Try.underlying22 Try.underlying5 Try.underlying9 (Kd.own_of_R HUB.out)
    refine value_ (w1 := ?_) (v := ?_) (by rfl) rfl ?_ ?_
    rotate_left 2
    · go_simp
      constructor
      · rfl
      · rfl
    refine hK.out _ _ trivial (fun _ => ?_)
    clear hK K
    refine norm_ (a' := ?_) ?_ ?_
    rotate_left
    · show Act.put _ (some 73) _ = _
      simp only [Act.put, List.setIfInBounds_toArray, List.set_cons_zero, List.set_cons_succ, i64_w, i32_w]
      rfl
    refine pure_ (i := 20) (N := some 74) (v := ?_) (a' := ?_) #[true, true, true, true, true, true, true, true, true, true, true, true, true, true, true, true, true, true, true, true, true, false, false, false, false, false, false, false, false, false] rfl rfl (any_of HT_.out (by kernel_rfl)) (fun _ _ _ h => h) (Or.inl ⟨by rfl, ?_⟩) ?_ ?_
    rotate_left
    · intro w'
      go_simp
      with_reducible rfl
    rotate_left
    · simp only [Act.put, List.setIfInBounds_toArray, List.set_cons_zero, List.set_cons_succ, i64_w, i32_w]
      rfl
    refine pure_ (i := 21) (N := some 75) (v := ?_) (a' := ?_) #[true, true, true, true, true, true, true, true, true, true, true, true, true, true, true, true, true, true, true, true, true, true, false, false, false, false, false, false, false, false] rfl rfl (any_of HT_.out (by kernel_rfl)) (fun _ _ _ h => h) (Or.inl ⟨by rfl, ?_⟩) ?_ ?_
    rotate_left
    · intro w'
      go_simp
      with_reducible rfl
    rotate_left
    · simp only [Act.put, List.setIfInBounds_toArray, List.set_cons_zero, List.set_cons_succ, i64_w, i32_w]
      rfl
    refine pure_ (i := 22) (N := some 76) (v := ?_) (a' := ?_) #[true, true, true, true, true, true, true, true, true, true, true, true, true, true, true, true, true, true, true, true, true, true, true, false, false, false, false, false, false, false] rfl rfl (any_of HT_.out (by kernel_rfl)) (fun _ _ _ h => h) (Or.inl ⟨by rfl, ?_⟩) ?_ ?_
    rotate_left
    · intro w'
      go_simp
      with_reducible rfl
    rotate_left
    · simp only [Act.put, List.setIfInBounds_toArray, List.set_cons_zero, List.set_cons_succ, i64_w, i32_w]
      rfl
    refine pure_ (i := 23) (N := some 77) (v := ?_) (a' := ?_) #[true, true, true, true, true, true, true, true, true, true, true, true, true, true, true, true, true, true, true, true, true, true, true, true, false, false, false, false, false, false] rfl rfl (any_of HT_.out (by kernel_rfl)) (fun _ _ _ h => h) (Or.inl ⟨by rfl, ?_⟩) ?_ ?_
    rotate_left
    · intro w'
      go_simp
      with_reducible rfl
    rotate_left
    · simp only [Act.put, List.setIfInBounds_toArray, List.set_cons_zero, List.set_cons_succ, i64_w, i32_w]
      rfl
    refine pure_ (i := 25) (N := some 79) (v := ?_) (a' := ?_) #[true, true, true, true, true, true, true, true, true, true, true, true, true, true, true, true, true, true, true, true, true, true, true, true, false, true, false, false, false, false] rfl rfl (any_of HT_.out (by kernel_rfl)) (fun _ _ _ h => h) (Or.inl ⟨by rfl, ?_⟩) ?_ ?_
    rotate_left
    · intro w'
      go_simp
      with_reducible rfl
    rotate_left
    · simp only [Act.put, List.setIfInBounds_toArray, List.set_cons_zero, List.set_cons_succ, i64_w, i32_w]
      rfl
    refine one_ (i := 24) (N := some 78) #[true, true, true, true, true, true, true, true, true, true, true, true, true, true, true, true, true, true, true, true, true, true, true, true, true, true, false, false, false, false] rfl rfl (one_of HT_.out (by kernel_rfl)) (by decide) (fun K hK => ?_)
    refine goes_ Try.func16 (by kernel_rfl) rfl _ (by rfl) rfl rfl (by (try simp only [List.map_toArray, List.map_cons, List.map_nil]); first | done | rfl) ?_
    refine (bitioLen_calls _ _ _ _ _ AA4.out).mono ?_; rintro e w7 ⟨rfl, hb⟩
    have n0 := Aside0.mk (AA4.out.below hb); have n1 := Aside0.mk (BB4.out.below hb); have n2 := Aside0.mk (below_step HB7.out hb); clear AA4 BB4 HB7; have AA4 := n0; have BB4 := n1; have HB7 := n2; clear n0 n1 n2; clear hb
    refine ⟨_, rfl, ?_⟩
    refine hK.out _ _ trivial (fun _ => ?_)
    clear hK K
    refine norm_ (a' := ?_) ?_ ?_
    rotate_left
    · show Act.put _ (some 78) _ = _
      simp only [Act.put, List.setIfInBounds_toArray, List.set_cons_zero, List.set_cons_succ, i64_w, i32_w]
      rfl
    refine one_ (i := 26) (N := some 80) #[true, true, true, true, true, true, true, true, true, true, true, true, true, true, true, true, true, true, true, true, true, true, true, true, true, true, true, false, false, false] rfl rfl (one_of HT_.out (by kernel_rfl)) (by decide) (fun K hK => ?_)
    refine goes_ Try.func16 (by kernel_rfl) rfl _ (by rfl) rfl rfl (by (try simp only [List.map_toArray, List.map_cons, List.map_nil]); first | done | rfl) ?_
    refine (bitioLen_calls _ _ _ _ _ BB4.out).mono ?_; rintro e w8 ⟨rfl, hb⟩
    have n0 := Aside0.mk (AA4.out.below hb); have n1 := Aside0.mk (BB4.out.below hb); have n2 := Aside0.mk (below_step HB7.out hb); clear AA4 BB4 HB7; have AA4 := n0; have BB4 := n1; have HB7 := n2; clear n0 n1 n2; clear hb
    refine ⟨_, rfl, ?_⟩
    refine hK.out _ _ trivial (fun _ => ?_)
    clear hK K
    refine norm_ (a' := ?_) ?_ ?_
    rotate_left
    · show Act.put _ (some 80) _ = _
      simp only [Act.put, List.setIfInBounds_toArray, List.set_cons_zero, List.set_cons_succ, i64_w, i32_w]
      rfl
    refine pure_ (i := 27) (N := some 81) (v := ?_) (a' := ?_) #[true, true, true, true, true, true, true, true, true, true, true, true, true, true, true, true, true, true, true, true, true, true, true, true, true, true, true, true, false, false] rfl rfl (any_of HT_.out (by kernel_rfl)) (fun _ _ _ h => h) (Or.inl ⟨by rfl, ?_⟩) ?_ ?_
    rotate_left
    · intro w'
      go_simp
      with_reducible rfl
    rotate_left
    · simp only [Act.put, List.setIfInBounds_toArray, List.set_cons_zero, List.set_cons_succ, i64_w, i32_w]
      rfl
    refine pure_ (i := 28) (N := some 82) (v := ?_) (a' := ?_) #[true, true, true, true, true, true, true, true, true, true, true, true, true, true, true, true, true, true, true, true, true, true, true, true, true, true, true, true, true, false] rfl rfl (any_of HT_.out (by kernel_rfl)) (fun _ _ _ h => h) (Or.inl ⟨by rfl, ?_⟩) ?_ ?_
    rotate_left
    · intro w'
      go_simp
      with_reducible rfl
    rotate_left
    · simp only [Act.put, List.setIfInBounds_toArray, List.set_cons_zero, List.set_cons_succ, i64_w, i32_w]
      rfl
    refine pure_ (i := 29) (N := some 6) (v := ?_) (a' := ?_) #[true, true, true, true, true, true, true, true, true, true, true, true, true, true, true, true, true, true, true, true, true, true, true, true, true, true, true, true, true, true] rfl rfl (any_of HT_.out (by kernel_rfl)) (fun _ _ _ h => h) (Or.inl ⟨by rfl, ?_⟩) ?_ ?_
    rotate_left
    · intro w'
      go_simp
      with_reducible rfl
    rotate_left
    · simp only [Act.put, List.setIfInBounds_toArray, List.set_cons_zero, List.set_cons_succ, i64_w, i32_w]
      rfl
    refine done_ (done_of HT_.out (by kernel_rfl)) ?_
    go_wp2
    go_ret
    exact ⟨by simp, HB7.out⟩
  · skip
    refine goes_ Try.func15 (by kernel_rfl) rfl _ (by rfl) rfl rfl (by (try simp only [List.map_toArray, List.map_cons, List.map_nil]); first | done | rfl) ?_
    refine (bitioBytes_calls _ _ _ _ _ BB4.out 100 bs 0 BY.out).mono ?_; rintro e w6 ⟨ub, rfl, hu, hb⟩
    have n0 := Aside0.mk (AA4.out.below hb); have n1 := Aside0.mk (BB4.out.below hb); have n2 := Aside0.mk (below_step HB7.out hb); clear AA4 BB4 HB7; have AA4 := n0; have BB4 := n1; have HB7 := n2; clear n0 n1 n2; (try (have n3 := Aside0.mk (Kd.R_below HUA.out hb); clear HUA; have HUA := n3; clear n3)); have HUB := Aside0.mk hu; clear hu hb
    refine ⟨_, rfl, ?_⟩
    refine hK.out _ _ trivial (fun _ => ?_)
    clear hK K
    refine norm_ (a' := ?_) ?_ ?_
    rotate_left
    · show Act.put _ (some 72) _ = _
      simp only [Act.put, List.setIfInBounds_toArray, List.set_cons_zero, List.set_cons_succ, i64_w, i32_w]
      rfl
    refine two_ (i := 16) (j := 19) (Ni := some 70) (Nj := some 73) #[true, true, true, true, true, true, true, true, true, true, true, true, true, true, true, true, true, true, true, false, false, false, false, false, false, false, false, false, false, false] #[true, true, true, true, true, true, true, true, true, true, true, true, true, true, true, true, false, true, true, true, false, false, false, false, false, false, false, false, false, false] rfl rfl rfl rfl (two_of HT_.out (by kernel_rfl)) (by decide) (by decide) (fun K hK => ?_) (fun K hK => ?_)
    · skip
      have hcva := own_string (P := Try.prog) Try.underlying22 Try.underlying5 Try.underlying9 (Kd.own_of_R HUA.out)
      refine value_ (w1 := ?_) (v := ?_) (by rfl) rfl ?_ ?_
      rotate_left 2
      · go_simp
        constructor
        · rfl
        · rfl
      refine hK.out _ _ trivial (fun _ => ?_)
      clear hK K
      refine norm_ (a' := ?_) ?_ ?_
      rotate_left
      · show Act.put _ (some 70) _ = _
        simp only [Act.put, List.setIfInBounds_toArray, List.set_cons_zero, List.set_cons_succ, i64_w, i32_w]
        rfl
      refine one_ (i := 19) (N := some 73) #[true, true, true, true, true, true, true, true, true, true, true, true, true, true, true, true, true, true, true, true, false, false, false, false, false, false, false, false, false, false] rfl rfl (one_of HT_.out (by kernel_rfl)) (by decide) (fun K hK => ?_)
      have hcvb := own_string (P := Try.prog) Try.underlying22 Try.underlying5 Try.underlying9 (Kd.own_of_R HUB.out)
      refine value_ (w1 := ?_) (v := ?_) (by rfl) rfl ?_ ?_
      rotate_left 2
      · go_simp
        constructor
        · rfl
        · rfl
      refine hK.out _ _ trivial (fun _ => ?_)
      clear hK K
      refine norm_ (a' := ?_) ?_ ?_
      rotate_left
      · show Act.put _ (some 73) _ = _
        simp only [Act.put, List.setIfInBounds_toArray, List.set_cons_zero, List.set_cons_succ, i64_w, i32_w]
        rfl
      refine pure_ (i := 20) (N := some 74) (v := ?_) (a' := ?_) #[true, true, true, true, true, true, true, true, true, true, true, true, true, true, true, true, true, true, true, true, true, false, false, false, false, false, false, false, false, false] rfl rfl (any_of HT_.out (by kernel_rfl)) (fun _ _ _ h => h) (Or.inl ⟨by rfl, ?_⟩) ?_ ?_
      rotate_left
      · intro w'
        go_simp
        with_reducible rfl
      rotate_left
      · simp only [Act.put, List.setIfInBounds_toArray, List.set_cons_zero, List.set_cons_succ, i64_w, i32_w]
        rfl
      refine pure_ (i := 21) (N := some 75) (v := ?_) (a' := ?_) #[true, true, true, true, true, true, true, true, true, true, true, true, true, true, true, true, true, true, true, true, true, true, false, false, false, false, false, false, false, false] rfl rfl (any_of HT_.out (by kernel_rfl)) (fun _ _ _ h => h) (Or.inl ⟨by rfl, ?_⟩) ?_ ?_
      rotate_left
      · intro w'
        go_simp
        with_reducible rfl
      rotate_left
      · simp only [Act.put, List.setIfInBounds_toArray, List.set_cons_zero, List.set_cons_succ, i64_w, i32_w]
        rfl
      refine pure_ (i := 22) (N := some 76) (v := ?_) (a' := ?_) #[true, true, true, true, true, true, true, true, true, true, true, true, true, true, true, true, true, true, true, true, true, true, true, false, false, false, false, false, false, false] rfl rfl (any_of HT_.out (by kernel_rfl)) (fun _ _ _ h => h) (Or.inl ⟨by rfl, ?_⟩) ?_ ?_
      rotate_left
      · intro w'
        go_simp
        with_reducible rfl
      rotate_left
      · simp only [Act.put, List.setIfInBounds_toArray, List.set_cons_zero, List.set_cons_succ, i64_w, i32_w]
        rfl
      refine pure_ (i := 23) (N := some 77) (v := ?_) (a' := ?_) #[true, true, true, true, true, true, true, true, true, true, true, true, true, true, true, true, true, true, true, true, true, true, true, true, false, false, false, false, false, false] rfl rfl (any_of HT_.out (by kernel_rfl)) (fun _ _ _ h => h) (Or.inl ⟨by rfl, ?_⟩) ?_ ?_
      rotate_left
      · intro w'
        go_simp
        with_reducible rfl
      rotate_left
      · simp only [Act.put, List.setIfInBounds_toArray, List.set_cons_zero, List.set_cons_succ, i64_w, i32_w]
        rfl
      refine pure_ (i := 25) (N := some 79) (v := ?_) (a' := ?_) #[true, true, true, true, true, true, true, true, true, true, true, true, true, true, true, true, true, true, true, true, true, true, true, true, false, true, false, false, false, false] rfl rfl (any_of HT_.out (by kernel_rfl)) (fun _ _ _ h => h) (Or.inl ⟨by rfl, ?_⟩) ?_ ?_
      rotate_left
      · intro w'
        go_simp
        with_reducible rfl
      rotate_left
      · simp only [Act.put, List.setIfInBounds_toArray, List.set_cons_zero, List.set_cons_succ, i64_w, i32_w]
        rfl
      refine one_ (i := 24) (N := some 78) #[true, true, true, true, true, true, true, true, true, true, true, true, true, true, true, true, true, true, true, true, true, true, true, true, true, true, false, false, false, false] rfl rfl (one_of HT_.out (by kernel_rfl)) (by decide) (fun K hK => ?_)
      refine goes_ Try.func16 (by kernel_rfl) rfl _ (by rfl) rfl rfl (by (try simp only [List.map_toArray, List.map_cons, List.map_nil]); first | done | rfl) ?_
      refine (bitioLen_calls _ _ _ _ _ AA4.out).mono ?_; rintro e w7 ⟨rfl, hb⟩
      have n0 := Aside0.mk (AA4.out.below hb); have n1 := Aside0.mk (BB4.out.below hb); have n2 := Aside0.mk (below_step HB7.out hb); clear AA4 BB4 HB7; have AA4 := n0; have BB4 := n1; have HB7 := n2; clear n0 n1 n2; clear hb
      refine ⟨_, rfl, ?_⟩
      refine hK.out _ _ trivial (fun _ => ?_)
      clear hK K
      refine norm_ (a' := ?_) ?_ ?_
      rotate_left
      · show Act.put _ (some 78) _ = _
        simp only [Act.put, List.setIfInBounds_toArray, List.set_cons_zero, List.set_cons_succ, i64_w, i32_w]
        rfl
      refine one_ (i := 26) (N := some 80) #[true, true, true, true, true, true, true, true, true, true, true, true, true, true, true, true, true, true, true, true, true, true, true, true, true, true, true, false, false, false] rfl rfl (one_of HT_.out (by kernel_rfl)) (by decide) (fun K hK => ?_)
      refine goes_ Try.func16 (by kernel_rfl) rfl _ (by rfl) rfl rfl (by (try simp only [List.map_toArray, List.map_cons, List.map_nil]); first | done | rfl) ?_
      refine (bitioLen_calls _ _ _ _ _ BB4.out).mono ?_; rintro e w8 ⟨rfl, hb⟩
      have n0 := Aside0.mk (AA4.out.below hb); have n1 := Aside0.mk (BB4.out.below hb); have n2 := Aside0.mk (below_step HB7.out hb); clear AA4 BB4 HB7; have AA4 := n0; have BB4 := n1; have HB7 := n2; clear n0 n1 n2; clear hb
      refine ⟨_, rfl, ?_⟩
      refine hK.out _ _ trivial (fun _ => ?_)
      clear hK K
      refine norm_ (a' := ?_) ?_ ?_
      rotate_left
      · show Act.put _ (some 80) _ = _
        simp only [Act.put, List.setIfInBounds_toArray, List.set_cons_zero, List.set_cons_succ, i64_w, i32_w]
        rfl
      refine pure_ (i := 27) (N := some 81) (v := ?_) (a' := ?_) #[true, true, true, true, true, true, true, true, true, true, true, true, true, true, true, true, true, true, true, true, true, true, true, true, true, true, true, true, false, false] rfl rfl (any_of HT_.out (by kernel_rfl)) (fun _ _ _ h => h) (Or.inl ⟨by rfl, ?_⟩) ?_ ?_
      rotate_left
      · intro w'
        go_simp
        with_reducible rfl
      rotate_left
      · simp only [Act.put, List.setIfInBounds_toArray, List.set_cons_zero, List.set_cons_succ, i64_w, i32_w]
        rfl
      refine pure_ (i := 28) (N := some 82) (v := ?_) (a' := ?_) #[true, true, true, true, true, true, true, true, true, true, true, true, true, true, true, true, true, true, true, true, true, true, true, true, true, true, true, true, true, false] rfl rfl (any_of HT_.out (by kernel_rfl)) (fun _ _ _ h => h) (Or.inl ⟨by rfl, ?_⟩) ?_ ?_
      rotate_left
      · intro w'
        go_simp
        with_reducible rfl
      rotate_left
      · simp only [Act.put, List.setIfInBounds_toArray, List.set_cons_zero, List.set_cons_succ, i64_w, i32_w]
        rfl
      refine pure_ (i := 29) (N := some 6) (v := ?_) (a' := ?_) #[true, true, true, true, true, true, true, true, true, true, true, true, true, true, true, true, true, true, true, true, true, true, true, true, true, true, true, true, true, true] rfl rfl (any_of HT_.out (by kernel_rfl)) (fun _ _ _ h => h) (Or.inl ⟨by rfl, ?_⟩) ?_ ?_
      rotate_left
      · intro w'
        go_simp
        with_reducible rfl
      rotate_left
      · simp only [Act.put, List.setIfInBounds_toArray, List.set_cons_zero, List.set_cons_succ, i64_w, i32_w]
        rfl
      refine done_ (done_of HT_.out (by kernel_rfl)) ?_
      go_wp2
      go_ret
      exact ⟨by simp, HB7.out⟩
    · skip
      have hcvb := own_string (P := Try.prog) Try.underlying22 Try.underlying5 Try.underlying9 (Kd.own_of_R HUB.out)
      refine value_ (w1 := ?_) (v := ?_) (by rfl) rfl ?_ ?_
      rotate_left 2
      · go_simp
        constructor
        · rfl
        · rfl
      refine hK.out _ _ trivial (fun _ => ?_)
      clear hK K
      refine norm_ (a' := ?_) ?_ ?_
      rotate_left
      · show Act.put _ (some 73) _ = _
        simp only [Act.put, List.setIfInBounds_toArray, List.set_cons_zero, List.set_cons_succ, i64_w, i32_w]
        rfl
      refine one_ (i := 16) (N := some 70) #[true, true, true, true, true, true, true, true, true, true, true, true, true, true, true, true, true, true, true, true, false, false, false, false, false, false, false, false, false, false] rfl rfl (one_of HT_.out (by kernel_rfl)) (by decide) (fun K hK => ?_)
      have hcva := own_string (P := Try.prog) Try.underlying22 Try.underlying5 Try.underlying9 (Kd.own_of_R HUA.out)
      refine value_ (w1 := ?_) (v := ?_) (by rfl) rfl ?_ ?_
      rotate_left 2
      · go_simp
        constructor
        · rfl
        · rfl
      refine hK.out _ _ trivial (fun _ => ?_)
      clear hK K
      refine norm_ (a' := ?_) ?_ ?_
      rotate_left
      · show Act.put _ (some 70) _ = _
        simp only [Act.put, List.setIfInBounds_toArray, List.set_cons_zero, List.set_cons_succ, i64_w, i32_w]
        rfl
      refine pure_ (i := 20) (N := some 74) (v := ?_) (a' := ?_) #[true, true, true, true, true, true, true, true, true, true, true, true, true, true, true, true, true, true, true, true, true, false, false, false, false, false, false, false, false, false] rfl rfl (any_of HT_.out (by kernel_rfl)) (fun _ _ _ h => h) (Or.inl ⟨by rfl, ?_⟩) ?_ ?_
      rotate_left
      · intro w'
        go_simp
        with_reducible rfl
      rotate_left
      · simp only [Act.put, List.setIfInBounds_toArray, List.set_cons_zero, List.set_cons_succ, i64_w, i32_w]
        rfl
      refine pure_ (i := 21) (N := some 75) (v := ?_) (a' := ?_) #[true, true, true, true, true, true, true, true, true, true, true, true, true, true, true, true, true, true, true, true, true, true, false, false, false, false, false, false, false, false] rfl rfl (any_of HT_.out (by kernel_rfl)) (fun _ _ _ h => h) (Or.inl ⟨by rfl, ?_⟩) ?_ ?_
      rotate_left
      · intro w'
        go_simp
        with_reducible rfl
      rotate_left
      · simp only [Act.put, List.setIfInBounds_toArray, List.set_cons_zero, List.set_cons_succ, i64_w, i32_w]
        rfl
      refine pure_ (i := 22) (N := some 76) (v := ?_) (a' := ?_) #[true, true, true, true, true, true, true, true, true, true, true, true, true, true, true, true, true, true, true, true, true, true, true, false, false, false, false, false, false, false] rfl rfl (any_of HT_.out (by kernel_rfl)) (fun _ _ _ h => h) (Or.inl ⟨by rfl, ?_⟩) ?_ ?_
      rotate_left
      · intro w'
        go_simp
        with_reducible rfl
      rotate_left
      · simp only [Act.put, List.setIfInBounds_toArray, List.set_cons_zero, List.set_cons_succ, i64_w, i32_w]
        rfl
      refine pure_ (i := 23) (N := some 77) (v := ?_) (a' := ?_) #[true, true, true, true, true, true, true, true, true, true, true, true, true, true, true, true, true, true, true, true, true, true, true, true, false, false, false, false, false, false] rfl rfl (any_of HT_.out (by kernel_rfl)) (fun _ _ _ h => h) (Or.inl ⟨by rfl, ?_⟩) ?_ ?_
      rotate_left
      · intro w'
        go_simp
        with_reducible rfl
      rotate_left
      · simp only [Act.put, List.setIfInBounds_toArray, List.set_cons_zero, List.set_cons_succ, i64_w, i32_w]
        rfl
      refine pure_ (i := 25) (N := some 79) (v := ?_) (a' := ?_) #[true, true, true, true, true, true, true, true, true, true, true, true, true, true, true, true, true, true, true, true, true, true, true, true, false, true, false, false, false, false] rfl rfl (any_of HT_.out (by kernel_rfl)) (fun _ _ _ h => h) (Or.inl ⟨by rfl, ?_⟩) ?_ ?_
      rotate_left
      · intro w'
        go_simp
        with_reducible rfl
      rotate_left
      · simp only [Act.put, List.setIfInBounds_toArray, List.set_cons_zero, List.set_cons_succ, i64_w, i32_w]
        rfl
      refine one_ (i := 24) (N := some 78) #[true, true, true, true, true, true, true, true, true, true, true, true, true, true, true, true, true, true, true, true, true, true, true, true, true, true, false, false, false, false] rfl rfl (one_of HT_.out (by kernel_rfl)) (by decide) (fun K hK => ?_)
      refine goes_ Try.func16 (by kernel_rfl) rfl _ (by rfl) rfl rfl (by (try simp only [List.map_toArray, List.map_cons, List.map_nil]); first | done | rfl) ?_
      refine (bitioLen_calls _ _ _ _ _ AA4.out).mono ?_; rintro e w7 ⟨rfl, hb⟩
      have n0 := Aside0.mk (AA4.out.below hb); have n1 := Aside0.mk (BB4.out.below hb); have n2 := Aside0.mk (below_step HB7.out hb); clear AA4 BB4 HB7; have AA4 := n0; have BB4 := n1; have HB7 := n2; clear n0 n1 n2; clear hb
      refine ⟨_, rfl, ?_⟩
      refine hK.out _ _ trivial (fun _ => ?_)
      clear hK K
      refine norm_ (a' := ?_) ?_ ?_
      rotate_left
      · show Act.put _ (some 78) _ = _
        simp only [Act.put, List.setIfInBounds_toArray, List.set_cons_zero, List.set_cons_succ, i64_w, i32_w]
        rfl
      refine one_ (i := 26) (N := some 80) #[true, true, true, true, true, true, true, true, true, true, true, true, true, true, true, true, true, true, true, true, true, true, true, true, true, true, true, false, false, false] rfl rfl (one_of HT_.out (by kernel_rfl)) (by decide) (fun K hK => ?_)
      refine goes_ Try.func16 (by kernel_rfl) rfl _ (by rfl) rfl rfl (by (try simp only [List.map_toArray, List.map_cons, List.map_nil]); first | done | rfl) ?_
      refine (bitioLen_calls _ _ _ _ _ BB4.out).mono ?_; rintro e w8 ⟨rfl, hb⟩
      have n0 := Aside0.mk (AA4.out.below hb); have n1 := Aside0.mk (BB4.out.below hb); have n2 := Aside0.mk (below_step HB7.out hb); clear AA4 BB4 HB7; have AA4 := n0; have BB4 := n1; have HB7 := n2; clear n0 n1 n2; clear hb
      refine ⟨_, rfl, ?_⟩
      refine hK.out _ _ trivial (fun _ => ?_)
      clear hK K
      refine norm_ (a' := ?_) ?_ ?_
      rotate_left
      · show Act.put _ (some 80) _ = _
        simp only [Act.put, List.setIfInBounds_toArray, List.set_cons_zero, List.set_cons_succ, i64_w, i32_w]
        rfl
      refine pure_ (i := 27) (N := some 81) (v := ?_) (a' := ?_) #[true, true, true, true, true, true, true, true, true, true, true, true, true, true, true, true, true, true, true, true, true, true, true, true, true, true, true, true, false, false] rfl rfl (any_of HT_.out (by kernel_rfl)) (fun _ _ _ h => h) (Or.inl ⟨by rfl, ?_⟩) ?_ ?_
      rotate_left
      · intro w'
        go_simp
        with_reducible rfl
      rotate_left
      · simp only [Act.put, List.setIfInBounds_toArray, List.set_cons_zero, List.set_cons_succ, i64_w, i32_w]
        rfl
      refine pure_ (i := 28) (N := some 82) (v := ?_) (a' := ?_) #[true, true, true, true, true, true, true, true, true, true, true, true, true, true, true, true, true, true, true, true, true, true, true, true, true, true, true, true, true, false] rfl rfl (any_of HT_.out (by kernel_rfl)) (fun _ _ _ h => h) (Or.inl ⟨by rfl, ?_⟩) ?_ ?_
      rotate_left
      · intro w'
        go_simp
        with_reducible rfl
      rotate_left
      · simp only [Act.put, List.setIfInBounds_toArray, List.set_cons_zero, List.set_cons_succ, i64_w, i32_w]
        rfl
      refine pure_ (i := 29) (N := some 6) (v := ?_) (a' := ?_) #[true, true, true, true, true, true, true, true, true, true, true, true, true, true, true, true, true, true, true, true, true, true, true, true, true, true, true, true, true, true] rfl rfl (any_of HT_.out (by kernel_rfl)) (fun _ _ _ h => h) (Or.inl ⟨by rfl, ?_⟩) ?_ ?_
      rotate_left
      · intro w'
        go_simp
        with_reducible rfl
      rotate_left
      · simp only [Act.put, List.setIfInBounds_toArray, List.set_cons_zero, List.set_cons_succ, i64_w, i32_w]
        rfl
      refine done_ (done_of HT_.out (by kernel_rfl)) ?_
      go_wp2
      go_ret
      exact ⟨by simp, HB7.out⟩
end Go.Proofs.Ytmajbcglpcagoaa.B
