/- Texts of this seat, one behind the other (merge.py): the walks of the functions that the law ShuttleMends uses, and plain words on what they come to. No condition. -/
import Derived.Carry
import Derived.Test.YteileaajmnbmpaaDoorWTab
import Derived.Test.YteileaajmnbmpaaDoorXMShuttleMends3
-- YteileaajmnbmpaaDoorPDHeap1
namespace Go.Proofs.YteileaajmnbmpaaDoor.P
open Go Go.Proofs Go.RowKit Go.Proofs.YteileaajmnbmpaaDoorW.PrintWords Go.Proofs.YteileaajmnbmpaaDoorW.PrintLast Go.Proofs.YteileaajmnbmpaaDoorW.PrintMore
set_option linter.unusedVariables false
set_option linter.unusedSimpArgs false

variable {w : World} {n₀ g : Nat} {q0 q1 q2 q3 : Int} {M v : Value} {L : List Wy}
theorem ta88 (a : Value) (w : World) : (Instr.typeAssert (.iface 87 a) 20 87 true).run Tryd.prog w = .ok (.tuple #[a, .bool true]) w := by kernel_rfl
theorem putNone (a : Act) (v : Value) : a.put none v = a := rfl
def push2.T : Bool × List (List Nat × List Nat) := (true, [([], []), ([], []), ([1], [1]), ([2], [2]), ([], []), ([4], [4]), ([3, 5], [3, 5]), ([0, 0, 1, 2, 3, 4, 5, 6], [0]), ([7, 6, 6, 0, 1, 2, 3, 4, 5, 6], [6, 7])])
def push2.B : List Nat := [0, 0, 2, 6, 0, 16, 62, 127, 255]
theorem push2.tab : rtab .any (opsOf Tryd.f81 2) = push2.T := by kernel_rfl
theorem push2.bits : waitsOk push2.T.2 push2.B = true := by kernel_rfl
def pop1.T : Bool × List (List Nat × List Nat) := (true, [([], []), ([0], [0]), ([1], [1]), ([], []), ([3], [3]), ([4], [4]), ([5], [5]), ([6], [6]), ([2, 7], [2, 7]), ([8], [8]), ([], []), ([10, 9, 0, 1, 2, 3, 4, 5, 6, 7, 8, 9, 10], [9, 10])])
def pop1.B : List Nat := [0, 1, 3, 0, 8, 24, 56, 120, 255, 511, 0, 2047]
theorem pop1.tab : rtab .any (opsOf Tryd.f80 1) = pop1.T := by kernel_rfl
theorem pop1.bits : waitsOk pop1.T.2 pop1.B = true := by kernel_rfl
def pop2.T : Bool × List (List Nat × List Nat) := (true, [([], []), ([], []), ([1], [1]), ([2], [2]), ([], []), ([4], [4]), ([5], [5]), ([6], [6]), ([7], [7]), ([3, 8], [3, 8]), ([0, 0, 1, 2, 3, 4, 5, 6, 7, 8, 9], [0]), ([10, 9, 0, 1, 2, 3, 4, 5, 6, 7, 8, 9], [9, 10])])
def pop2.B : List Nat := [0, 0, 2, 6, 0, 16, 48, 112, 240, 510, 1023, 2047]
theorem pop2.tab : rtab .any (opsOf Tryd.f80 2) = pop2.T := by kernel_rfl
theorem pop2.bits : waitsOk pop2.T.2 pop2.B = true := by kernel_rfl
set_option maxRecDepth 100000 in
set_option maxHeartbeats 4000000 in
theorem push_calls (h : HS w n₀ g q0 q1 q2 q3 M v L) (x0 x1 x2 : Int) (hl : L.length ≤ 2000) :
    Calls Tryd.prog 81 #[.pointer (some ⟨g, 4, none⟩), .iface 87 (.agg #[.int .i64 x0, .int .i64 x1, .int .i64 x2])] w fun e w' =>
      e = .returned (.tuple #[]) ∧ ∃ v', HS w' n₀ g q0 q1 q2 q3 M v' (L ++ [(x0, x1, x2)]) ∧ Fr g v w w' ∧ Newer w v v' := by
  obtain ⟨Af, cf, e⟩ := h.slice
  subst e
  have hta := ta88
  have HH := Aside0.mk h
  have HLT := Aside0.mk hl
  have hc4 : w.cell? ⟨g, 4, none⟩ = some (.slice Af L.length cf) := blk_cell h.blk 4
  obtain ⟨nL, hnL⟩ : ∃ nL, nL = L.length := ⟨_, rfl⟩
  rw [← hnL] at hc4
  have HNL := Aside0.mk hnL
  have HC4 := Aside0.mk hc4
  have HGL := Aside0.mk h.lt
  clear h hl hnL hc4
  go_enter Tryd.func81, Tryd.ntmps81
  go_wp2_with fail
  have hba := below_alloc (Below.refl w.heap.size w) (.cells #[.int .i64 x0, .int .i64 x1, .int .i64 x2] 87)
  have hbb := blk_new w (.cells #[.int .i64 x0, .int .i64 x1, .int .i64 x2] 87)
  obtain ⟨w1, hw1⟩ : ∃ w1, w1 = w.alloc (.cells #[.int .i64 x0, .int .i64 x1, .int .i64 x2] 87) := ⟨_, rfl⟩
  obtain ⟨Y, hY⟩ : ∃ Y, Y = w.heap.size := ⟨_, rfl⟩
  rw [← hw1] at hba hbb
  rw [← hY] at hbb
  rw [← hw1, ← hY]
  have hYe := hY
  have hbd : Below w.heap.size w w1.drew := hba.trans (⟨rfl, rfl, rfl, Nat.le_refl _, fun _ _ => rfl⟩ : Below w.heap.size w1 w1.drew)
  have HC := Aside0.mk (HH.out.below hbd)
  have HF := Aside0.mk hbd
  have hbd2 : w1.drew.heap[Y]? = some (.cells #[.int .i64 x0, .int .i64 x1, .int .i64 x2] 87 (0, 0)) := hbb
  have HS := Aside0.mk (show w1.drew.cell? ⟨g, 4, none⟩ = some (.slice Af nL cf) ∧ w1.drew.cell? ⟨Y, 0, none⟩ = some (.int .i64 x0) ∧ w1.drew.cell? ⟨Y, 1, none⟩ = some (.int .i64 x1) ∧ w1.drew.cell? ⟨Y, 2, none⟩ = some (.int .i64 x2) from
    ⟨by rw [HNL.out]; exact blk_cell HC.out.blk 4, blk_cell hbd2 0, blk_cell hbd2 1, blk_cell hbd2 2⟩)
  have HY := Aside0.mk hbd2
  have HYN := Aside0.mk (show some Y ≠ (Value.slice Af L.length cf).ownBlock from fun e => by have := (HH.out.own Y e.symm).2; omega)
  clear hba hbb hw1 hY hYe hbd hbd2 HH
  refine start_ (n := 9) (S := (fun w' => w'.cell? ⟨g, 4, none⟩ = some (.slice Af nL cf) ∧ w'.cell? ⟨Y, 0, none⟩ = some (.int .i64 x0) ∧ w'.cell? ⟨Y, 1, none⟩ = some (.int .i64 x1) ∧ w'.cell? ⟨Y, 2, none⟩ = some (.int .i64 x2))) (ds := [8]) #[false, false, false, false, false, false, false, false, false] (by kernel_rfl) rfl rfl HS.out (fun hHeld => ?_)
  refine with_tabW push2.tab push2.bits (fun HT_ HW_ => ?_)
  refine pure_ (i := 0) (N := some 12) (v := ?_) (a' := ?_) #[true, false, false, false, false, false, false, false, false] rfl rfl (any_of HT_.out (by kernel_rfl)) (fun _ _ _ h => h) (Or.inl ⟨by rfl, ?_⟩) ?_ ?_
  rotate_left
  · intro w'
    go_simp
    with_reducible rfl
  rotate_left
  · simp only [Act.put, List.setIfInBounds_toArray, List.set_cons_zero, List.set_cons_succ, i64_w, i32_w]
    rfl
  refine pure_ (i := 1) (N := some 13) (v := ?_) (a' := ?_) #[true, true, false, false, false, false, false, false, false] rfl rfl (any_of HT_.out (by kernel_rfl)) (fun _ _ _ h => h) (Or.inl ⟨by rfl, ?_⟩) ?_ ?_
  rotate_left
  · intro w'
    go_simp
    with_reducible rfl
  rotate_left
  · simp only [Act.put, List.setIfInBounds_toArray, List.set_cons_zero, List.set_cons_succ, i64_w, i32_w]
    rfl
  refine pure_ (i := 2) (N := some 14) (v := ?_) (a' := ?_) #[true, true, true, false, false, false, false, false, false] rfl rfl (any_of HT_.out (by kernel_rfl)) (fun _ _ _ h => h) (Or.inl ⟨by rfl, ?_⟩) ?_ ?_
  rotate_left
  · intro w'
    go_simp
    with_reducible rfl
  rotate_left
  · simp only [Act.put, List.setIfInBounds_toArray, List.set_cons_zero, List.set_cons_succ, i64_w, i32_w]
    rfl
  refine take_ (i := 3) (N := some 15) (v := ?_) (a' := ?_) #[true, true, true, true, false, false, false, false, false] rfl rfl (take_ofW HT_.out HW_.out (by kernel_rfl)) (fun _ _ _ h => h) (Or.inl ⟨by rfl, ?_⟩) hHeld ?_ ?_
  rotate_left
  · rintro w' ⟨s0, s1, s2, s3⟩
    go_simp
    with_reducible rfl
  rotate_left
  · simp only [Act.put, List.setIfInBounds_toArray, List.set_cons_zero, List.set_cons_succ, i64_w, i32_w]
    rfl
  refine take_ (i := 4) (N := some 16) (v := ?_) (a' := ?_) #[true, true, true, true, true, false, false, false, false] rfl rfl (take_ofW HT_.out HW_.out (by kernel_rfl)) (fun _ _ _ h => h) (Or.inl ⟨by rfl, ?_⟩) hHeld ?_ ?_
  rotate_left
  · rintro w' ⟨s0, s1, s2, s3⟩
    go_simp
    with_reducible rfl
  rotate_left
  · simp only [Act.put, List.setIfInBounds_toArray, List.set_cons_zero, List.set_cons_succ, i64_w, i32_w]
    rfl
  refine one_ (i := 5) (N := some 17) #[true, true, true, true, true, true, false, false, false] rfl rfl (one_of HT_.out (by kernel_rfl)) (by decide) (fun K hK => ?_)
  skip
  refine value_ (w1 := ?_) (v := ?_) (by rfl) rfl ?_ ?_
  rotate_left 2
  · go_simp
    constructor
    · rfl
    · rfl
  refine hK.out _ _ ⟨(blk_cell (blk_alloc HC.out.blk _) 4).trans (by rw [HNL.out]; rfl), blk_cell (blk_alloc HY.out _) 0, blk_cell (blk_alloc HY.out _) 1, blk_cell (blk_alloc HY.out _) 2⟩ (fun hHeld => ?_)
  clear hK K
  refine norm_ (a' := ?_) ?_ ?_
  rotate_left
  · show Act.put _ (some 17) _ = _
    simp only [Act.put, List.setIfInBounds_toArray, List.set_cons_zero, List.set_cons_succ, i64_w, i32_w]
    rfl
  refine one_ (i := 6) (N := some 18) #[true, true, true, true, true, true, true, false, false] rfl rfl (one_of HT_.out (by kernel_rfl)) (by decide) (fun K hK => ?_)
  refine Kd.R_append_step kW (w0 := w1.drew) n₀ (by rfl) (.tmp 15) (.tmp 17) 63 87 (.agg #[.int .i64 0, .int .i64 0, .int .i64 0]) 24 rfl Tryd.underlying63 wy_info rfl (by decide) (by omega) (.slice Af L.length cf) L (x0, x1, x2) (wyC (x0, x1, x2)) (fun _ => True) (fun _ => False) (by first | rfl | (go_simp; done) | (rw [← HNL.out]; first | rfl | (go_simp; done))) (by first | rfl | (go_simp; done) | (go_simp; rfl)) (kW_M _ _ _ _) (fun k hk => hk.elim) (fun _ _ => trivial) HC.out.row (Below.refl _ _) (by have := HC.out.low; have := HC.out.lt; omega) (by have := HLT.out; omega) ?_
  intro v29 w3 ho hb3 hg3 hat3
  obtain ⟨A29, c29, e29⟩ := Kd.R_slice ho
  obtain ⟨n29, hn29⟩ : ∃ n29, n29 = (L ++ [(x0, x1, x2)]).length := ⟨_, rfl⟩
  rw [← hn29] at e29
  subst e29
  have HA := Aside0.mk (HC.out.rowed ho hg3 (by rcases hat3 with q | q; exact .inl q; exact .inr (.inl q)))
  have HBG := Aside0.mk ((hg3.block g HC.out.lt HC.out.ne).trans HC.out.blk)
  have HYG := Aside0.mk ((hg3.block Y (blk_lt HY.out) HYN.out).trans HY.out)
  clear ho hb3 hg3 hat3 hn29
  refine hK.out _ _ ⟨(blk_cell HBG.out 4).trans (by rw [HNL.out]; rfl), blk_cell HYG.out 0, blk_cell HYG.out 1, blk_cell HYG.out 2⟩ (fun hHeld => ?_)
  clear hK K
  refine norm_ (a' := ?_) ?_ ?_
  rotate_left
  · show Act.put _ (some 18) _ = _
    simp only [Act.put, List.setIfInBounds_toArray, List.set_cons_zero, List.set_cons_succ, i64_w, i32_w]
    rfl
  refine pure_ (i := 7) (N := some 19) (v := ?_) (a' := ?_) #[true, true, true, true, true, true, true, true, false] rfl rfl (any_of HT_.out (by kernel_rfl)) (fun _ _ _ h => h) (Or.inl ⟨by rfl, ?_⟩) ?_ ?_
  rotate_left
  · intro w'
    go_simp
    with_reducible rfl
  rotate_left
  · simp only [Act.put, List.setIfInBounds_toArray, List.set_cons_zero, List.set_cons_succ, i64_w, i32_w]
    rfl
  refine last_ (i := 8) (N := none) #[true, true, true, true, true, true, true, true, true] rfl rfl (one_of HT_.out (by kernel_rfl)) (by decide) (fun K hK => ?_)
  have hcg : w3.cell? ⟨g, 4, none⟩ = some (.slice Af L.length cf) := blk_cell HBG.out 4
  have hfz := blk_frozen HBG.out 4
  refine skip_ (w1 := ?_) (by rfl) rfl ?_ ?_
  rotate_left 1
  · go_simp
    rfl
  refine hK.out _ _ ?_
  clear hK K
  refine done_ (done_of HT_.out (by kernel_rfl)) ?_
  clear hcg hfz
  obtain ⟨h1, h2, h3⟩ := HA.out
  generalize (w3.setCell ⟨g, 4, none⟩ (.slice A29 n29 c29)) = w4 at h1 h2 h3 ⊢
  have HE := Aside0.mk (And.intro h1 (And.intro h2 h3))
  clear h1 h2 h3
  go_wp2
  refine bodyPost_end (results_none rfl _ _ _) rfl ?_
  exact ⟨by simp, _, HE.out.1, (Fr.of_below HF.out).seq HE.out.2.1, (Newer.refl w _).trans HF.out.size HE.out.2.2⟩
def z88 : Array Value := #[.int .i64 0, .int .i64 0, .int .i64 0]
/-- A way put into a box of its own. -/
theorem wbox (w : World) (x : Wy) : (w.alloc (.cells z88 87)).drew.there w.heap.size 0 3 ∧ Below w.heap.size w ((w.alloc (.cells z88 87)).drew.setCells w.heap.size 0 (wyC x)) ∧ ∀ j, j < 3 → ((w.alloc (.cells z88 87)).drew.setCells w.heap.size 0 (wyC x)).cell? ⟨w.heap.size, j, none⟩ = (wyC x)[j]? := by
  have hb : (w.alloc (.cells z88 87)).drew.heap[w.heap.size]? = some (.cells z88 87 (0, 0)) := blk_new w (.cells z88 87)
  obtain ⟨C2, k1, k2, k3, k4⟩ := setCells_blk (wyC x) 0 _ z88 hb
  refine ⟨fun j hj => ⟨?_, blk_frozen hb _⟩, (below_drew1 (below_alloc (Below.refl _ _) _)).trans ((Put1.cells_ w.heap.size (wyC x) 0 _).below (Nat.le_refl _)), fun j hj => ?_⟩
  · rw [blk_cell hb, Array.getElem?_eq_getElem (show 0 + j < z88.size by rw [Nat.zero_add]; exact hj)]; rfl
  · rw [blk_cell k1]
    have hj3 : (wyC x)[j]? = some ((wyC x)[j]'(by simpa [wyC] using hj)) := List.getElem?_eq_getElem _
    have h := k4 j _ hj3 (by rw [Nat.zero_add]; exact hj)
    rw [Nat.zero_add] at h
    rw [hj3]; exact h
set_option maxRecDepth 100000 in
set_option maxHeartbeats 4000000 in
theorem pop_calls (x0 x1 x2 : Int) (h : HS w n₀ g q0 q1 q2 q3 M v (L ++ [(x0, x1, x2)])) (hl : L.length ≤ 2000) :
    Calls Tryd.prog 80 #[.pointer (some ⟨g, 4, none⟩)] w fun e w' =>
      e = .returned (.iface 87 (.agg #[.int .i64 x0, .int .i64 x1, .int .i64 x2])) ∧ ∃ v', HS w' n₀ g q0 q1 q2 q3 M v' L ∧ Fr g v w w' ∧ Newer w v v' := by
  obtain ⟨b, c, e⟩ := ways_blk h.row (by simp)
  subst e
  obtain ⟨m, hm⟩ : ∃ m, m = L.length := ⟨_, rfl⟩
  have hlen : (L ++ [(x0, x1, x2)]).length = m + 1 := by rw [hm]; simp
  have hcap : (L ++ [(x0, x1, x2)]).length ≤ c := (Kd.R_reads' h.row).2.1
  rw [hlen] at hcap
  have HH := Aside0.mk (h.below (below_drew1 (Below.refl _ _)))
  have HD := Aside0.mk (below_drew1 (Below.refl w.heap.size w))
  have H0 := Aside0.mk h
  have hml : m < (L ++ [(x0, x1, x2)]).length := by rw [hlen]; omega
  have hlast : (L ++ [(x0, x1, x2)])[m] = (x0, x1, x2) := by
    rw [List.getElem_append_right (by omega)]; simp [hm]
  have hat := fun q (hq : q < 3) => (ways_at HH.out.row m hml q hq).trans (congrArg (fun z => (wyC z)[q]?) hlast)
  obtain ⟨n, hn⟩ : ∃ n, n = m + 1 := ⟨_, rfl⟩
  have HNL := Aside0.mk (show n = (L ++ [(x0, x1, x2)]).length by rw [hlen, hn])
  have hsub : wrap64 ((n : Int) - 1) = (m : Int) := by rw [wrap_small (by omega) (by omega)]; omega
  have hwm : wrap64 (m : Int) = (m : Int) := wrap_small (by omega) (by omega)
  have hmn : (m : Int) < (n : Int) := by omega
  have hmc : (m : Int) ≤ (c : Int) := by omega
  have HM := Aside0.mk hm
  have HS := Aside0.mk (show w.drew.cell? ⟨g, 4, none⟩ = some (.slice (some ⟨b, 0, none⟩) n c) ∧ w.drew.cell? ⟨b, m * 3, none⟩ = some (.int .i64 x0) ∧ w.drew.cell? ⟨b, m * 3 + 1, none⟩ = some (.int .i64 x1) ∧ w.drew.cell? ⟨b, m * 3 + 2, none⟩ = some (.int .i64 x2) from
    ⟨by rw [HNL.out]; exact blk_cell HH.out.blk 4, hat 0 (by decide), hat 1 (by decide), hat 2 (by decide)⟩)
  have HGB := Aside0.mk (show g < w.heap.size ∧ b < w.heap.size from ⟨h.lt, (h.own b rfl).2⟩)
  have HK := Aside0.mk (show Below w.heap.size w (w.alloc (.cells z88 87)).drew from below_drew1 (below_alloc (Below.refl _ _) _))
  clear h hl hm hlen hcap hat hlast hn hml
  go_enter Tryd.func80, Tryd.ntmps80
  go_wp2_with fail
  refine start_ (n := 12) (S := (fun w' => w'.cell? ⟨g, 4, none⟩ = some (.slice (some ⟨b, 0, none⟩) n c) ∧ w'.cell? ⟨b, m * 3, none⟩ = some (.int .i64 x0) ∧ w'.cell? ⟨b, m * 3 + 1, none⟩ = some (.int .i64 x1) ∧ w'.cell? ⟨b, m * 3 + 2, none⟩ = some (.int .i64 x2))) (ds := [11]) #[false, false, false, false, false, false, false, false, false, false, false, false] (by kernel_rfl) rfl rfl HS.out (fun hHeld => ?_)
  refine with_tabW pop1.tab pop1.bits (fun HT_ HW_ => ?_)
  refine pure_ (i := 0) (N := some 4) (v := ?_) (a' := ?_) #[true, false, false, false, false, false, false, false, false, false, false, false] rfl rfl (any_of HT_.out (by kernel_rfl)) (fun _ _ _ h => h) (Or.inl ⟨by rfl, ?_⟩) ?_ ?_
  rotate_left
  · intro w'
    go_simp
    with_reducible rfl
  rotate_left
  · simp only [Act.put, List.setIfInBounds_toArray, List.set_cons_zero, List.set_cons_succ, i64_w, i32_w]
    rfl
  refine pure_ (i := 1) (N := some 5) (v := ?_) (a' := ?_) #[true, true, false, false, false, false, false, false, false, false, false, false] rfl rfl (any_of HT_.out (by kernel_rfl)) (fun _ _ _ h => h) (Or.inl ⟨by rfl, ?_⟩) ?_ ?_
  rotate_left
  · intro w'
    go_simp
    with_reducible rfl
  rotate_left
  · simp only [Act.put, List.setIfInBounds_toArray, List.set_cons_zero, List.set_cons_succ, i64_w, i32_w]
    rfl
  refine take_ (i := 2) (N := some 6) (v := ?_) (a' := ?_) #[true, true, true, false, false, false, false, false, false, false, false, false] rfl rfl (take_ofW HT_.out HW_.out (by kernel_rfl)) (fun _ _ _ h => h) (Or.inl ⟨by rfl, ?_⟩) hHeld ?_ ?_
  rotate_left
  · rintro w' ⟨s0, s1, s2, s3⟩
    go_simp
    with_reducible rfl
  rotate_left
  · simp only [Act.put, List.setIfInBounds_toArray, List.set_cons_zero, List.set_cons_succ, i64_w, i32_w]
    rfl
  refine pure_ (i := 3) (N := some 7) (v := ?_) (a' := ?_) #[true, true, true, true, false, false, false, false, false, false, false, false] rfl rfl (any_of HT_.out (by kernel_rfl)) (fun _ _ _ h => h) (Or.inl ⟨by rfl, ?_⟩) ?_ ?_
  rotate_left
  · intro w'
    go_simp
    with_reducible rfl
  rotate_left
  · simp only [Act.put, List.setIfInBounds_toArray, List.set_cons_zero, List.set_cons_succ, i64_w, i32_w]
    rfl
  refine pure_ (i := 4) (N := some 8) (v := ?_) (a' := ?_) #[true, true, true, true, true, false, false, false, false, false, false, false] rfl rfl (any_of HT_.out (by kernel_rfl)) (fun _ _ _ h => h) (Or.inl ⟨by rfl, ?_⟩) ?_ ?_
  rotate_left
  · intro w'
    go_simp
    with_reducible rfl
  rotate_left
  · simp only [Act.put, List.setIfInBounds_toArray, List.set_cons_zero, List.set_cons_succ, i64_w, i32_w]
    rfl
  refine take_ (i := 5) (N := some 9) (v := ?_) (a' := ?_) #[true, true, true, true, true, true, false, false, false, false, false, false] rfl rfl (take_ofW HT_.out HW_.out (by kernel_rfl)) (fun _ _ _ h => h) (Or.inl ⟨by rfl, ?_⟩) hHeld ?_ ?_
  rotate_left
  · rintro w' ⟨s0, s1, s2, s3⟩
    go_simp
    with_reducible rfl
  rotate_left
  · simp only [Act.put, List.setIfInBounds_toArray, List.set_cons_zero, List.set_cons_succ, i64_w, i32_w]
    rfl
  refine pure_ (i := 6) (N := some 10) (v := ?_) (a' := ?_) #[true, true, true, true, true, true, true, false, false, false, false, false] rfl rfl (any_of HT_.out (by kernel_rfl)) (fun _ _ _ h => h) (Or.inl ⟨by rfl, ?_⟩) ?_ ?_
  rotate_left
  · intro w'
    go_simp
    with_reducible rfl
  rotate_left
  · simp only [Act.put, List.setIfInBounds_toArray, List.set_cons_zero, List.set_cons_succ, i64_w, i32_w]
    rfl
  refine pure_ (i := 7) (N := some 11) (v := ?_) (a' := ?_) #[true, true, true, true, true, true, true, true, false, false, false, false] rfl rfl (any_of HT_.out (by kernel_rfl)) (fun _ _ _ h => h) (Or.inl ⟨by rfl, ?_⟩) ?_ ?_
  rotate_left
  · intro w'
    go_simp
    with_reducible rfl
  rotate_left
  · simp only [Act.put, List.setIfInBounds_toArray, List.set_cons_zero, List.set_cons_succ, i64_w, i32_w]
    rfl
  refine pure_ (i := 8) (N := some 12) (v := ?_) (a' := ?_) #[true, true, true, true, true, true, true, true, true, false, false, false] rfl rfl (any_of HT_.out (by kernel_rfl)) (fun _ _ _ h => h) (Or.inl ⟨by rfl, ?_⟩) ?_ ?_
  rotate_left
  · intro w'
    go_simp
    with_reducible rfl
  rotate_left
  · simp only [Act.put, List.setIfInBounds_toArray, List.set_cons_zero, List.set_cons_succ, i64_w, i32_w]
    rfl
  refine take_ (i := 9) (N := some 13) (v := ?_) (a' := ?_) #[true, true, true, true, true, true, true, true, true, true, false, false] rfl rfl (take_ofW HT_.out HW_.out (by kernel_rfl)) (fun _ _ _ h => h) (Or.inl ⟨by rfl, ?_⟩) hHeld ?_ ?_
  rotate_left
  · rintro w' ⟨s0, s1, s2, s3⟩
    go_simp
    with_reducible rfl
  rotate_left
  · simp only [Act.put, List.setIfInBounds_toArray, List.set_cons_zero, List.set_cons_succ, i64_w, i32_w]
    rfl
  refine one_ (i := 10) (N := some 3) #[true, true, true, true, true, true, true, true, true, true, true, false] rfl rfl (one_of HT_.out (by kernel_rfl)) (by decide) (fun K hK => ?_)
  skip
  refine value_ (w1 := ?_) (v := ?_) (by rfl) rfl ?_ ?_
  rotate_left 2
  · go_simp
    constructor
    · rfl
    · rfl
  refine hK.out _ _ ⟨(HK.out.cell (p := ⟨g, 4, none⟩) HGB.out.1).trans HS.out.1, (HK.out.cell (p := ⟨b, m * 3, none⟩) HGB.out.2).trans HS.out.2.1, (HK.out.cell (p := ⟨b, m * 3 + 1, none⟩) HGB.out.2).trans HS.out.2.2.1, (HK.out.cell (p := ⟨b, m * 3 + 2, none⟩) HGB.out.2).trans HS.out.2.2.2⟩ (fun hHeld => ?_)
  clear hK K
  refine norm_ (a' := ?_) ?_ ?_
  rotate_left
  · show Act.put _ (some 3) _ = _
    simp only [Act.put, List.setIfInBounds_toArray, List.set_cons_zero, List.set_cons_succ, i64_w, i32_w]
    rfl
  refine last_ (i := 11) (N := none) #[true, true, true, true, true, true, true, true, true, true, true, true] rfl rfl (one_of HT_.out (by kernel_rfl)) (by decide) (fun K hK => ?_)
  rw [if_pos (by rfl)]
  refine wp_store_mid 87 (.tmp 3) (.tmp 13) rfl w.heap.size 0 (wyC (x0, x1, x2)).toArray (by rfl) (by rfl) (wbox w (x0, x1, x2)).1 (by kernel_rfl) (wyC_one _) ?_
  refine hK.out _ _ ?_
  clear hK K
  refine done_ (done_of HT_.out (by kernel_rfl)) ?_
  obtain ⟨_, hb2, hy⟩ := wbox w (x0, x1, x2)
  have hy0 := hy 0 (by decide)
  have hy1 := hy 1 (by decide)
  have hy2 := hy 2 (by decide)
  obtain ⟨w2, hw2⟩ : ∃ w2, w2 = ((w.alloc (.cells z88 87)).drew.setCells w.heap.size 0 (wyC (x0, x1, x2))) := ⟨_, rfl⟩
  obtain ⟨B, hB⟩ : ∃ B, B = w.heap.size := ⟨_, rfl⟩
  rw [← hw2] at hb2 hy0 hy1 hy2
  rw [← hB] at hy0 hy1 hy2
  show Exit.then _ _ Exit.normal (Act.put _ none _) ((w.alloc (.cells z88 87)).drew.setCells w.heap.size 0 (wyC (x0, x1, x2)))
  rw [putNone]
  rw [← hw2, ← hB]
  have H2 := Aside0.mk (H0.out.below (hb2.trans (⟨rfl, rfl, rfl, Nat.le_refl _, fun _ _ => rfl⟩ : Below w.heap.size w2 w2.drew)))
  have HB2 := Aside0.mk (hb2.trans (⟨rfl, rfl, rfl, Nat.le_refl _, fun _ _ => rfl⟩ : Below w.heap.size w2 w2.drew))
  have HS2 := Aside0.mk (show w2.drew.cell? ⟨g, 4, none⟩ = some (.slice (some ⟨b, 0, none⟩) n c) ∧ w2.drew.cell? ⟨B, 0, none⟩ = some (.int .i64 x0) ∧ w2.drew.cell? ⟨B, 1, none⟩ = some (.int .i64 x1) ∧ w2.drew.cell? ⟨B, 2, none⟩ = some (.int .i64 x2) from
    ⟨by rw [HNL.out]; exact blk_cell H2.out.blk 4, hy0, hy1, hy2⟩)
  have HBe := Aside0.mk hB
  clear hb2 hy hy0 hy1 hy2 hw2 hB HS HK
  go_wp2_with fail
  refine start_ (n := 12) (S := (fun w' => w'.cell? ⟨g, 4, none⟩ = some (.slice (some ⟨b, 0, none⟩) n c) ∧ w'.cell? ⟨B, 0, none⟩ = some (.int .i64 x0) ∧ w'.cell? ⟨B, 1, none⟩ = some (.int .i64 x1) ∧ w'.cell? ⟨B, 2, none⟩ = some (.int .i64 x2))) (ds := [11]) #[false, false, false, false, false, false, false, false, false, false, false, false] (by kernel_rfl) rfl rfl HS2.out (fun hHeld => ?_)
  refine with_tabW pop2.tab pop2.bits (fun HT_ HW_ => ?_)
  refine pure_ (i := 0) (N := some 14) (v := ?_) (a' := ?_) #[true, false, false, false, false, false, false, false, false, false, false, false] rfl rfl (any_of HT_.out (by kernel_rfl)) (fun _ _ _ h => h) (Or.inl ⟨by rfl, ?_⟩) ?_ ?_
  rotate_left
  · intro w'
    go_simp
    with_reducible rfl
  rotate_left
  · simp only [Act.put, List.setIfInBounds_toArray, List.set_cons_zero, List.set_cons_succ, i64_w, i32_w]
    rfl
  refine pure_ (i := 1) (N := some 15) (v := ?_) (a' := ?_) #[true, true, false, false, false, false, false, false, false, false, false, false] rfl rfl (any_of HT_.out (by kernel_rfl)) (fun _ _ _ h => h) (Or.inl ⟨by rfl, ?_⟩) ?_ ?_
  rotate_left
  · intro w'
    go_simp
    with_reducible rfl
  rotate_left
  · simp only [Act.put, List.setIfInBounds_toArray, List.set_cons_zero, List.set_cons_succ, i64_w, i32_w]
    rfl
  refine pure_ (i := 2) (N := some 16) (v := ?_) (a' := ?_) #[true, true, true, false, false, false, false, false, false, false, false, false] rfl rfl (any_of HT_.out (by kernel_rfl)) (fun _ _ _ h => h) (Or.inl ⟨by rfl, ?_⟩) ?_ ?_
  rotate_left
  · intro w'
    go_simp
    with_reducible rfl
  rotate_left
  · simp only [Act.put, List.setIfInBounds_toArray, List.set_cons_zero, List.set_cons_succ, i64_w, i32_w]
    rfl
  refine take_ (i := 3) (N := some 17) (v := ?_) (a' := ?_) #[true, true, true, true, false, false, false, false, false, false, false, false] rfl rfl (take_ofW HT_.out HW_.out (by kernel_rfl)) (fun _ _ _ h => h) (Or.inl ⟨by rfl, ?_⟩) hHeld ?_ ?_
  rotate_left
  · rintro w' ⟨s0, s1, s2, s3⟩
    go_simp
    with_reducible rfl
  rotate_left
  · simp only [Act.put, List.setIfInBounds_toArray, List.set_cons_zero, List.set_cons_succ, i64_w, i32_w]
    rfl
  refine pure_ (i := 4) (N := some 18) (v := ?_) (a' := ?_) #[true, true, true, true, true, false, false, false, false, false, false, false] rfl rfl (any_of HT_.out (by kernel_rfl)) (fun _ _ _ h => h) (Or.inl ⟨by rfl, ?_⟩) ?_ ?_
  rotate_left
  · intro w'
    go_simp
    with_reducible rfl
  rotate_left
  · simp only [Act.put, List.setIfInBounds_toArray, List.set_cons_zero, List.set_cons_succ, i64_w, i32_w]
    rfl
  refine pure_ (i := 5) (N := some 19) (v := ?_) (a' := ?_) #[true, true, true, true, true, true, false, false, false, false, false, false] rfl rfl (any_of HT_.out (by kernel_rfl)) (fun _ _ _ h => h) (Or.inl ⟨by rfl, ?_⟩) ?_ ?_
  rotate_left
  · intro w'
    go_simp
    with_reducible rfl
  rotate_left
  · simp only [Act.put, List.setIfInBounds_toArray, List.set_cons_zero, List.set_cons_succ, i64_w, i32_w]
    rfl
  refine take_ (i := 6) (N := some 20) (v := ?_) (a' := ?_) #[true, true, true, true, true, true, true, false, false, false, false, false] rfl rfl (take_ofW HT_.out HW_.out (by kernel_rfl)) (fun _ _ _ h => h) (Or.inl ⟨by rfl, ?_⟩) hHeld ?_ ?_
  rotate_left
  · rintro w' ⟨s0, s1, s2, s3⟩
    go_simp
    with_reducible rfl
  rotate_left
  · simp only [Act.put, List.setIfInBounds_toArray, List.set_cons_zero, List.set_cons_succ, i64_w, i32_w]
    rfl
  refine pure_ (i := 7) (N := some 21) (v := ?_) (a' := ?_) #[true, true, true, true, true, true, true, true, false, false, false, false] rfl rfl (any_of HT_.out (by kernel_rfl)) (fun _ _ _ h => h) (Or.inl ⟨by rfl, ?_⟩) ?_ ?_
  rotate_left
  · intro w'
    go_simp
    with_reducible rfl
  rotate_left
  · simp only [Act.put, List.setIfInBounds_toArray, List.set_cons_zero, List.set_cons_succ, i64_w, i32_w]
    rfl
  refine pure_ (i := 8) (N := some 22) (v := ?_) (a' := ?_) #[true, true, true, true, true, true, true, true, true, false, false, false] rfl rfl (any_of HT_.out (by kernel_rfl)) (fun _ _ _ h => h) (Or.inl ⟨by rfl, ?_⟩) ?_ ?_
  rotate_left
  · intro w'
    go_simp
    with_reducible rfl
  rotate_left
  · simp only [Act.put, List.setIfInBounds_toArray, List.set_cons_zero, List.set_cons_succ, i64_w, i32_w]
    rfl
  refine pure_ (i := 9) (N := some 23) (v := ?_) (a' := ?_) #[true, true, true, true, true, true, true, true, true, true, false, false] rfl rfl (any_of HT_.out (by kernel_rfl)) (fun _ _ _ h => h) (Or.inl ⟨by rfl, ?_⟩) ?_ ?_
  rotate_left
  · intro w'
    go_simp
    with_reducible rfl
  rotate_left
  · simp only [Act.put, List.setIfInBounds_toArray, List.set_cons_zero, List.set_cons_succ, i64_w, i32_w]
    rfl
  refine pure_ (i := 10) (N := some 24) (v := ?_) (a' := ?_) #[true, true, true, true, true, true, true, true, true, true, true, false] rfl rfl (any_of HT_.out (by kernel_rfl)) (fun _ _ _ h => h) (Or.inl ⟨by rfl, ?_⟩) ?_ ?_
  rotate_left
  · intro w'
    go_simp
    with_reducible rfl
  rotate_left
  · simp only [Act.put, List.setIfInBounds_toArray, List.set_cons_zero, List.set_cons_succ, i64_w, i32_w]
    rfl
  refine last_ (i := 11) (N := none) #[true, true, true, true, true, true, true, true, true, true, true, true] rfl rfl (one_of HT_.out (by kernel_rfl)) (by decide) (fun K hK => ?_)
  have hcg := HS2.out.1
  have hfz := blk_frozen H2.out.blk 4
  refine skip_ (w1 := ?_) (by rfl) rfl ?_ ?_
  rotate_left 1
  · go_simp
    rfl
  refine hK.out _ _ ?_
  clear hK K
  refine done_ (done_of HT_.out (by kernel_rfl)) ?_
  clear hcg hfz
  have hrow := Kd.R_take H2.out.row (m := m) (by rw [← HNL.out]; omega)
  have htk : (L ++ [(x0, x1, x2)]).take m = L := by rw [HM.out]; simp
  rw [htk] at hrow
  have hrd := H2.out.rowed hrow (grown_below (Below.refl _ _) _) (.inl rfl)
  have hcB0 := (World.cell?_of_block (a := ⟨B, 0, none⟩) (Below.heap_setCell w2.drew ⟨g, 4, none⟩ (.slice (some ⟨b, 0, none⟩) m c) B (by show B ≠ g; have := HGB.out.1; have := HBe.out; omega))).trans HS2.out.2.1
  have hcB1 := (World.cell?_of_block (a := ⟨B, 1, none⟩) (Below.heap_setCell w2.drew ⟨g, 4, none⟩ (.slice (some ⟨b, 0, none⟩) m c) B (by show B ≠ g; have := HGB.out.1; have := HBe.out; omega))).trans HS2.out.2.2.1
  have hcB2 := (World.cell?_of_block (a := ⟨B, 2, none⟩) (Below.heap_setCell w2.drew ⟨g, 4, none⟩ (.slice (some ⟨b, 0, none⟩) m c) B (by show B ≠ g; have := HGB.out.1; have := HBe.out; omega))).trans HS2.out.2.2.2
  have e3 : w2.drew.setCell ⟨g, 4, none⟩ (.slice (some ⟨b, 0, none⟩) m c) = (w2.setCell ⟨g, 4, none⟩ (.slice (some ⟨b, 0, none⟩) m c)).drew := rfl
  rw [e3] at hrd hcB0 hcB1 hcB2
  have HRD := Aside0.mk hrd
  clear hrow htk hrd hHeld e3
  generalize (w2.setCell ⟨g, 4, none⟩ (.slice (some ⟨b, 0, none⟩) m c)).drew = w3 at HRD hcB0 hcB1 hcB2 ⊢
  go_wp2_with fail
  go_ret
  exact ⟨by simp, _, HRD.out.1, (Fr.of_below HB2.out).seq HRD.out.2.1, (Newer.refl w _).trans HB2.out.size HRD.out.2.2⟩
end Go.Proofs.YteileaajmnbmpaaDoor.P
namespace Go.Proofs.YteileaajmnbmpaaDoor.P
open Go Go.Proofs Go.RowKit Go.Proofs.YteileaajmnbmpaaDoorW.PrintWords Go.Proofs.YteileaajmnbmpaaDoorW.PrintLast Go.Proofs.YteileaajmnbmpaaDoorW.PrintMore
set_option linter.unusedVariables false
set_option linter.unusedSimpArgs false
-- YteileaajmnbmpaaDoorPDHeapP
theorem farOf_set (L : List Wy) (i k : Nat) (x : Wy) (hi : i < L.length) : farOf (L.set i x) k = if k = i then x.2.2 else farOf L k := by
  unfold farOf
  rw [List.getD_eq_getElem?_getD, List.getElem?_set]
  by_cases e : i = k
  · subst e; rw [if_pos rfl, if_pos hi, if_pos rfl]; rfl
  · rw [if_neg e, if_neg (fun h => e h.symm), List.getD_eq_getElem?_getD]
theorem swap_far (L : List Wy) (i j k : Nat) (hi : i < L.length) (hj : j < L.length) : farOf (swapL L i j) k = if k = j then farOf L i else if k = i then farOf L j else farOf L k := by
  unfold swapL
  rw [farOf_set _ _ _ _ (by rw [List.length_set]; exact hj), farOf_set _ _ _ _ hi]
  rfl
theorem swap_perm (L : List Wy) (i j : Nat) (hi : i < L.length) (hj : j < L.length) : (swapL L i j).Perm L := by
  have h := Array.swap_perm (xs := L.toArray) (i := i) (j := j) (by simpa using hi) (by simpa using hj)
  have e : (L.toArray.swap i j (by simpa using hi) (by simpa using hj)) = (swapL L i j).toArray := by
    unfold swapL
    rw [getD_at L i hi, getD_at L j hj]
    apply Array.ext
    · simp
    · intro k h1 h2
      simp [Array.getElem_swap, List.getElem_set]
  rw [e] at h
  exact Array.perm_iff_toList_perm.1 h
/-- The first n are a heap: no parent is further than its child. -/
def HeapN (L : List Wy) (n : Nat) : Prop := ∀ k, 0 < k → k < n → farOf L ((k - 1) / 2) ≤ farOf L k
/-- A heap but for place j, which may be nearer than its parent. -/
def UpI (L : List Wy) (j : Nat) : Prop := (∀ k, 0 < k → k < L.length → k ≠ j → farOf L ((k - 1) / 2) ≤ farOf L k) ∧ ∀ k, 0 < k → k < L.length → (k - 1) / 2 = j → 0 < j → farOf L ((j - 1) / 2) ≤ farOf L k
/-- A heap of n but for place i, which may be further than its children. -/
def DnI (L : List Wy) (n i : Nat) : Prop := (∀ k, 0 < k → k < n → (k - 1) / 2 ≠ i → farOf L ((k - 1) / 2) ≤ farOf L k) ∧ ∀ k, 0 < k → k < n → (k - 1) / 2 = i → 0 < i → farOf L ((i - 1) / 2) ≤ farOf L k
theorem up_stop {L : List Wy} {j : Nat} (h : UpI L j) (hs : j = 0 ∨ ¬ farOf L j < farOf L ((j - 1) / 2)) : HeapN L L.length := by
  intro k h0 hk
  by_cases e : k = j
  · subst e
    rcases hs with e | e
    · omega
    · omega
  · exact h.1 k h0 hk e
theorem up_step {L : List Wy} {j : Nat} (hj : j < L.length) (h0 : 0 < j) (h : UpI L j) (hl : farOf L j < farOf L ((j - 1) / 2)) : UpI (swapL L ((j - 1) / 2) j) ((j - 1) / 2) := by
  have hi : (j - 1) / 2 < L.length := by omega
  have hne : (j - 1) / 2 ≠ j := by omega
  have hf := fun k => swap_far L ((j - 1) / 2) j k hi hj
  refine ⟨fun k k0 kl kn => ?_, fun k k0 kl kp ip => ?_⟩
  · rw [swapL_length] at kl
    rw [hf k, hf ((k - 1) / 2)]
    by_cases e1 : k = j
    · subst e1
      rw [if_pos rfl, if_neg hne, if_pos rfl]; omega
    · rw [if_neg e1, if_neg kn]
      by_cases e2 : (k - 1) / 2 = j
      · rw [if_pos e2]; exact h.2 k k0 kl e2 h0
      · rw [if_neg e2]
        by_cases e3 : (k - 1) / 2 = (j - 1) / 2
        · rw [if_pos e3]
          have := h.1 k k0 kl e1
          rw [e3] at this
          omega
        · rw [if_neg e3]; exact h.1 k k0 kl e1
  · rw [swapL_length] at kl
    generalize hI : (j - 1) / 2 = i at *
    rw [hf k, hf ((i - 1) / 2)]
    have hp : (i - 1) / 2 ≠ j := by omega
    have hp2 : (i - 1) / 2 ≠ i := by omega
    rw [if_neg hp, if_neg hp2]
    have hpi : farOf L ((i - 1) / 2) ≤ farOf L i := h.1 i ip hi hne
    by_cases e1 : k = j
    · rw [if_pos e1]; exact hpi
    · rw [if_neg e1, if_neg (by omega)]
      have := h.1 k k0 kl e1
      rw [kp] at this
      omega
theorem push_start {L : List Wy} (x : Wy) (h : HeapN L L.length) : UpI (L ++ [x]) L.length := by
  have hf : ∀ k, k < L.length → farOf (L ++ [x]) k = farOf L k := fun k hk => by
    unfold farOf
    rw [List.getD_eq_getElem?_getD, List.getElem?_append_left hk, List.getD_eq_getElem?_getD]
  refine ⟨fun k k0 kl kn => ?_, fun k k0 kl kp ip => ?_⟩
  · rw [List.length_append, List.length_singleton] at kl
    rw [hf k (by omega), hf _ (by omega)]
    exact h k k0 (by omega)
  · rw [List.length_append, List.length_singleton] at kl
    omega
theorem dn_stop {L : List Wy} {n i : Nat} (h : DnI L n i) (hs : ∀ k, 0 < k → k < n → (k - 1) / 2 = i → farOf L i ≤ farOf L k) : HeapN L n := by
  intro k h0 hk
  by_cases e : (k - 1) / 2 = i
  · rw [e]; exact hs k h0 hk e
  · exact h.1 k h0 hk e
/-- The nearer child. -/
def chld (L : List Wy) (n i : Nat) : Nat := if 2 * i + 2 < n ∧ farOf L (2 * i + 2) < farOf L (2 * i + 1) then 2 * i + 2 else 2 * i + 1
theorem chld_le {L : List Wy} {n i k : Nat} (h0 : 0 < k) (hk : k < n) (hp : (k - 1) / 2 = i) : farOf L (chld L n i) ≤ farOf L k := by
  unfold chld
  have hc : k = 2 * i + 1 ∨ k = 2 * i + 2 := by omega
  split
  · rename_i e
    rcases hc with rfl | rfl
    · omega
    · omega
  · rename_i e
    rcases hc with rfl | rfl
    · omega
    · by_cases q : farOf L (2 * i + 2) < farOf L (2 * i + 1)
      · exact absurd ⟨hk, q⟩ e
      · omega
theorem dn_step {L : List Wy} {n i : Nat} (hn : n ≤ L.length) (h1 : 2 * i + 1 < n) (h : DnI L n i) (hl : farOf L (chld L n i) < farOf L i) : DnI (swapL L i (chld L n i)) n (chld L n i) := by
  have hcn : chld L n i < n ∧ (chld L n i - 1) / 2 = i ∧ 0 < chld L n i := by unfold chld; split <;> omega
  have hle := fun k (h0 : 0 < k) (hk : k < n) (hp : (k - 1) / 2 = i) => chld_le (L := L) h0 hk hp
  generalize chld L n i = j at *
  have hf := fun k => swap_far L i j k (by omega) (by omega)
  refine ⟨fun k k0 kl kn => ?_, fun k k0 kl kp jp => ?_⟩
  · rw [hf k, hf ((k - 1) / 2), if_neg kn]
    by_cases e1 : k = j
    · subst e1
      rw [if_pos rfl, if_pos hcn.2.1]; omega
    · rw [if_neg e1]
      by_cases e2 : (k - 1) / 2 = i
      · rw [if_pos e2, if_neg (by omega)]; exact hle k k0 kl e2
      · rw [if_neg e2]
        by_cases e3 : k = i
        · subst e3
          rw [if_pos rfl]
          exact h.2 j hcn.2.2 hcn.1 hcn.2.1 k0
        · rw [if_neg e3]; exact h.1 k k0 kl e2
  · rw [hf k, hf ((j - 1) / 2), hcn.2.1, if_neg (by omega), if_pos rfl, if_neg (by omega), if_neg (by omega)]
    have := h.1 k k0 kl (by omega)
    rw [kp] at this
    exact this
/-- A heap's root is the least. -/
theorem root_le {L : List Wy} {n : Nat} (h : HeapN L n) : ∀ k, k < n → farOf L 0 ≤ farOf L k
  | 0, _ => Int.le_refl _
  | k + 1, hk => by
    have h1 := h (k + 1) (by omega) hk
    have h2 := root_le h ((k + 1 - 1) / 2) (by omega)
    omega
/-- The root swapped with the last. -/
theorem pop_start {L : List Wy} (h : HeapN L L.length) (hl : 0 < L.length) : DnI (swapL L 0 (L.length - 1)) (L.length - 1) 0 := by
  have hf := fun k => swap_far L 0 (L.length - 1) k hl (by omega)
  refine ⟨fun k k0 kl kn => ?_, fun k k0 kl kp ip => by omega⟩
  rw [hf k, hf ((k - 1) / 2), if_neg (c := (k - 1) / 2 = L.length - 1) (by omega), if_neg (c := (k - 1) / 2 = 0) kn, if_neg (c := k = L.length - 1) (by omega), if_neg (c := k = 0) (by omega)]
  exact h k k0 (by omega)
end Go.Proofs.YteileaajmnbmpaaDoor.P
-- YteileaajmnbmpaaDoorPDHeap2
namespace Go.Proofs.YteileaajmnbmpaaDoor.P
open Go Go.Proofs Go.RowKit Go.Proofs.YteileaajmnbmpaaDoorW.PrintWords Go.Proofs.YteileaajmnbmpaaDoorW.PrintLast Go.Proofs.YteileaajmnbmpaaDoorW.PrintMore
set_option linter.unusedVariables false
set_option linter.unusedSimpArgs false

variable {w : World} {n₀ g : Nat} {q0 q1 q2 q3 : Int} {M v : Value} {L : List Wy}
theorem mPush (g : Nat) (w : World) : (method 243 90 (.pointer (some ⟨g, 4, none⟩)) "Push").run Tryd.prog w = .ok (81, .pointer (some ⟨g, 4, none⟩)) w := by kernel_rfl
theorem mPop (g : Nat) (w : World) : (method 243 90 (.pointer (some ⟨g, 4, none⟩)) "Pop").run Tryd.prog w = .ok (80, .pointer (some ⟨g, 4, none⟩)) w := by kernel_rfl
theorem eEnter (args : Array Value) (w : World) : (callFunc 81 args).run Tryd.prog w = .ok (.enter 81 args) w := by kernel_rfl
theorem nilchk (a : Addr) (n : String) (w : World) : (Builtin.ssaWrapNilChk_ #[90] 90 #[.pointer (some a), strVal "", strVal n]).run Tryd.prog w = .ok (.pointer (some a)) w := by kernel_rfl
theorem rcv (g : Nat) (w : World) (v : Value) (hc : w.cell? ⟨g, 4, none⟩ = some v) (n : Option String) : (receiverAt 90 (.val (.pointer (some ⟨g, 4, none⟩))) false n).run Tryd.prog w = .ok v w := by
  have hu : (underlying 90).run Tryd.prog w = .ok (.pointer 63) w := by kernel_rfl
  have hl : (loadVar 63 ⟨g, 4, none⟩).run Tryd.prog w = .ok v w := by go_simp
  unfold receiverAt
  simp only [Sem.run_bind, hu, Result.andThen_ok]
  cases n with
  | none => simp only [Place.get, Sem.run_bind, Sem.run_pure, Result.andThen_ok, asAddr, hl]
  | some n => simp only [Place.get, Sem.run_bind, Sem.run_pure, Result.andThen_ok, asAddr, hl, nilchk]
set_option maxRecDepth 100000 in
theorem mAny (name : String) (f : Nat) (g : Nat) (w : World) (v : Value) (hc : w.cell? ⟨g, 4, none⟩ = some v) (h : ((Tryd.prog.info? 90).bind fun I => (I.methods.find? (·.name == name)).map fun m => (m.path, m.func)) = some (#[], some (f, false))) :
    (method (Tryd.prog.types.size + 100) 90 (.pointer (some ⟨g, 4, none⟩)) name).run Tryd.prog w = .ok (f, v) w := by
  obtain ⟨I, h1, h⟩ := Option.bind_eq_some_iff.1 h
  obtain ⟨m, h2, h⟩ := Option.map_eq_some_iff.1 h
  injection h with h3 h4
  have hi : (typeInfo 90).run Tryd.prog w = .ok I w := by unfold typeInfo; simp [h1]
  have hp : m.path.toList = [] := by rw [h3]
  unfold method
  simp only [Sem.run_bind, hi, Result.andThen_ok, h2, hp, h4, follow, Sem.run_pure, rcv g w v hc]
theorem fuel_ : Tryd.prog.types.size + 100 = 243 := by kernel_rfl
theorem mLen (g : Nat) (w : World) (v : Value) (hc : w.cell? ⟨g, 4, none⟩ = some v) : (method 243 90 (.pointer (some ⟨g, 4, none⟩)) "Len").run Tryd.prog w = .ok (77, v) w :=
  fuel_ ▸ mAny "Len" 77 g w v hc (by kernel_rfl)
theorem mLess (g : Nat) (w : World) (v : Value) (hc : w.cell? ⟨g, 4, none⟩ = some v) : (method 243 90 (.pointer (some ⟨g, 4, none⟩)) "Less").run Tryd.prog w = .ok (78, v) w :=
  fuel_ ▸ mAny "Less" 78 g w v hc (by kernel_rfl)
theorem mSwap (g : Nat) (w : World) (v : Value) (hc : w.cell? ⟨g, 4, none⟩ = some v) : (method 243 90 (.pointer (some ⟨g, 4, none⟩)) "Swap").run Tryd.prog w = .ok (79, v) w :=
  fuel_ ▸ mAny "Swap" 79 g w v hc (by kernel_rfl)
theorem eLen (args : Array Value) (w : World) : (callFunc 77 args).run Tryd.prog w = .ok (.enter 77 args) w := by kernel_rfl
theorem eLess (args : Array Value) (w : World) : (callFunc 78 args).run Tryd.prog w = .ok (.enter 78 args) w := by kernel_rfl
theorem eSwap (args : Array Value) (w : World) : (callFunc 79 args).run Tryd.prog w = .ok (.enter 79 args) w := by kernel_rfl
theorem ePop (args : Array Value) (w : World) : (callFunc 80 args).run Tryd.prog w = .ok (.enter 80 args) w := by kernel_rfl

theorem HS.grown {b c : Nat} {L' : List Wy} {w' : World} (h : HS w n₀ g q0 q1 q2 q3 M (.slice (some ⟨b, 0, none⟩) L.length c) L) (hr : Kd.R kW 87 w' n₀ (fun _ => True) (.slice (some ⟨b, 0, none⟩) L.length c) L') (hg : w.grownBy w' (some b)) :
    HS w' n₀ g q0 q1 q2 q3 M (.slice (some ⟨b, 0, none⟩) L.length c) L' := ⟨(hg.block g h.lt h.ne).trans h.blk, hr, h.low⟩
theorem tdiv2 (j : Nat) (h : 0 < j) : Int.tdiv ((j : Int) - 1) 2 = (((j - 1) / 2 : Nat) : Int) := by rw [Int.tdiv_eq_ediv_of_nonneg (by omega)]; omega
theorem ediv2 (j : Nat) (h : 0 < j) : ((j : Int) - 1) / 2 = (((j - 1) / 2 : Nat) : Int) := by omega
set_option maxRecDepth 100000 in
set_option maxHeartbeats 4000000 in
theorem up_calls {b c : Nat} (h : HS w n₀ g q0 q1 q2 q3 M (.slice (some ⟨b, 0, none⟩) L.length c) L) (j0 : Nat) (hj : j0 < L.length) (hl : L.length ≤ 2000) (hU : UpI L j0) :
    Calls Tryd.prog 56 #[.iface 90 (.pointer (some ⟨g, 4, none⟩)), .int .i64 (j0 : Int)] w fun e w' =>
      e = .returned (.tuple #[]) ∧ ∃ L', L'.length = L.length ∧ HS w' n₀ g q0 q1 q2 q3 M (.slice (some ⟨b, 0, none⟩) L.length c) L' ∧ w.grownBy w' (some b) ∧ L'.Perm L ∧ HeapN L' L.length := by
  have mL := mLess g
  have eL := eLess
  have eS := eSwap
  have mS := mSwap g
  have HH := Aside0.mk h
  have HU := Aside0.mk hU
  obtain ⟨n, hn⟩ : ∃ n, n = L.length := ⟨_, rfl⟩
  have HN := Aside0.mk hn
  have hjn : j0 < n := by omega
  have hn2 : n ≤ 2000 := by omega
  rw [← hn]
  rw [← hn] at HH
  clear h hU hn hj hl
  go_enter Tryd.func56, Tryd.ntmps56
  go_wp2_with fail
  go_loopw [1] (fun v1 wr => ∃ (j : Nat) (L' : List Wy), v1 = .int .i64 (j : Int) ∧ j < n ∧ Aside0 (L'.length = n) ∧ Aside0 (HS wr n₀ g q0 q1 q2 q3 M (.slice (some ⟨b, 0, none⟩) n c) L') ∧ Aside0 (w.grownBy wr (some b)) ∧ Aside0 (L'.Perm L) ∧ Aside0 (UpI L' j)) (fun v1 _ => (intOf v1).toNat)
  case atStart => exact ⟨j0, L, rfl, hjn, ⟨HN.out.symm⟩, HH, ⟨grown_below (Below.refl _ _) _⟩, ⟨List.Perm.refl _⟩, HU⟩
  case round =>
    clear HH HU
    obtain ⟨j, L', rfl, hjn, HL, HH, HG, HP, HU⟩ := hrel
    have hc4 : wr.cell? ⟨g, 4, none⟩ = some (.slice (some ⟨b, 0, none⟩) n c) := blk_cell HH.out.blk 4
    by_cases hj0 : j = 0
    · subst hj0
      go_wp2_with fail
      refine bodyPost_end (results_none rfl _ _ _) rfl ?_
      exact ⟨by simp, L', HL.out, HH.out, HG.out, HP.out, by rw [← HL.out]; exact up_stop HU.out (.inl rfl)⟩
    · have hjp : 0 < j := by omega
      have hd1 := tdiv2 j hjp
      have hd2 := ediv2 j hjp
      obtain ⟨p, hp⟩ : ∃ p, p = (j - 1) / 2 := ⟨_, rfl⟩
      rw [← hp] at hd1 hd2
      have hpj : p < j := by omega
      have hpb : ((p : Int) == (j : Int)) = false := beq_eq_false_iff_ne.mpr (by omega)
      have HPE := Aside0.mk hp
      clear hp
      have hR : Kd.R kW 87 wr n₀ (fun _ => True) (.slice (some ⟨b, 0, none⟩) L'.length c) L' := by rw [HL.out]; exact HH.out.row
      have hls := less_calls hR j p (by rw [HL.out]; exact hjn) (by rw [HL.out]; omega) (by rw [HL.out]; omega)
      rw [HL.out] at hls
      by_cases hlt : farOf L' j < farOf L' p
      · rw [decide_eq_true hlt] at hls
        have HLS := Aside0.mk hls
        have HLT := Aside0.mk hlt
        clear hls hR hlt
        go_wp2_with (first | (go_at_call 78; refine Aside0.out ?_) | fail)
        refine Aside0.mk ?_
        refine HLS.out.mono ?_
        rintro e w1 ⟨rfl, hb1⟩
        have HH1 := Aside0.mk (HH.out.below hb1)
        have HG1 := Aside0.mk (HG.out.trans (grown_below hb1 _))
        clear hb1 HLS hc4
        have hc4 : w1.cell? ⟨g, 4, none⟩ = some (.slice (some ⟨b, 0, none⟩) n c) := blk_cell HH1.out.blk 4
        have hR1 : Kd.R kW 87 w1 n₀ (fun _ => True) (.slice (some ⟨b, 0, none⟩) L'.length c) L' := by rw [HL.out]; exact HH1.out.row
        have hsw := swap_calls hR1 p j (by rw [HL.out]; omega) (by rw [HL.out]; exact hjn) (by rw [HL.out]; omega)
        rw [HL.out] at hsw
        have HSW := Aside0.mk hsw
        clear hsw hR1
        go_wp2_with (first | (go_at_call 79; refine Aside0.out ?_) | fail)
        refine Aside0.mk ?_
        refine HSW.out.mono ?_
        rintro e w2 ⟨rfl, hr2, hg2⟩
        have hH1 : HS w1 n₀ g q0 q1 q2 q3 M (.slice (some ⟨b, 0, none⟩) L'.length c) L' := by rw [HL.out]; exact HH1.out
        have hH2 := hH1.grown (by rw [HL.out]; exact hr2) hg2
        rw [HL.out] at hH2
        have HH2 := Aside0.mk hH2
        have HG2 := Aside0.mk (HG1.out.trans hg2)
        have HU2 := Aside0.mk (up_step (by rw [HL.out]; exact hjn) hjp HU.out (by rw [← HPE.out]; exact HLT.out))
        have HP2 := Aside0.mk ((swap_perm L' p j (by rw [HL.out]; omega) (by rw [HL.out]; exact hjn)).trans HP.out)
        clear hr2 hg2 hH1 hH2 hc4 HSW
        go_wp2_with fail
        go_roundw
        case rel => exact ⟨p, swapL L' p j, rfl, by omega, ⟨by rw [swapL_length]; exact HL.out⟩, HH2, HG2, HP2, ⟨by rw [HPE.out]; exact HU2.out⟩⟩
        case measure => simp [intOf]; omega
      · rw [decide_eq_false hlt] at hls
        have HLS := Aside0.mk hls
        have HLT := Aside0.mk hlt
        clear hls hR hlt
        go_wp2_with (first | (go_at_call 78; refine Aside0.out ?_) | fail)
        refine Aside0.mk ?_
        refine HLS.out.mono ?_
        rintro e w1 ⟨rfl, hb1⟩
        have HH1 := Aside0.mk (HH.out.below hb1)
        have HG1 := Aside0.mk (HG.out.trans (grown_below hb1 _))
        clear hb1 HLS hc4
        go_wp2_with fail
        refine bodyPost_end (results_none rfl _ _ _) rfl ?_
        exact ⟨by simp, L', HL.out, HH1.out, HG1.out, HP.out, by rw [← HL.out]; exact up_stop HU.out (.inr (by rw [← HPE.out]; have := HLT.out; omega))⟩
end Go.Proofs.YteileaajmnbmpaaDoor.P
-- YteileaajmnbmpaaDoorPDHeap3
namespace Go.Proofs.YteileaajmnbmpaaDoor.P
open Go Go.Proofs Go.RowKit Go.Proofs.YteileaajmnbmpaaDoorW.PrintWords Go.Proofs.YteileaajmnbmpaaDoorW.PrintLast Go.Proofs.YteileaajmnbmpaaDoorW.PrintMore
set_option linter.unusedVariables false
set_option linter.unusedSimpArgs false

variable {w : World} {n₀ g : Nat} {q0 q1 q2 q3 : Int} {M v : Value} {L : List Wy}
theorem swap_out (L : List Wy) (i j n : Nat) (hi : i ≠ n) (hj : j ≠ n) : farOf (swapL L i j) n = farOf L n ∧ (swapL L i j).getD n (0, 0, 0) = L.getD n (0, 0, 0) := by
  have e : (swapL L i j).getD n (0, 0, 0) = L.getD n (0, 0, 0) := by
    unfold swapL
    rw [List.getD_eq_getElem?_getD, List.getElem?_set_ne hj, List.getElem?_set_ne hi, List.getD_eq_getElem?_getD]
  exact ⟨by unfold farOf; rw [e], e⟩
set_option maxRecDepth 100000 in
set_option maxHeartbeats 4000000 in
theorem down_calls {b c n : Nat} (h : HS w n₀ g q0 q1 q2 q3 M (.slice (some ⟨b, 0, none⟩) L.length c) L) (hn : n < L.length) (hl : L.length ≤ 2000) (hD : DnI L n 0) :
    Calls Tryd.prog 52 #[.iface 90 (.pointer (some ⟨g, 4, none⟩)), .int .i64 0, .int .i64 (n : Int)] w fun e w' =>
      ∃ bv, e = .returned (.bool bv) ∧ ∃ L', L'.length = L.length ∧ HS w' n₀ g q0 q1 q2 q3 M (.slice (some ⟨b, 0, none⟩) L.length c) L' ∧ w.grownBy w' (some b) ∧ L'.Perm L ∧ HeapN L' n ∧ L'.getD n (0, 0, 0) = L.getD n (0, 0, 0) := by
  have mL := mLess g
  have eL := eLess
  have eS := eSwap
  have mS := mSwap g
  have HH := Aside0.mk h
  have HD := Aside0.mk hD
  obtain ⟨N, hN⟩ : ∃ N, N = L.length := ⟨_, rfl⟩
  have HN := Aside0.mk hN
  have hnN : n < N := by omega
  have hN2 : N ≤ 2000 := by omega
  rw [← hN]
  rw [← hN] at HH
  clear h hD hN hn hl
  go_enter Tryd.func52, Tryd.ntmps52
  go_wp2_with fail
  go_loopw [7] (fun v7 wr => ∃ (i : Nat) (L' : List Wy), v7 = .int .i64 (i : Int) ∧ i ≤ n ∧ Aside0 (L'.length = N) ∧ Aside0 (HS wr n₀ g q0 q1 q2 q3 M (.slice (some ⟨b, 0, none⟩) N c) L') ∧ Aside0 (w.grownBy wr (some b)) ∧ Aside0 (L'.Perm L) ∧ Aside0 (DnI L' n i) ∧ Aside0 (L'.getD n (0, 0, 0) = L.getD n (0, 0, 0))) (fun v7 _ => n - (intOf v7).toNat)
  case atStart => exact ⟨0, L, rfl, by omega, ⟨HN.out.symm⟩, HH, ⟨grown_below (Below.refl _ _) _⟩, ⟨List.Perm.refl _⟩, HD, ⟨rfl⟩⟩
  case round =>
    clear HH HD
    obtain ⟨i, L', rfl, hin, HL, HH, HG, HP, HD, HK⟩ := hrel
    have hc4 : wr.cell? ⟨g, 4, none⟩ = some (.slice (some ⟨b, 0, none⟩) N c) := blk_cell HH.out.blk 4
    by_cases hc1 : 2 * i + 1 < n
    · have hd1 : decide ((n : Int) ≤ 2 * (i : Int) + 1) = false := decide_eq_false (by omega)
      have hib : (i : Int) < 2000 := by omega
      obtain ⟨j1, hj1⟩ : ∃ j1 : Nat, j1 = 2 * i + 1 := ⟨_, rfl⟩
      obtain ⟨j2, hj2⟩ : ∃ j2 : Nat, j2 = 2 * i + 2 := ⟨_, rfl⟩
      have he1 : 2 * (i : Int) + 1 = (j1 : Int) := by omega
      have he2 : (j1 : Int) + 1 = (j2 : Int) := by omega
      have hj1b : (j1 : Int) < (n : Int) := by omega
      have hj2b : (j2 : Int) ≤ (n : Int) := by omega
      have hnb : (n : Int) < 2000 := by omega
      have HJ := Aside0.mk (And.intro hj1 hj2)
      obtain ⟨ch, hch⟩ : ∃ ch, ch = chld L' n i := ⟨_, rfl⟩
      have HCH := Aside0.mk hch
      by_cases hc2 : 2 * i + 2 < n
      · have hd2 : decide ((j2 : Int) < (n : Int)) = true := decide_eq_true (by omega)
        have hR : Kd.R kW 87 wr n₀ (fun _ => True) (.slice (some ⟨b, 0, none⟩) L'.length c) L' := by rw [HL.out]; exact HH.out.row
        have hls := less_calls hR j2 j1 (by rw [HL.out]; omega) (by rw [HL.out]; omega) (by rw [HL.out]; omega)
        rw [HL.out] at hls
        by_cases hlt : farOf L' j2 < farOf L' j1
        · rw [decide_eq_true hlt] at hls
          have hce : ch = j2 := by rw [hch]; unfold chld; rw [if_pos ⟨hc2, by rw [← hj1, ← hj2]; exact hlt⟩, hj2]
          have HLS := Aside0.mk hls
          clear hls hR hlt hch hj1 hj2
          subst hce
          go_wp2_with (first | (go_at_call 78; refine Aside0.out ?_) | fail)
          refine Aside0.mk ?_
          refine HLS.out.mono ?_
          rintro e w1 ⟨rfl, hb1⟩
          have HH1 := Aside0.mk (HH.out.below hb1)
          have HG1 := Aside0.mk (HG.out.trans (grown_below hb1 _))
          clear hb1 HLS hc4
          have hc4 : w1.cell? ⟨g, 4, none⟩ = some (.slice (some ⟨b, 0, none⟩) N c) := blk_cell HH1.out.blk 4
          have hR : Kd.R kW 87 w1 n₀ (fun _ => True) (.slice (some ⟨b, 0, none⟩) L'.length c) L' := by rw [HL.out]; exact HH1.out.row
          have hls := less_calls hR ch i (by rw [HL.out]; omega) (by rw [HL.out]; omega) (by rw [HL.out]; omega)
          rw [HL.out] at hls
          by_cases hlt : farOf L' ch < farOf L' i
          · rw [decide_eq_true hlt] at hls
            have HLS := Aside0.mk hls
            have HLT := Aside0.mk hlt
            clear hls hR hlt
            go_wp2_with (first | (go_at_call 78; refine Aside0.out ?_) | fail)
            refine Aside0.mk ?_
            refine HLS.out.mono ?_
            rintro e w5 ⟨rfl, hb1⟩
            have HH5 := Aside0.mk (HH1.out.below hb1)
            have HG5 := Aside0.mk (HG1.out.trans (grown_below hb1 _))
            clear hb1 HLS hc4
            have hc4 : w5.cell? ⟨g, 4, none⟩ = some (.slice (some ⟨b, 0, none⟩) N c) := blk_cell HH5.out.blk 4
            have hR1 : Kd.R kW 87 w5 n₀ (fun _ => True) (.slice (some ⟨b, 0, none⟩) L'.length c) L' := by rw [HL.out]; exact HH5.out.row
            have hsw := swap_calls hR1 i ch (by rw [HL.out]; omega) (by rw [HL.out]; omega) (by rw [HL.out]; omega)
            rw [HL.out] at hsw
            have HSW := Aside0.mk hsw
            clear hsw hR1
            go_wp2_with (first | (go_at_call 79; refine Aside0.out ?_) | fail)
            refine Aside0.mk ?_
            refine HSW.out.mono ?_
            rintro e w6 ⟨rfl, hr2, hg2⟩
            have hH1 : HS w5 n₀ g q0 q1 q2 q3 M (.slice (some ⟨b, 0, none⟩) L'.length c) L' := by rw [HL.out]; exact HH5.out
            have hH2 := hH1.grown (by rw [HL.out]; exact hr2) hg2
            rw [HL.out] at hH2
            have HH6 := Aside0.mk hH2
            have HG6 := Aside0.mk (HG5.out.trans hg2)
            have HD6 := Aside0.mk (dn_step (by rw [HL.out]; omega) hc1 HD.out (by rw [← HCH.out]; exact HLT.out))
            have HP6 := Aside0.mk ((swap_perm L' i ch (by rw [HL.out]; omega) (by rw [HL.out]; omega)).trans HP.out)
            have HK6 := Aside0.mk (show farOf (swapL L' i ch) n = farOf L' n ∧ (swapL L' i ch).getD n (0, 0, 0) = L'.getD n (0, 0, 0) from swap_out L' i ch n (by omega) (by omega))
            clear hr2 hg2 hH1 hH2 hc4 HSW
            go_wp2_with fail
            go_roundw
            case rel => exact ⟨ch, swapL L' i ch, rfl, by omega, ⟨by rw [swapL_length]; exact HL.out⟩, HH6, HG6, HP6, ⟨by rw [HCH.out]; rw [← HCH.out] at HD6 ⊢; exact HD6.out⟩, ⟨HK6.out.2.trans HK.out⟩⟩
            case measure => simp [intOf]; omega
          · rw [decide_eq_false hlt] at hls
            have HLS := Aside0.mk hls
            have HLT := Aside0.mk hlt
            clear hls hR hlt
            go_wp2_with (first | (go_at_call 78; refine Aside0.out ?_) | fail)
            refine Aside0.mk ?_
            refine HLS.out.mono ?_
            rintro e w5 ⟨rfl, hb1⟩
            have HH5 := Aside0.mk (HH1.out.below hb1)
            have HG5 := Aside0.mk (HG1.out.trans (grown_below hb1 _))
            clear hb1 HLS hc4
            have hc4 : w5.cell? ⟨g, 4, none⟩ = some (.slice (some ⟨b, 0, none⟩) N c) := blk_cell HH5.out.blk 4
            go_wp2_with fail
            go_ret
            exact ⟨_, rfl, L', HL.out, HH5.out, HG5.out, HP.out, dn_stop HD.out (fun k k0 kl kp => Int.le_trans (by rw [← HCH.out]; have := HLT.out; omega) (chld_le k0 kl kp)), HK.out⟩
        · rw [decide_eq_false hlt] at hls
          have hce : ch = j1 := by rw [hch]; unfold chld; rw [if_neg (fun q => hlt (by rw [hj1, hj2]; exact q.2)), hj1]
          have HLS := Aside0.mk hls
          clear hls hR hlt hch hj1 hj2
          subst hce
          go_wp2_with (first | (go_at_call 78; refine Aside0.out ?_) | fail)
          refine Aside0.mk ?_
          refine HLS.out.mono ?_
          rintro e w1 ⟨rfl, hb1⟩
          have HH1 := Aside0.mk (HH.out.below hb1)
          have HG1 := Aside0.mk (HG.out.trans (grown_below hb1 _))
          clear hb1 HLS hc4
          have hc4 : w1.cell? ⟨g, 4, none⟩ = some (.slice (some ⟨b, 0, none⟩) N c) := blk_cell HH1.out.blk 4
          have hR : Kd.R kW 87 w1 n₀ (fun _ => True) (.slice (some ⟨b, 0, none⟩) L'.length c) L' := by rw [HL.out]; exact HH1.out.row
          have hls := less_calls hR ch i (by rw [HL.out]; omega) (by rw [HL.out]; omega) (by rw [HL.out]; omega)
          rw [HL.out] at hls
          by_cases hlt : farOf L' ch < farOf L' i
          · rw [decide_eq_true hlt] at hls
            have HLS := Aside0.mk hls
            have HLT := Aside0.mk hlt
            clear hls hR hlt
            go_wp2_with (first | (go_at_call 78; refine Aside0.out ?_) | fail)
            refine Aside0.mk ?_
            refine HLS.out.mono ?_
            rintro e w5 ⟨rfl, hb1⟩
            have HH5 := Aside0.mk (HH1.out.below hb1)
            have HG5 := Aside0.mk (HG1.out.trans (grown_below hb1 _))
            clear hb1 HLS hc4
            have hc4 : w5.cell? ⟨g, 4, none⟩ = some (.slice (some ⟨b, 0, none⟩) N c) := blk_cell HH5.out.blk 4
            have hR1 : Kd.R kW 87 w5 n₀ (fun _ => True) (.slice (some ⟨b, 0, none⟩) L'.length c) L' := by rw [HL.out]; exact HH5.out.row
            have hsw := swap_calls hR1 i ch (by rw [HL.out]; omega) (by rw [HL.out]; omega) (by rw [HL.out]; omega)
            rw [HL.out] at hsw
            have HSW := Aside0.mk hsw
            clear hsw hR1
            go_wp2_with (first | (go_at_call 79; refine Aside0.out ?_) | fail)
            refine Aside0.mk ?_
            refine HSW.out.mono ?_
            rintro e w6 ⟨rfl, hr2, hg2⟩
            have hH1 : HS w5 n₀ g q0 q1 q2 q3 M (.slice (some ⟨b, 0, none⟩) L'.length c) L' := by rw [HL.out]; exact HH5.out
            have hH2 := hH1.grown (by rw [HL.out]; exact hr2) hg2
            rw [HL.out] at hH2
            have HH6 := Aside0.mk hH2
            have HG6 := Aside0.mk (HG5.out.trans hg2)
            have HD6 := Aside0.mk (dn_step (by rw [HL.out]; omega) hc1 HD.out (by rw [← HCH.out]; exact HLT.out))
            have HP6 := Aside0.mk ((swap_perm L' i ch (by rw [HL.out]; omega) (by rw [HL.out]; omega)).trans HP.out)
            have HK6 := Aside0.mk (show farOf (swapL L' i ch) n = farOf L' n ∧ (swapL L' i ch).getD n (0, 0, 0) = L'.getD n (0, 0, 0) from swap_out L' i ch n (by omega) (by omega))
            clear hr2 hg2 hH1 hH2 hc4 HSW
            go_wp2_with fail
            go_roundw
            case rel => exact ⟨ch, swapL L' i ch, rfl, by omega, ⟨by rw [swapL_length]; exact HL.out⟩, HH6, HG6, HP6, ⟨by rw [HCH.out]; rw [← HCH.out] at HD6 ⊢; exact HD6.out⟩, ⟨HK6.out.2.trans HK.out⟩⟩
            case measure => simp [intOf]; omega
          · rw [decide_eq_false hlt] at hls
            have HLS := Aside0.mk hls
            have HLT := Aside0.mk hlt
            clear hls hR hlt
            go_wp2_with (first | (go_at_call 78; refine Aside0.out ?_) | fail)
            refine Aside0.mk ?_
            refine HLS.out.mono ?_
            rintro e w5 ⟨rfl, hb1⟩
            have HH5 := Aside0.mk (HH1.out.below hb1)
            have HG5 := Aside0.mk (HG1.out.trans (grown_below hb1 _))
            clear hb1 HLS hc4
            have hc4 : w5.cell? ⟨g, 4, none⟩ = some (.slice (some ⟨b, 0, none⟩) N c) := blk_cell HH5.out.blk 4
            go_wp2_with fail
            go_ret
            exact ⟨_, rfl, L', HL.out, HH5.out, HG5.out, HP.out, dn_stop HD.out (fun k k0 kl kp => Int.le_trans (by rw [← HCH.out]; have := HLT.out; omega) (chld_le k0 kl kp)), HK.out⟩
      · have hd2 : decide ((j2 : Int) < (n : Int)) = false := decide_eq_false (by omega)
        have hce : ch = j1 := by rw [hch]; unfold chld; rw [if_neg (fun q => hc2 q.1), hj1]
        clear hch hj1 hj2
        subst hce
        have hR : Kd.R kW 87 wr n₀ (fun _ => True) (.slice (some ⟨b, 0, none⟩) L'.length c) L' := by rw [HL.out]; exact HH.out.row
        have hls := less_calls hR ch i (by rw [HL.out]; omega) (by rw [HL.out]; omega) (by rw [HL.out]; omega)
        rw [HL.out] at hls
        by_cases hlt : farOf L' ch < farOf L' i
        · rw [decide_eq_true hlt] at hls
          have HLS := Aside0.mk hls
          have HLT := Aside0.mk hlt
          clear hls hR hlt
          go_wp2_with (first | (go_at_call 78; refine Aside0.out ?_) | fail)
          refine Aside0.mk ?_
          refine HLS.out.mono ?_
          rintro e w5 ⟨rfl, hb1⟩
          have HH5 := Aside0.mk (HH.out.below hb1)
          have HG5 := Aside0.mk (HG.out.trans (grown_below hb1 _))
          clear hb1 HLS hc4
          have hc4 : w5.cell? ⟨g, 4, none⟩ = some (.slice (some ⟨b, 0, none⟩) N c) := blk_cell HH5.out.blk 4
          have hR1 : Kd.R kW 87 w5 n₀ (fun _ => True) (.slice (some ⟨b, 0, none⟩) L'.length c) L' := by rw [HL.out]; exact HH5.out.row
          have hsw := swap_calls hR1 i ch (by rw [HL.out]; omega) (by rw [HL.out]; omega) (by rw [HL.out]; omega)
          rw [HL.out] at hsw
          have HSW := Aside0.mk hsw
          clear hsw hR1
          go_wp2_with (first | (go_at_call 79; refine Aside0.out ?_) | fail)
          refine Aside0.mk ?_
          refine HSW.out.mono ?_
          rintro e w6 ⟨rfl, hr2, hg2⟩
          have hH1 : HS w5 n₀ g q0 q1 q2 q3 M (.slice (some ⟨b, 0, none⟩) L'.length c) L' := by rw [HL.out]; exact HH5.out
          have hH2 := hH1.grown (by rw [HL.out]; exact hr2) hg2
          rw [HL.out] at hH2
          have HH6 := Aside0.mk hH2
          have HG6 := Aside0.mk (HG5.out.trans hg2)
          have HD6 := Aside0.mk (dn_step (by rw [HL.out]; omega) hc1 HD.out (by rw [← HCH.out]; exact HLT.out))
          have HP6 := Aside0.mk ((swap_perm L' i ch (by rw [HL.out]; omega) (by rw [HL.out]; omega)).trans HP.out)
          have HK6 := Aside0.mk (show farOf (swapL L' i ch) n = farOf L' n ∧ (swapL L' i ch).getD n (0, 0, 0) = L'.getD n (0, 0, 0) from swap_out L' i ch n (by omega) (by omega))
          clear hr2 hg2 hH1 hH2 hc4 HSW
          go_wp2_with fail
          go_roundw
          case rel => exact ⟨ch, swapL L' i ch, rfl, by omega, ⟨by rw [swapL_length]; exact HL.out⟩, HH6, HG6, HP6, ⟨by rw [HCH.out]; rw [← HCH.out] at HD6 ⊢; exact HD6.out⟩, ⟨HK6.out.2.trans HK.out⟩⟩
          case measure => simp [intOf]; omega
        · rw [decide_eq_false hlt] at hls
          have HLS := Aside0.mk hls
          have HLT := Aside0.mk hlt
          clear hls hR hlt
          go_wp2_with (first | (go_at_call 78; refine Aside0.out ?_) | fail)
          refine Aside0.mk ?_
          refine HLS.out.mono ?_
          rintro e w5 ⟨rfl, hb1⟩
          have HH5 := Aside0.mk (HH.out.below hb1)
          have HG5 := Aside0.mk (HG.out.trans (grown_below hb1 _))
          clear hb1 HLS hc4
          have hc4 : w5.cell? ⟨g, 4, none⟩ = some (.slice (some ⟨b, 0, none⟩) N c) := blk_cell HH5.out.blk 4
          go_wp2_with fail
          go_ret
          exact ⟨_, rfl, L', HL.out, HH5.out, HG5.out, HP.out, dn_stop HD.out (fun k k0 kl kp => Int.le_trans (by rw [← HCH.out]; have := HLT.out; omega) (chld_le k0 kl kp)), HK.out⟩
    · have hd1 : decide ((n : Int) ≤ 2 * (i : Int) + 1) = true := decide_eq_true (by omega)
      go_wp2_with fail
      go_ret
      exact ⟨_, rfl, L', HL.out, HH.out, HG.out, HP.out, dn_stop HD.out (fun k k0 kl kp => by omega), HK.out⟩
end Go.Proofs.YteileaajmnbmpaaDoor.P
-- YteileaajmnbmpaaDoorPDHeap4
namespace Go.Proofs.YteileaajmnbmpaaDoor.P
open Go Go.Proofs Go.RowKit Go.Proofs.YteileaajmnbmpaaDoorW.PrintWords Go.Proofs.YteileaajmnbmpaaDoorW.PrintLast Go.Proofs.YteileaajmnbmpaaDoorW.PrintMore
set_option linter.unusedVariables false
set_option linter.unusedSimpArgs false

variable {w : World} {n₀ g : Nat} {q0 q1 q2 q3 : Int} {M v : Value} {L : List Wy}
theorem Fr.of_grown {g b : Nat} {v : Value} {w w' : World} (h : w.grownBy w' (some b)) (hv : v.ownBlock = some b) : Fr g v w w' := ⟨h.os, h.tape, h.output, h.size, fun k hk _ hkv => h.block k hk (by rw [← hv]; exact hkv)⟩
theorem mPush' (g : Nat) (w : World) : (method 243 90 (.pointer (some ⟨g, 4, none⟩)) "Push").run Tryd.prog w = .ok (81, .pointer (some ⟨g, 4, none⟩)) w := mPush g w
set_option maxRecDepth 100000 in
set_option maxHeartbeats 4000000 in
theorem hpush_calls (h : HS w n₀ g q0 q1 q2 q3 M v L) (hh : HeapN L L.length) (x0 x1 x2 : Int) (hl : L.length < 2000) :
    Calls Tryd.prog 50 #[.iface 90 (.pointer (some ⟨g, 4, none⟩)), .iface 87 (.agg #[.int .i64 x0, .int .i64 x1, .int .i64 x2])] w fun e w' =>
      e = .returned (.tuple #[]) ∧ ∃ v' L', HS w' n₀ g q0 q1 q2 q3 M v' L' ∧ Fr g v w w' ∧ Newer w v v' ∧ L'.Perm (L ++ [(x0, x1, x2)]) ∧ HeapN L' L'.length := by
  have mL := mLen g
  have eL := eLen
  have eP := eEnter
  have mP := mPush g
  have HPU := Aside0.mk (push_calls h x0 x1 x2 (by omega))
  have HUP := Aside0.mk (push_start (x0, x1, x2) hh)
  have HLN := Aside0.mk hl
  clear h hh hl
  go_enter Tryd.func50, Tryd.ntmps50
  go_wp2_with (first | (go_at_call 81; refine Aside0.out ?_) | fail)
  refine Aside0.mk ?_
  refine HPU.out.mono ?_
  rintro e w1 ⟨rfl, v1, hH1, hF1, hN1⟩
  obtain ⟨b, c, e1⟩ := ways_blk hH1.row (by simp)
  subst e1
  have hlen : (L ++ [(x0, x1, x2)]).length = L.length + 1 := by simp
  have hup := up_calls hH1 L.length (by omega) (by have := HLN.out; omega) HUP.out
  obtain ⟨L1, hL1⟩ : ∃ L1, L1 = L ++ [(x0, x1, x2)] := ⟨_, rfl⟩
  rw [← hL1] at hup hH1 hN1 hlen
  obtain ⟨n, hn⟩ : ∃ n, n = L.length := ⟨_, rfl⟩
  rw [← hn] at hup hlen
  obtain ⟨N, hN⟩ : ∃ N, N = L1.length := ⟨_, rfl⟩
  have hsub : (N : Int) - 1 = (n : Int) := by omega
  have hNb : (N : Int) ≤ 2000 := by have := HLN.out; omega
  rw [← hN] at hup hH1 hN1
  have hc4 : w1.cell? ⟨g, 4, none⟩ = some (.slice (some ⟨b, 0, none⟩) N c) := blk_cell hH1.blk 4
  have H1 := Aside0.mk (And.intro hF1 (And.intro hN1 (And.intro hL1 hN)))
  have HUPC := Aside0.mk hup
  clear hH1 hF1 hN1 hL1 hn hN hlen hup HPU HUP
  go_wp2_with (first
    | (go_at_call 77; refine (len_calls _ _ _ _).mono ?_; rintro e w2 ⟨rfl, rfl⟩)
    | (go_at_call 56; refine Aside0.out ?_)
    | fail)
  refine Aside0.mk ?_
  refine HUPC.out.mono ?_
  rintro e w2 ⟨rfl, L2, hl2, hH2, hg2, hp2, hh2⟩
  have H2 := Aside0.mk (And.intro hH2 (And.intro hg2 (And.intro hp2 (And.intro hh2 hl2))))
  clear hH2 hg2 hp2 hh2 hl2 HUPC hc4
  go_wp2_with fail
  refine bodyPost_end (results_none rfl _ _ _) rfl ?_
  obtain ⟨hH2, hg2, hp2, hh2, hl2⟩ := H2.out
  obtain ⟨hF1, hN1, hL1, hN⟩ := H1.out
  exact ⟨by simp, _, L2, hH2, hF1.trans hN1 (Fr.of_grown hg2 rfl), hN1, by rw [← hL1]; exact hp2, by rw [hl2]; exact hh2⟩
end Go.Proofs.YteileaajmnbmpaaDoor.P
-- YteileaajmnbmpaaDoorPDHeap5
namespace Go.Proofs.YteileaajmnbmpaaDoor.P
open Go Go.Proofs Go.RowKit Go.Proofs.YteileaajmnbmpaaDoorW.PrintWords Go.Proofs.YteileaajmnbmpaaDoorW.PrintLast Go.Proofs.YteileaajmnbmpaaDoorW.PrintMore
set_option linter.unusedVariables false
set_option linter.unusedSimpArgs false

variable {w : World} {n₀ g : Nat} {q0 q1 q2 q3 : Int} {M v : Value} {L : List Wy}
theorem take_getD (L : List Wy) (n k : Nat) (h : k < n) : (L.take n).getD k (0, 0, 0) = L.getD k (0, 0, 0) := by
  rw [List.getD_eq_getElem?_getD, List.getElem?_take_of_lt h, List.getD_eq_getElem?_getD]
/-- What is left behind the root. -/
theorem pop_plain {L L2 : List Wy} {n : Nat} (hn : L.length = n + 1) (h2 : L2.length = n + 1) (hp : L2.Perm (swapL L 0 n)) (hh : HeapN L2 n) (hl : L2.getD n (0, 0, 0) = (swapL L 0 n).getD n (0, 0, 0)) :
    ∃ L3, L2 = L3 ++ [L.getD 0 (0, 0, 0)] ∧ L3.length = n ∧ (L.getD 0 (0, 0, 0) :: L3).Perm L ∧ HeapN L3 L3.length := by
  have hx : (swapL L 0 n).getD n (0, 0, 0) = L.getD 0 (0, 0, 0) := by
    unfold swapL
    rw [List.getD_eq_getElem?_getD, List.getElem?_set_self (by rw [List.length_set]; omega)]; rfl
  have e : L2 = L2.take n ++ [L.getD 0 (0, 0, 0)] := by
    rw [← hx, ← hl, getD_at L2 n (by omega), ← List.take_succ_eq_append_getElem (by omega), List.take_of_length_le (by omega)]
  have hlt : (L2.take n).length = n := by rw [List.length_take]; omega
  refine ⟨L2.take n, e, hlt, ?_, ?_⟩
  · have h3 := hp.trans (swap_perm L 0 n (by omega) (by omega))
    rw [e] at h3
    exact (List.perm_append_comm (l₁ := [L.getD 0 (0, 0, 0)]) (l₂ := L2.take n)).trans h3
  · rw [hlt]
    intro k k0 kn
    have h4 := hh k k0 kn
    unfold farOf at *
    rw [take_getD L2 n k kn, take_getD L2 n _ (by omega)]
    exact h4
theorem mPop' (g : Nat) (w : World) : (method 243 90 (.pointer (some ⟨g, 4, none⟩)) "Pop").run Tryd.prog w = .ok (80, .pointer (some ⟨g, 4, none⟩)) w := mPop g w
set_option maxRecDepth 100000 in
set_option maxHeartbeats 4000000 in
theorem hpop_calls (h : HS w n₀ g q0 q1 q2 q3 M v L) (hh : HeapN L L.length) (h0 : 0 < L.length) (hl : L.length ≤ 2000) :
    Calls Tryd.prog 40 #[.iface 90 (.pointer (some ⟨g, 4, none⟩))] w fun e w' =>
      e = .returned (.iface 87 (.agg #[.int .i64 (L.getD 0 (0, 0, 0)).1, .int .i64 (L.getD 0 (0, 0, 0)).2.1, .int .i64 (L.getD 0 (0, 0, 0)).2.2])) ∧ ∃ v' L', HS w' n₀ g q0 q1 q2 q3 M v' L' ∧ Fr g v w w' ∧ Newer w v v' ∧ (L.getD 0 (0, 0, 0) :: L').Perm L ∧ HeapN L' L'.length := by
  have mL := mLen g
  have eL := eLen
  have mS := mSwap g
  have eS := eSwap
  have mP := mPop g
  have eP := ePop
  obtain ⟨x, hx⟩ : ∃ x, x = L.getD 0 (0, 0, 0) := ⟨_, rfl⟩
  rw [← hx]
  have HX := Aside0.mk hx
  clear hx
  obtain ⟨b, c, e1⟩ := ways_blk h.row h0
  subst e1
  obtain ⟨n, hn⟩ : ∃ n, L.length = n + 1 := ⟨L.length - 1, by omega⟩
  have hst := pop_start hh h0
  have hn1 : L.length - 1 = n := by omega
  rw [hn1] at hst
  have HST := Aside0.mk hst
  obtain ⟨N, hN⟩ : ∃ N, N = L.length := ⟨_, rfl⟩
  have hsw := swap_calls h.row 0 n (by omega) (by omega) (by omega)
  have HH := Aside0.mk h
  have hc4 : w.cell? ⟨g, 4, none⟩ = some (.slice (some ⟨b, 0, none⟩) L.length c) := blk_cell h.blk 4
  rw [← hN] at hsw hc4
  have hsub : (N : Int) - 1 = (n : Int) := by omega
  have hNb : (N : Int) ≤ 2000 := by omega
  have hnb : (n : Int) < 2000 := by omega
  have HSW := Aside0.mk (show Calls Tryd.prog 79 #[.slice (some ⟨b, 0, none⟩) N c, .int .i64 0, .int .i64 (n : Int)] w _ from hsw)
  have HNN := Aside0.mk (And.intro hn hN)
  have hNn : N = n + 1 := by omega
  have HNn := Aside0.mk hNn
  clear h hh h0 hl hst hn1 hsw hn hN hNn
  go_enter Tryd.func40, Tryd.ntmps40
  go_wp2_with (first
    | (go_at_call 77; refine (len_calls _ _ _ _).mono ?_; rintro e w2 ⟨rfl, rfl⟩)
    | (go_at_call 79; refine Aside0.out ?_)
    | fail)
  refine Aside0.mk ?_
  refine HSW.out.mono ?_
  rintro e w1 ⟨rfl, hr1, hg1⟩
  have hH1 := HH.out.grown (L' := swapL L 0 n) (by rw [← HNN.out.2]; exact hr1) hg1
  obtain ⟨L1, hL1⟩ : ∃ L1, L1 = swapL L 0 n := ⟨_, rfl⟩
  have hl1 : L1.length = N := by rw [hL1, swapL_length]; exact HNN.out.2.symm
  rw [← hL1, ← HNN.out.2, ← hl1] at hH1
  have hdn := down_calls (n := n) hH1 (by rw [hl1]; have := HNn.out; omega) (by rw [hl1]; omega) (by rw [hL1]; exact HST.out)
  rw [hl1] at hdn hH1
  have HDN := Aside0.mk hdn
  have H1 := Aside0.mk (And.intro hH1 (And.intro hg1 (And.intro hL1 hl1)))
  clear hr1 hg1 hH1 hL1 hl1 hdn hc4 HSW HST
  go_wp2_with (first
    | (go_at_call 52; refine Aside0.out ?_)
    | fail)
  refine Aside0.mk ?_
  refine HDN.out.mono ?_
  rintro e w2 ⟨bv, rfl, L2, hl2, hH2, hg2, hp2, hh2, hk2⟩
  have hx := pop_plain (L := L) (L2 := L2) (n := n) HNN.out.1 (by rw [hl2]; exact HNn.out) (by rw [← H1.out.2.2.1]; exact hp2) hh2 (by rw [← H1.out.2.2.1]; exact hk2)
  obtain ⟨L3, e3, hl3, hp3, hh3⟩ := hx
  rw [← HX.out] at e3 hp3
  have hHH2 : HS w2 n₀ g q0 q1 q2 q3 M (.slice (some ⟨b, 0, none⟩) N c) (L3 ++ [(x.1, x.2.1, x.2.2)]) := by rw [← e3]; exact hH2
  have hpo := pop_calls x.1 x.2.1 x.2.2 hHH2 (by rw [hl3]; omega)
  have HPO := Aside0.mk hpo
  have H2 := Aside0.mk (And.intro hg2 (And.intro hp3 hh3))
  clear hl2 hH2 hg2 hp2 hh2 hk2 e3 hl3 hp3 hh3 hHH2 hpo HDN
  go_wp2_with (first
    | (go_at_call 80; refine Aside0.out ?_)
    | fail)
  refine Aside0.mk ?_
  refine HPO.out.mono ?_
  rintro e w3 ⟨rfl, v3, hH3, hF3, hN3⟩
  have H3 := Aside0.mk (And.intro hH3 (And.intro hF3 hN3))
  clear hH3 hF3 hN3 HPO
  go_wp2_with fail
  go_ret
  obtain ⟨hH3, hF3, hN3⟩ := H3.out
  have hg12 := H1.out.2.1.trans H2.out.1
  have hf : Fr g (.slice (some ⟨b, 0, none⟩) L.length c) w w2 := Fr.of_grown hg12 rfl
  have hsz := hg12.size
  rw [HNN.out.2] at hF3 hN3
  exact ⟨by simp, v3, L3, hH3, hf.seq hF3, (Newer.refl w _).trans hsz hN3, H2.out.2.1, H2.out.2.2⟩
end Go.Proofs.YteileaajmnbmpaaDoor.P
namespace Go.Proofs.YteileaajmnbmpaaDoor.P
open Go Go.Proofs Go.RowKit Go.Proofs.YteileaajmnbmpaaDoorW.PrintWords Go.Proofs.YteileaajmnbmpaaDoorW.PrintLast Go.Proofs.YteileaajmnbmpaaDoorW.PrintMore
set_option linter.unusedVariables false
set_option linter.unusedSimpArgs false
-- YteileaajmnbmpaaDoorPDMap
def plK (p : Int × Int) : Value := .agg #[.int .i64 p.1, .int .i64 p.2]
/-- The map in block m holds just these places. -/
def MapIs (w : World) (m : Nat) (ps : List (Int × Int)) : Prop := ∃ es clock, w.heap[m]? = some (.map es clock) ∧ es.toList.map (fun e => (e.key, e.val)) = ps.map fun p => (plK p, Value.bool true)
theorem u68 (w : World) : (underlying 61).run Tryd.prog w = .ok (.map 85 4) w := by kernel_rfl
theorem f86 : ((Tryd.prog.fieldsOf 85).toList.map fun f => (f.name == "_", f.type, f.offset)) = [(false, 3, 0), (false, 3, 1)] := by kernel_rfl
theorem part0 (a b : Value) (w : World) : (part 3 #[a, b] 0).run Tryd.prog w = .ok a w := by kernel_rfl
theorem part1 (a b : Value) (w : World) : (part 3 #[a, b] 1).run Tryd.prog w = .ok b w := by kernel_rfl
theorem eqFs (d : Nat) (a b c e : Int) (w : World) : ∀ l : List Field, (l.map fun f => (f.name == "_", f.type, f.offset)) = [(false, 3, 0), (false, 3, 1)] →
    (Op.eqFields (d + 1) #[.int .i64 a, .int .i64 b] #[.int .i64 c, .int .i64 e] l).run Tryd.prog w = .ok (a == c && b == e) w
  | [f, f'], h => by
    simp only [List.map_cons, List.map_nil, List.cons.injEq, Prod.mk.injEq, and_true] at h
    obtain ⟨⟨h1, h2, h3⟩, h4, h5, h6⟩ := h
    have n1 : f.name ≠ "_" := by simpa using h1
    have n2 : f'.name ≠ "_" := by simpa using h4
    have e1 := run_equalIn_int (P := Tryd.prog) w d 3 .i64 .i64 a c Tryd.underlying3
    have e2 := run_equalIn_int (P := Tryd.prog) w d 3 .i64 .i64 b e Tryd.underlying3
    simp only [Op.eqFields]
    rw [if_pos n1, if_pos n2, h2, h3, h5, h6]
    simp only [Sem.run_bind, part0, part1, Result.andThen_ok, e1, e2]
    cases hac : (a == c) with
    | true =>
      simp only [Bool.not_true, Bool.false_eq_true, if_false, Sem.run_bind, part1, Result.andThen_ok, e2, Bool.true_and]
      cases hbe : (b == e) with
      | true => simp [Sem.run_pure]
      | false => simp [Sem.run_pure]
    | false => simp [Sem.run_pure]
  | [], h => by simp at h
  | [_], h => by simp at h
  | _ :: _ :: _ :: _, h => by simp at h
theorem eqPl (a b c d : Int) (w : World) : (Op.equal 85 (plK (a, b)) (plK (c, d))).run Tryd.prog w = .ok (a == c && b == d) w := by
  have hu : Tryd.prog.underlying 85 = some (.struct (Tryd.prog.fieldsOf 85)) := by kernel_rfl
  have hp : Tryd.prog.stoodInHeld 85 = false := by kernel_rfl
  exact (run_equalIn_agg w 9999 85 _ _ hu hp).trans (eqFs 9998 a b c d w _ f86)
theorem chk (e : Bool) (a b : Int) (w : World) : (Instr.checkKey e 10000 85 (plK (a, b))).run Tryd.prog w = .ok () w := by
  unfold plK
  kernel_rfl
theorem find_not (a b : Int) (w : World) : ∀ (es : List MapEntry) (ps : List (Int × Int)) (i : Nat), es.map (fun e => (e.key, e.val)) = ps.map (fun p => (plK p, Value.bool true)) → (a, b) ∉ ps → (Instr.findAsking 85 (plK (a, b)) es i).run Tryd.prog w = .ok none w
  | [], _, i, h, hn => by unfold Instr.findAsking; rfl
  | e :: es, [], i, h, hn => by simp at h
  | e :: es, (c, d) :: ps, i, h, hn => by
    simp only [List.map_cons, List.cons.injEq, Prod.mk.injEq] at h
    obtain ⟨⟨h1, h2⟩, h3⟩ := h
    simp only [List.mem_cons, Prod.mk.injEq, not_or] at hn
    unfold Instr.findAsking
    rw [Sem.run_bind, h1, eqPl]
    have hf : (a == c && b == d) = false := by
      cases h4 : (a == c) with
      | false => rfl
      | true =>
        cases h5 : (b == d) with
        | false => rfl
        | true => exact absurd ⟨beq_iff_eq.1 h4, beq_iff_eq.1 h5⟩ hn.1
    simp only [Result.andThen_ok, hf, Bool.false_eq_true, if_false]
    exact find_not a b w es ps (i + 1) h3 hn.2
theorem find_in (a b : Int) (w : World) : ∀ (es : List MapEntry) (ps : List (Int × Int)) (i : Nat), es.map (fun e => (e.key, e.val)) = ps.map (fun p => (plK p, Value.bool true)) → (a, b) ∈ ps → ∃ j, (Instr.findAsking 85 (plK (a, b)) es i).run Tryd.prog w = .ok (some (j, .bool true)) w
  | [], [], i, h, hn => by simp at hn
  | [], _ :: _, i, h, hn => by simp at h
  | e :: es, [], i, h, hn => by simp at h
  | e :: es, (c, d) :: ps, i, h, hn => by
    simp only [List.map_cons, List.cons.injEq, Prod.mk.injEq] at h
    obtain ⟨⟨h1, h2⟩, h3⟩ := h
    unfold Instr.findAsking
    rw [Sem.run_bind, h1, eqPl]
    cases hf : (a == c && b == d) with
    | true =>
      simp only [Result.andThen_ok, if_true, Sem.run_pure, h2]
      exact ⟨i, rfl⟩
    | false =>
      simp only [Result.andThen_ok, Bool.false_eq_true, if_false]
      have hm : (a, b) ∈ ps := by
        rcases List.mem_cons.1 hn with e | e
        · injection e with e1 e2
          subst e1; subst e2
          simp at hf
        · exact e
      exact find_in a b w es ps (i + 1) h3 hm
theorem u86 (w : World) : ∃ d, (underlying 85).run Tryd.prog w = .ok (.struct d) w := ⟨Tryd.prog.fieldsOf 85, by
  have hu : Tryd.prog.underlying 85 = some (.struct (Tryd.prog.fieldsOf 85)) := by kernel_rfl
  exact run_underlying hu w⟩
theorem now_none (d : Array Field) (p : Int × Int) (e : MapEntry) (es : List MapEntry) : Instr.findNow (.struct d) (plK p) (e :: es) 0 = none := by
  unfold Instr.findNow Instr.sameNow plK
  rfl
theorem findKey_eq (p : Int × Int) (es : List MapEntry) (w : World) : (Instr.findKey 85 (plK p) es).run Tryd.prog w = (Instr.findAsking 85 (plK p) es 0).run Tryd.prog w := by
  obtain ⟨d, hd⟩ := u86 w
  unfold Instr.findKey
  rw [Sem.run_bind, hd]
  simp only [Result.andThen_ok]
  cases es with
  | nil => rfl
  | cons e es => rw [now_none]
theorem zero4 (w : World) : (zeroValue 4).run Tryd.prog w = .ok (.bool false) w := by kernel_rfl
/-- The map is asked. -/
theorem look_run {w : World} {m : Nat} {ps : List (Int × Int)} (h : MapIs w m ps) (a b : Int) : (Instr.lookup 61 (.map (some m)) (plK (a, b)) false).run Tryd.prog w = .ok (.bool (decide ((a, b) ∈ ps))) w := by
  obtain ⟨es, clock, hb, he⟩ := h
  have hg := MapKept.run_getObj_map (P := Tryd.prog) hb
  unfold Instr.lookup
  by_cases hin : (a, b) ∈ ps
  · obtain ⟨j, hj⟩ := find_in a b w es.toList ps 0 he hin
    rw [decide_eq_true hin]
    simp [u68, hg, chk, findKey_eq, hj, Result.andThen]
  · have hj := find_not a b w es.toList ps 0 he hin
    rw [decide_eq_false hin]
    simp [u68, hg, chk, findKey_eq, hj, zero4, Result.andThen]
/-- A place that isn't there is put into it. -/
theorem put_run {w : World} {m : Nat} {ps : List (Int × Int)} (h : MapIs w m ps) (a b : Int) (hin : (a, b) ∉ ps) : ∃ o, (Instr.mapUpdate 61 (.map (some m)) (plK (a, b)) (.bool true)).run Tryd.prog w = .ok () (ChangeMaps.setBlock w m o) ∧ MapIs (ChangeMaps.setBlock w m o) m (ps ++ [(a, b)]) := by
  obtain ⟨es, clock, hb, he⟩ := h
  have hg := MapKept.run_getObj_map (P := Tryd.prog) hb
  have hj := find_not a b w es.toList ps 0 he hin
  refine ⟨.map (es.push { key := plK (a, b), val := .bool true, born := clock }) (clock + 1), ?_, _, _, ChangeMaps.heap_setBlock_same hb _, ?_⟩
  · unfold Instr.mapUpdate
    simp [u68, hg, chk, findKey_eq, hj, MapKept.run_setObj_map _ hb, Result.andThen, ChangeMaps.setBlock]
  · rw [Array.toList_push, List.map_append, he, List.map_append]
    rfl
-- YteileaajmnbmpaaDoorPDWeigh
section
attribute [local go_sem] run_index_arr
set_option maxRecDepth 100000 in
set_option maxHeartbeats 8000000 in
theorem dweigh_calls {w : World} {g : Nat} {W : Nat → Int} (hgl : g < w.heap.size) (hW : ∀ v, v < 4 → w.cell? ⟨g, v, none⟩ = some (.int .i64 (W v))) (hWb : ∀ v, v < 4 → 0 ≤ W v ∧ W v ≤ 7) (fr dt i a b c d : Int)
    (ho : ∀ s, o4 a b c d s = 0 ∨ o4 a b c d s = 1) (t : Nat) (ht : t ≤ 100000) :
    Calls Tryd.prog 51 #[.pointer (some ⟨g, 0, none⟩), .agg #[.int .i64 fr, .int .i64 dt, .int .u8 i, .int .u8 a, .int .u8 b, .int .u8 c, .int .u8 d], .int .i64 (t : Int)] w fun e w' =>
      e = .returned (.int .i64 (wsum W (o4 a b c d) t 4)) ∧ Below w.heap.size w w' := by
  have HW := Aside0.mk hW
  have HWB := Aside0.mk hWb
  have HO := Aside0.mk ho
  clear hW hWb ho
  have hba := below_alloc (Below.refl w.heap.size w) (.cells #[.int .i64 fr, .int .i64 dt, .int .u8 i, .int .u8 a, .int .u8 b, .int .u8 c, .int .u8 d] 79)
  have HBA := Aside0.mk hba
  clear hba
  go_enter Tryd.func51, Tryd.ntmps51
  go_wp2_with fail
  go_loopw [7, 14] (fun v7 v14 wr => ∃ j : Nat, v7 = .int .i64 (wsum W (o4 a b c d) t j) ∧ v14 = .int .i64 (j : Int) ∧ j ≤ 4 ∧ Aside0 (Below w.heap.size w wr)) (fun _ v14 _ => 4 - (intOf v14).toNat)
  case atStart => exact ⟨0, rfl, by simp, by omega, HBA⟩
  case round =>
    clear HBA
    obtain ⟨j, rfl, rfl, hj, HB⟩ := hrel
    have hcase : j = 0 ∨ j = 1 ∨ j = 2 ∨ j = 3 ∨ j = 4 := by omega
    rcases hcase with rfl | rfl | rfl | rfl | rfl
    · skip
      skip
      have hvf := version_f 0 t (by decide) ht
      have hc := pattern_Version.calls (0 : Int) (t : Int) _ 0 wr hvf
      have hlt4 : ((ver 0 t : Nat) : Int) < 4 := by have := ver_lt 0 t; omega
      obtain ⟨v, hv⟩ : ∃ v, v = ver 0 t := ⟨_, rfl⟩
      rw [← hv] at hc hlt4
      have hcw : wr.cell? ⟨g, v, none⟩ = some (.int .i64 (W v)) := (HB.out.cell (p := ⟨g, v, none⟩) hgl).trans (HW.out v (by omega))
      have hWv := (HWB.out v (by omega))
      have hob : o4 a b c d 0 = 0 ∨ o4 a b c d 0 = 1 := HO.out 0
      have hin := wsum_in HWB.out HO.out t 0
      have hsu : wsum W (o4 a b c d) t (0 + 1) = wsum W (o4 a b c d) t 0 + a * W v := by rw [hv]; rfl
      have hob2 : a = 0 ∨ a = 1 := hob
      obtain ⟨y, hy⟩ : ∃ y, y = W v := ⟨_, rfl⟩
      rw [← hy] at hcw hWv hsu
      obtain ⟨p, hp⟩ : ∃ p, a * y = p := ⟨_, rfl⟩
      have hpb : 0 ≤ p ∧ p ≤ 7 := by rcases hob2 with e | e <;> rw [e] at hp <;> omega
      rw [hp] at hsu
      obtain ⟨n0, hn0⟩ : ∃ n0, n0 = wsum W (o4 a b c d) t 0 := ⟨_, rfl⟩
      rw [← hn0] at hsu hin
      have hwp : wrap64 p = p := by unfold wrap64; omega
      have hwn : wrap64 (n0 + p) = n0 + p := by unfold wrap64; omega
      have hcv : IntKind.i64.wrap a = a := by rw [IntKind.wrap_i64]; omega
      have HSU := Aside0.mk hsu
      have HC := Aside0.mk hc
      rw [← hn0]
      clear hvf hc hv hy hob hin hob2 hsu hn0 hWv hpb
      go_wp2_with (first | (go_at_call 20; refine HC.out.mono ?_; rintro e w2 ⟨rfl, hd⟩; have HB2 := Aside0.mk (below_step HB.out hd.below); have hcw2 := (hd.below.cell (p := ⟨g, v, none⟩) (Nat.lt_of_lt_of_le hgl HB.out.size)).trans hcw; clear hd hcw) | fail)
      go_roundw
      case rel => exact ⟨0 + 1, by rw [HSU.out]; first | rfl | rw [hwn], by simp, by omega, HB2⟩
      case measure => simp [intOf]
    · skip
      skip
      have hvf := version_f 1 t (by decide) ht
      have hc := pattern_Version.calls (1 : Int) (t : Int) _ 0 wr hvf
      have hlt4 : ((ver 1 t : Nat) : Int) < 4 := by have := ver_lt 1 t; omega
      obtain ⟨v, hv⟩ : ∃ v, v = ver 1 t := ⟨_, rfl⟩
      rw [← hv] at hc hlt4
      have hcw : wr.cell? ⟨g, v, none⟩ = some (.int .i64 (W v)) := (HB.out.cell (p := ⟨g, v, none⟩) hgl).trans (HW.out v (by omega))
      have hWv := (HWB.out v (by omega))
      have hob : o4 a b c d 1 = 0 ∨ o4 a b c d 1 = 1 := HO.out 1
      have hin := wsum_in HWB.out HO.out t 1
      have hsu : wsum W (o4 a b c d) t (1 + 1) = wsum W (o4 a b c d) t 1 + b * W v := by rw [hv]; rfl
      have hob2 : b = 0 ∨ b = 1 := hob
      obtain ⟨y, hy⟩ : ∃ y, y = W v := ⟨_, rfl⟩
      rw [← hy] at hcw hWv hsu
      obtain ⟨p, hp⟩ : ∃ p, b * y = p := ⟨_, rfl⟩
      have hpb : 0 ≤ p ∧ p ≤ 7 := by rcases hob2 with e | e <;> rw [e] at hp <;> omega
      rw [hp] at hsu
      obtain ⟨n0, hn0⟩ : ∃ n0, n0 = wsum W (o4 a b c d) t 1 := ⟨_, rfl⟩
      rw [← hn0] at hsu hin
      have hwp : wrap64 p = p := by unfold wrap64; omega
      have hwn : wrap64 (n0 + p) = n0 + p := by unfold wrap64; omega
      have hcv : IntKind.i64.wrap b = b := by rw [IntKind.wrap_i64]; omega
      have HSU := Aside0.mk hsu
      have HC := Aside0.mk hc
      rw [← hn0]
      clear hvf hc hv hy hob hin hob2 hsu hn0 hWv hpb
      go_wp2_with (first | (go_at_call 20; refine HC.out.mono ?_; rintro e w2 ⟨rfl, hd⟩; have HB2 := Aside0.mk (below_step HB.out hd.below); have hcw2 := (hd.below.cell (p := ⟨g, v, none⟩) (Nat.lt_of_lt_of_le hgl HB.out.size)).trans hcw; clear hd hcw) | fail)
      go_roundw
      case rel => exact ⟨1 + 1, by rw [HSU.out]; first | rfl | rw [hwn], by simp, by omega, HB2⟩
      case measure => simp [intOf]
    · skip
      skip
      have hvf := version_f 2 t (by decide) ht
      have hc := pattern_Version.calls (2 : Int) (t : Int) _ 0 wr hvf
      have hlt4 : ((ver 2 t : Nat) : Int) < 4 := by have := ver_lt 2 t; omega
      obtain ⟨v, hv⟩ : ∃ v, v = ver 2 t := ⟨_, rfl⟩
      rw [← hv] at hc hlt4
      have hcw : wr.cell? ⟨g, v, none⟩ = some (.int .i64 (W v)) := (HB.out.cell (p := ⟨g, v, none⟩) hgl).trans (HW.out v (by omega))
      have hWv := (HWB.out v (by omega))
      have hob : o4 a b c d 2 = 0 ∨ o4 a b c d 2 = 1 := HO.out 2
      have hin := wsum_in HWB.out HO.out t 2
      have hsu : wsum W (o4 a b c d) t (2 + 1) = wsum W (o4 a b c d) t 2 + c * W v := by rw [hv]; rfl
      have hob2 : c = 0 ∨ c = 1 := hob
      obtain ⟨y, hy⟩ : ∃ y, y = W v := ⟨_, rfl⟩
      rw [← hy] at hcw hWv hsu
      obtain ⟨p, hp⟩ : ∃ p, c * y = p := ⟨_, rfl⟩
      have hpb : 0 ≤ p ∧ p ≤ 7 := by rcases hob2 with e | e <;> rw [e] at hp <;> omega
      rw [hp] at hsu
      obtain ⟨n0, hn0⟩ : ∃ n0, n0 = wsum W (o4 a b c d) t 2 := ⟨_, rfl⟩
      rw [← hn0] at hsu hin
      have hwp : wrap64 p = p := by unfold wrap64; omega
      have hwn : wrap64 (n0 + p) = n0 + p := by unfold wrap64; omega
      have hcv : IntKind.i64.wrap c = c := by rw [IntKind.wrap_i64]; omega
      have HSU := Aside0.mk hsu
      have HC := Aside0.mk hc
      rw [← hn0]
      clear hvf hc hv hy hob hin hob2 hsu hn0 hWv hpb
      go_wp2_with (first | (go_at_call 20; refine HC.out.mono ?_; rintro e w2 ⟨rfl, hd⟩; have HB2 := Aside0.mk (below_step HB.out hd.below); have hcw2 := (hd.below.cell (p := ⟨g, v, none⟩) (Nat.lt_of_lt_of_le hgl HB.out.size)).trans hcw; clear hd hcw) | fail)
      go_roundw
      case rel => exact ⟨2 + 1, by rw [HSU.out]; first | rfl | rw [hwn], by simp, by omega, HB2⟩
      case measure => simp [intOf]
    · skip
      skip
      have hvf := version_f 3 t (by decide) ht
      have hc := pattern_Version.calls (3 : Int) (t : Int) _ 0 wr hvf
      have hlt4 : ((ver 3 t : Nat) : Int) < 4 := by have := ver_lt 3 t; omega
      obtain ⟨v, hv⟩ : ∃ v, v = ver 3 t := ⟨_, rfl⟩
      rw [← hv] at hc hlt4
      have hcw : wr.cell? ⟨g, v, none⟩ = some (.int .i64 (W v)) := (HB.out.cell (p := ⟨g, v, none⟩) hgl).trans (HW.out v (by omega))
      have hWv := (HWB.out v (by omega))
      have hob : o4 a b c d 3 = 0 ∨ o4 a b c d 3 = 1 := HO.out 3
      have hin := wsum_in HWB.out HO.out t 3
      have hsu : wsum W (o4 a b c d) t (3 + 1) = wsum W (o4 a b c d) t 3 + d * W v := by rw [hv]; rfl
      have hob2 : d = 0 ∨ d = 1 := hob
      obtain ⟨y, hy⟩ : ∃ y, y = W v := ⟨_, rfl⟩
      rw [← hy] at hcw hWv hsu
      obtain ⟨p, hp⟩ : ∃ p, d * y = p := ⟨_, rfl⟩
      have hpb : 0 ≤ p ∧ p ≤ 7 := by rcases hob2 with e | e <;> rw [e] at hp <;> omega
      rw [hp] at hsu
      obtain ⟨n0, hn0⟩ : ∃ n0, n0 = wsum W (o4 a b c d) t 3 := ⟨_, rfl⟩
      rw [← hn0] at hsu hin
      have hwp : wrap64 p = p := by unfold wrap64; omega
      have hwn : wrap64 (n0 + p) = n0 + p := by unfold wrap64; omega
      have hcv : IntKind.i64.wrap d = d := by rw [IntKind.wrap_i64]; omega
      have HSU := Aside0.mk hsu
      have HC := Aside0.mk hc
      rw [← hn0]
      clear hvf hc hv hy hob hin hob2 hsu hn0 hWv hpb
      go_wp2_with (first | (go_at_call 20; refine HC.out.mono ?_; rintro e w2 ⟨rfl, hd⟩; have HB2 := Aside0.mk (below_step HB.out hd.below); have hcw2 := (hd.below.cell (p := ⟨g, v, none⟩) (Nat.lt_of_lt_of_le hgl HB.out.size)).trans hcw; clear hd hcw) | fail)
      go_roundw
      case rel => exact ⟨3 + 1, by rw [HSU.out]; first | rfl | rw [hwn], by simp, by omega, HB2⟩
      case measure => simp [intOf]
    · go_wp2_with fail
      go_ret
      exact ⟨by simp, HB.out⟩
end
-- YteileaajmnbmpaaDoorPDDij
/-- A way put to the heap, unless its place is done. -/
def AddP (L L' : List Wy) (ps : List (Int × Int)) (x : Wy) : Prop := if (x.1, x.2.1) ∈ ps then L' = L else L'.Perm (L ++ [x])
/-- A place is done by then, or a way to it is left that is short enough. -/
def Cov (L : List Wy) (ps : List (Int × Int)) (D : Int × Int → Nat) (q : Int × Int) (b : Int) : Prop := (q ∈ ps ∧ (D q : Int) ≤ b) ∨ ∃ x, x ∈ L ∧ (x.1, x.2.1) = q ∧ x.2.2 ≤ b
structure DJ (W : Nat → Int) (L : List Wy) (ps : List (Int × Int)) (D : Int × Int → Nat) : Prop where
  way : ∀ x, x ∈ L → ∃ s t n : Nat, x = ((s : Int), (t : Int), (n : Int)) ∧ Way W s t n
  far : ∀ x, x ∈ L → x.2.2 ≤ 28 * ((ps.length : Int) + 1)
  fst : ∀ t, t < 4 → Cov L ps D (32, (nx t : Int)) (en W 0 1 t)
  edg : ∀ s t i : Nat, i < 2 → ((s : Int), (t : Int)) ∈ ps → Cov L ps D ((dst s i : Int), (nx t : Int)) ((D ((s : Int), (t : Int)) : Int) + en W s i t)
  mono : ∀ p, p ∈ ps → ∀ x, x ∈ L → (D p : Int) ≤ x.2.2
  nz : ∀ p, p ∈ ps → p.1 ≠ 0
  rng : ∀ p, p ∈ ps → ∃ s t : Nat, p = ((s : Int), (t : Int)) ∧ s < 64 ∧ t < 4
  nodup : ps.Nodup
  cnt : L.length + 3 * (256 - ps.length) ≤ 772
theorem cov_perm {L L' : List Wy} {ps : List (Int × Int)} {D : Int × Int → Nat} {q : Int × Int} {b : Int} (h : Cov L ps D q b) (hp : ∀ x, x ∈ L → x ∈ L') : Cov L' ps D q b := by
  rcases h with h | ⟨x, hx, h⟩
  · exact .inl h
  · exact .inr ⟨x, hp x hx, h⟩
theorem DJ.le {W : Nat → Int} {L : List Wy} {ps : List (Int × Int)} {D : Int × Int → Nat} (h : DJ W L ps D) : ps.length ≤ 256 := by
  have hs : ∀ p, p ∈ ps → p ∈ (List.range 64).flatMap fun s => (List.range 4).map fun t => (((s : Nat) : Int), ((t : Nat) : Int)) := by
    intro p hp
    obtain ⟨s, t, rfl, hs, ht⟩ := h.rng p hp
    exact List.mem_flatMap.2 ⟨s, List.mem_range.2 hs, List.mem_map.2 ⟨t, List.mem_range.2 ht, rfl⟩⟩
  have h1 := h.nodup.length_le_of_subset (l₂ := (List.range 64).flatMap fun s => (List.range 4).map fun t => (((s : Nat) : Int), ((t : Nat) : Int))) (fun p hp => hs p hp)
  have h2 : ((List.range 64).flatMap fun s => (List.range 4).map fun t => (((s : Nat) : Int), ((t : Nat) : Int))).length = 256 := by decide +kernel
  omega
/-- Every way's end is done, or a way that is left is shorter. -/
theorem DJ.cover {W : Nat → Int} {L : List Wy} {ps : List (Int × Int)} {D : Int × Int → Nat} (h : DJ W L ps D) {s t x : Nat} (hw : Way W s t x) : (((s : Int), (t : Int)) ∈ ps ∧ D ((s : Int), (t : Int)) ≤ x) ∨ ∃ y, y ∈ L ∧ y.2.2 ≤ (x : Int) := by
  induction hw with
  | first t ht =>
    rcases h.fst t ht with ⟨h1, h2⟩ | ⟨y, h1, _, h3⟩
    · exact .inl ⟨h1, by exact_mod_cast h2⟩
    · exact .inr ⟨y, h1, h3⟩
  | next s t x i hw hs hi ih =>
    rcases ih with ⟨h1, h2⟩ | ⟨y, h1, h2⟩
    · rcases h.edg s t i hi h1 with ⟨h3, h4⟩ | ⟨y, h3, _, h5⟩
      · exact .inl ⟨h3, by have : D ((dst s i : Int), (nx t : Int)) ≤ D ((s : Int), (t : Int)) + en W s i t := by exact_mod_cast h4
                           omega⟩
      · exact .inr ⟨y, h3, by rw [Int.natCast_add]; omega⟩
    · exact .inr ⟨y, h1, by rw [Int.natCast_add]; omega⟩
/-- The heap is never empty. -/
theorem DJ.some {W : Nat → Int} (hW : ∀ v, v < 4 → 0 ≤ W v ∧ W v ≤ 7) {L : List Wy} {ps : List (Int × Int)} {D : Int × Int → Nat} (h : DJ W L ps D) : 0 < L.length := by
  obtain ⟨t, x, hw, _⟩ := some_way W hW
  rcases h.cover hw with ⟨h1, _⟩ | ⟨y, h1, _⟩
  · exact absurd rfl (h.nz _ h1)
  · exact List.length_pos_of_mem h1
/-- The first at state 0 is the least. -/
theorem DJ.least {W : Nat → Int} {L : List Wy} {ps : List (Int × Int)} {D : Int × Int → Nat} (h : DJ W L ps D) {s t n : Nat} (hx : ((s : Int), (t : Int), (n : Int)) ∈ L) (hm : ∀ y, y ∈ L → (n : Int) ≤ y.2.2) (hs : s = 0) : IsLeast W n := by
  subst hs
  obtain ⟨s', t', n', e, hw⟩ := h.way _ hx
  have e1 : s' = 0 := by have := congrArg Prod.fst e; simp at this; omega
  have e2 : n' = n := by have := congrArg (fun z : Wy => z.2.2) e; simp at this; omega
  subst e1; subst e2
  refine ⟨⟨t', hw⟩, fun t2 x hw2 => ?_⟩
  rcases h.cover hw2 with ⟨h1, _⟩ | ⟨y, h1, h2⟩
  · exact absurd rfl (h.nz _ h1)
  · have := hm y h1
    omega
/-- A place that is done already. -/
theorem DJ.again {W : Nat → Int} {L L1 : List Wy} {ps : List (Int × Int)} {D : Int × Int → Nat} {x : Wy} (h : DJ W L ps D) (hp : (x :: L1).Perm L) (hd : (x.1, x.2.1) ∈ ps) : DJ W L1 ps D := by
  have hx : x ∈ L := hp.mem_iff.1 List.mem_cons_self
  have hsub : ∀ y, y ∈ L1 → y ∈ L := fun y hy => hp.mem_iff.1 (List.mem_cons_of_mem _ hy)
  have hc : ∀ q b, Cov L ps D q b → Cov L1 ps D q b := by
    intro q b hq
    rcases hq with hq | ⟨y, hy, h1, h2⟩
    · exact .inl hq
    · rcases List.mem_cons.1 (hp.mem_iff.2 hy) with e | e
      · subst e
        exact .inl ⟨h1 ▸ hd, Int.le_trans (h.mono q (h1 ▸ hd) y hx) h2⟩
      · exact .inr ⟨y, e, h1, h2⟩
  have hl := hp.length_eq
  rw [List.length_cons] at hl
  exact ⟨fun y hy => h.way y (hsub y hy), fun y hy => h.far y (hsub y hy), fun t ht => hc _ _ (h.fst t ht), fun s t i hi hm => hc _ _ (h.edg s t i hi hm), fun p hp' y hy => h.mono p hp' y (hsub y hy), h.nz, h.rng, h.nodup, by have := h.cnt; omega⟩
theorem add_sub {L L' : List Wy} {ps : List (Int × Int)} {x : Wy} (h : AddP L L' ps x) : (∀ y, y ∈ L → y ∈ L') ∧ (∀ y, y ∈ L' → y ∈ L ∨ (y = x ∧ (x.1, x.2.1) ∉ ps)) ∧ L'.length ≤ L.length + 1 ∧ ((x.1, x.2.1) ∈ ps ∨ x ∈ L') := by
  unfold AddP at h
  split at h
  · rename_i hin
    subst h
    exact ⟨fun _ hy => hy, fun _ hy => .inl hy, by omega, .inl hin⟩
  · rename_i hin
    refine ⟨fun y hy => h.mem_iff.2 (List.mem_append_left _ hy), fun y hy => ?_, by rw [h.length_eq, List.length_append]; simp, .inr (h.mem_iff.2 (by simp))⟩
    rcases List.mem_append.1 (h.mem_iff.1 hy) with e | e
    · exact .inl e
    · exact .inr ⟨by simpa using e, hin⟩
/-- A place that is new: its edges are looked at. -/
theorem DJ.next {W : Nat → Int} (hW : ∀ v, v < 4 → 0 ≤ W v ∧ W v ≤ 7) {L L1 L2 L3 : List Wy} {ps : List (Int × Int)} {D : Int × Int → Nat} {s t n : Nat} (h : DJ W L ps D) (hp : (((s : Int), (t : Int), (n : Int)) :: L1).Perm L)
    (hm : ∀ y, y ∈ L → (n : Int) ≤ y.2.2) (hs : s ≠ 0) (hd : ((s : Int), (t : Int)) ∉ ps)
    (h2 : AddP L1 L2 (ps ++ [((s : Int), (t : Int))]) ((dst s 0 : Int), (nx t : Int), (n : Int) + en W s 0 t)) (h3 : AddP L2 L3 (ps ++ [((s : Int), (t : Int))]) ((dst s 1 : Int), (nx t : Int), (n : Int) + en W s 1 t)) :
    DJ W L3 (ps ++ [((s : Int), (t : Int))]) (fun p => if p = ((s : Int), (t : Int)) then n else D p) := by
  have hx : ((s : Int), (t : Int), (n : Int)) ∈ L := hp.mem_iff.1 List.mem_cons_self
  obtain ⟨s', t', n', e, hw⟩ := h.way _ hx
  have e1 : s' = s := by have := congrArg Prod.fst e; simp at this; omega
  have e2 : t' = t := by have := congrArg (fun z : Wy => z.2.1) e; simp at this; omega
  have e3 : n' = n := by have := congrArg (fun z : Wy => z.2.2) e; simp at this; omega
  subst e1; subst e2; subst e3
  have hw0 := Way.next s' t' n' 0 hw hs (by decide)
  have hw1 := Way.next s' t' n' 1 hw hs (by decide)
  have hlt := hw.lt
  have l0 := en_le hW s' 0 t'
  have l1 := en_le hW s' 1 t'
  obtain ⟨a1, a2, a3, a4⟩ := add_sub h2
  obtain ⟨b1, b2, b3, b4⟩ := add_sub h3
  have hsub : ∀ y, y ∈ L1 → y ∈ L := fun y hy => hp.mem_iff.1 (List.mem_cons_of_mem _ hy)
  have hall : ∀ y, y ∈ L3 → y ∈ L ∨ y = ((dst s' 0 : Int), (nx t' : Int), (n' : Int) + en W s' 0 t') ∨ y = ((dst s' 1 : Int), (nx t' : Int), (n' : Int) + en W s' 1 t') := by
    intro y hy
    rcases b2 y hy with e | ⟨e, _⟩
    · rcases a2 y e with e | ⟨e, _⟩
      · exact .inl (hsub y e)
      · exact .inr (.inl e)
    · exact .inr (.inr e)
  have hnew : ((s' : Int), (t' : Int)) ∈ ps ++ [((s' : Int), (t' : Int))] := by simp
  have hxf := h.far _ hx
  have hxf : (n' : Int) ≤ 28 * ((ps.length : Int) + 1) := hxf
  have hDle : ∀ p, p ∈ ps ++ [((s' : Int), (t' : Int))] → (((if p = ((s' : Int), (t' : Int)) then n' else D p) : Nat) : Int) ≤ n' := by
    intro p hp'
    by_cases e : p = ((s' : Int), (t' : Int))
    · rw [if_pos e]; omega
    · rw [if_neg e]
      rcases List.mem_append.1 hp' with e2 | e2
      · exact h.mono p e2 _ hx
      · exact absurd (by simpa using e2) e
  have hc : ∀ q b, Cov L ps D q b → Cov L3 (ps ++ [((s' : Int), (t' : Int))]) (fun p => if p = ((s' : Int), (t' : Int)) then n' else D p) q b := by
    intro q b hq
    rcases hq with ⟨h4, h5⟩ | ⟨y, hy, h4, h5⟩
    · refine .inl ⟨List.mem_append_left _ h4, ?_⟩
      show (((if q = ((s' : Int), (t' : Int)) then n' else D q) : Nat) : Int) ≤ b
      rw [if_neg (fun e => hd (by rw [← e]; exact h4))]; exact h5
    · rcases List.mem_cons.1 (hp.mem_iff.2 hy) with e | e
      · subst e
        refine .inl ⟨by rw [← h4]; exact hnew, ?_⟩
        show (((if q = ((s' : Int), (t' : Int)) then n' else D q) : Nat) : Int) ≤ b
        rw [if_pos h4.symm]; exact h5
      · exact .inr ⟨y, b1 y (a1 y e), h4, h5⟩
  have hl := hp.length_eq
  rw [List.length_cons] at hl
  have hple := h.le
  have hlen : (ps ++ [((s' : Int), (t' : Int))]).length = ps.length + 1 := by simp
  have hnd : (ps ++ [((s' : Int), (t' : Int))]).Nodup := by
    rw [List.nodup_append]
    refine ⟨h.nodup, by simp, fun x hx y hy e => ?_⟩
    rw [List.mem_singleton] at hy
    exact hd (by rw [← hy, ← e]; exact hx)
  have hrng : ∀ p, p ∈ ps ++ [((s' : Int), (t' : Int))] → ∃ s t : Nat, p = ((s : Int), (t : Int)) ∧ s < 64 ∧ t < 4 := by
    intro p hp'
    rcases List.mem_append.1 hp' with e | e
    · exact h.rng p e
    · exact ⟨s', t', by simpa using e, hlt.1, hlt.2⟩
  have hcnt := h.cnt
  have hlt256 : ps.length < 256 := by
    have hs : ∀ p, p ∈ ps ++ [((s' : Int), (t' : Int))] → p ∈ (List.range 64).flatMap fun s => (List.range 4).map fun t => (((s : Nat) : Int), ((t : Nat) : Int)) := by
      intro p hp
      obtain ⟨s, t, rfl, hs, ht⟩ := hrng p hp
      exact List.mem_flatMap.2 ⟨s, List.mem_range.2 hs, List.mem_map.2 ⟨t, List.mem_range.2 ht, rfl⟩⟩
    have q1 := hnd.length_le_of_subset (l₂ := (List.range 64).flatMap fun s => (List.range 4).map fun t => (((s : Nat) : Int), ((t : Nat) : Int))) (fun p hp => hs p hp)
    have q2 : ((List.range 64).flatMap fun s => (List.range 4).map fun t => (((s : Nat) : Int), ((t : Nat) : Int))).length = 256 := by decide +kernel
    omega
  refine ⟨fun y hy => ?_, fun y hy => ?_, fun t ht => hc _ _ (h.fst t ht), fun s t i hi hm' => ?_, fun p hp' y hy => ?_, fun p hp' => ?_, hrng, hnd, by omega⟩
  · rcases hall y hy with e | rfl | rfl
    · exact h.way y e
    · exact ⟨_, _, _, by rw [Int.natCast_add], hw0⟩
    · exact ⟨_, _, _, by rw [Int.natCast_add], hw1⟩
  · rw [hlen, Int.natCast_add]
    rcases hall y hy with e | rfl | rfl
    · have := h.far y e; omega
    · show (n' : Int) + en W s' 0 t' ≤ _; omega
    · show (n' : Int) + en W s' 1 t' ≤ _; omega
  · by_cases e : ((s : Int), (t : Int)) = ((s' : Int), (t' : Int))
    · have e1 : s = s' := by have := congrArg Prod.fst e; simp at this; omega
      have e2 : t = t' := by have := congrArg Prod.snd e; simp at this; omega
      subst e1; subst e2
      have hb : ∀ i, i < 2 → ((dst s i : Int), (nx t : Int)) ∈ ps ++ [((s : Int), (t : Int))] ∨ ((dst s i : Int), (nx t : Int), (n' : Int) + en W s i t) ∈ L3 := by
        intro i hi
        obtain rfl | rfl : i = 0 ∨ i = 1 := by omega
        · rcases a4 with q | q
          · exact .inl q
          · exact .inr (b1 _ q)
        · exact b4
      rcases hb i hi with q | q
      · exact .inl ⟨q, Int.le_trans (hDle _ q) (by show (n' : Int) ≤ (((if ((s : Int), (t : Int)) = ((s : Int), (t : Int)) then n' else D ((s : Int), (t : Int))) : Nat) : Int) + en W s i t; rw [if_pos rfl]; omega)⟩
      · exact .inr ⟨_, q, rfl, by show (n' : Int) + en W s i t ≤ (((if ((s : Int), (t : Int)) = ((s : Int), (t : Int)) then n' else D ((s : Int), (t : Int))) : Nat) : Int) + en W s i t; rw [if_pos rfl]; omega⟩
    · have hm2 : ((s : Int), (t : Int)) ∈ ps := by
        rcases List.mem_append.1 hm' with q | q
        · exact q
        · exact absurd (by simpa using q) e
      have := hc _ _ (h.edg s t i hi hm2)
      show Cov L3 _ _ _ ((((if ((s : Int), (t : Int)) = ((s' : Int), (t' : Int)) then n' else D ((s : Int), (t : Int))) : Nat) : Int) + en W s i t)
      rw [if_neg e]
      exact this
  · refine Int.le_trans (hDle p hp') ?_
    rcases hall y hy with e | rfl | rfl
    · exact hm y e
    · show (n' : Int) ≤ (n' : Int) + en W s' 0 t'; omega
    · show (n' : Int) ≤ (n' : Int) + en W s' 1 t'; omega
  · rcases List.mem_append.1 hp' with q | q
    · exact h.nz p q
    · rw [List.mem_singleton] at q
      subst q
      show (s' : Int) ≠ 0
      omega
end Go.Proofs.YteileaajmnbmpaaDoor.P
-- YteileaajmnbmpaaDoorPDAdd
namespace Go.Proofs.YteileaajmnbmpaaDoor.P
open Go Go.Proofs Go.RowKit Go.Proofs.YteileaajmnbmpaaDoorW.PrintWords Go.Proofs.YteileaajmnbmpaaDoorW.PrintLast Go.Proofs.YteileaajmnbmpaaDoorW.PrintMore
set_option linter.unusedVariables false
set_option linter.unusedSimpArgs false

/-- The search at block g: its heap of ways, its map of places (block m). -/
structure DS (w : World) (n₀ g m : Nat) (a b c d : Int) (v : Value) (L : List Wy) (ps : List (Int × Int)) : Prop where
  hs : HS w n₀ g a b c d (.map (some m)) v L
  map : MapIs w m ps
  mlow : n₀ ≤ m
  heap : HeapN L L.length
variable {w w' : World} {n₀ g m : Nat} {a b c d : Int} {v v' : Value} {L L' : List Wy} {ps ps' : List (Int × Int)}
theorem DS.mlt (h : DS w n₀ g m a b c d v L ps) : m < w.heap.size := by
  obtain ⟨es, cl, hb, _⟩ := h.map
  exact blk_lt hb
theorem MapIs.of_block (h : MapIs w m ps) (hb : w'.heap[m]? = w.heap[m]?) : MapIs w' m ps := by
  obtain ⟨es, cl, h1, h2⟩ := h
  exact ⟨es, cl, hb.trans h1, h2⟩
theorem DS.below (h : DS w n₀ g m a b c d v L ps) (hb : Below w.heap.size w w') : DS w' n₀ g m a b c d v L ps :=
  ⟨h.hs.below hb, h.map.of_block (hb.block m h.mlt), h.mlow, h.heap⟩
theorem DS.mne (h : DS w n₀ g m a b c d v L ps) : m ≠ g ∧ some m ≠ v.ownBlock := by
  obtain ⟨es, cl, hb, _⟩ := h.map
  refine ⟨fun e => ?_, fun e => ?_⟩
  · have := h.hs.blk
    rw [← e, hb] at this
    cases this
  · obtain ⟨inner, ho⟩ := Kd.R_own h.hs.row
    obtain ⟨cells, hc⟩ := own_typed ho m e.symm
    rw [hb] at hc
    cases hc
theorem DS.cells (h : DS w n₀ g m a b c d v L ps) : ∀ q, q < 4 → w.cell? ⟨g, q, none⟩ = some (.int .i64 (wOf a b c d q)) := by
  intro q hq
  obtain rfl | rfl | rfl | rfl : q = 0 ∨ q = 1 ∨ q = 2 ∨ q = 3 := by omega
  · exact blk_cell h.hs.blk 0
  · exact blk_cell h.hs.blk 1
  · exact blk_cell h.hs.blk 2
  · exact blk_cell h.hs.blk 3
theorem nx_l (t : Nat) : (nx t : Int) < 4 := by have := nx_lt t; omega
theorem nat4 {t : Nat} (h : t < 4) : (t : Int) < 4 := by omega
def add2.T : Bool × List (List Nat × List Nat) := (true, [([], []), ([0], [0]), ([1], [1]), ([2], [2]), ([], []), ([3, 4], [3, 4]), ([5], [5])])
def add2.B : List Nat := [0, 1, 3, 7, 0, 31, 63]
theorem add2.tab : rtab .any (opsOf Tryd.f39 2) = add2.T := by kernel_rfl
theorem add2.bits : waitsOk add2.T.2 add2.B = true := by kernel_rfl
def add3.T : Bool × List (List Nat × List Nat) := (true, [([], []), ([0], [0]), ([1], [1]), ([2], [2]), ([], []), ([], []), ([], []), ([], []), ([], []), ([6, 7, 8], [6, 7, 8]), ([5, 9], [5, 9]), ([4, 10], [4, 10]), ([11], [11]), ([3, 12, 9], [3, 12])])
def add3.B : List Nat := [0, 1, 3, 7, 0, 0, 0, 0, 0, 448, 992, 2032, 4080, 8191]
theorem add3.tab : rtab .any (opsOf Tryd.f39 3) = add3.T := by kernel_rfl
theorem add3.bits : waitsOk add3.T.2 add3.B = true := by kernel_rfl
set_option maxRecDepth 100000 in
set_option maxHeartbeats 8000000 in
theorem add_way {s i t : Nat} (h : DS w n₀ g m a b c d v L ps) (hn : n₀ ≤ w.heap.size) (hW : ∀ q, q < 4 → 0 ≤ wOf a b c d q ∧ wOf a b c d q ≤ 7) (fr dt ii : Int) (ht : t < 4) (far : Int) (hf : 0 ≤ far ∧ far ≤ 100000000) (hl : L.length < 2000) :
    Calls Tryd.prog 39 #[.pointer (some ⟨g, 0, none⟩), .agg #[.int .i64 fr, .int .i64 dt, .int .u8 ii, .int .u8 (ob s i 0), .int .u8 (ob s i 1), .int .u8 (ob s i 2), .int .u8 (ob s i 3)], .int .i64 (t : Int), .int .i64 far] w fun e w' =>
      e = .returned (.tuple #[]) ∧ ∃ v' L', DS w' n₀ g m a b c d v' L' ps ∧ Fr g v w w' ∧ Newer w v v' ∧ AddP L L' ps (dt, (nx t : Int), far + ew (wOf a b c d) s i t) := by
  have HD := Aside0.mk h
  have HW := Aside0.mk hW
  have HN := Aside0.mk hn
  have HF := Aside0.mk hf
  have HLL := Aside0.mk hl
  obtain ⟨o0, ho0⟩ : ∃ o0, o0 = ob s i 0 := ⟨_, rfl⟩
  obtain ⟨o1, ho1⟩ : ∃ o1, o1 = ob s i 1 := ⟨_, rfl⟩
  obtain ⟨o2, ho2⟩ : ∃ o2, o2 = ob s i 2 := ⟨_, rfl⟩
  obtain ⟨o3, ho3⟩ : ∃ o3, o3 = ob s i 3 := ⟨_, rfl⟩
  rw [← ho0, ← ho1, ← ho2, ← ho3]
  have HO := Aside0.mk (And.intro ho0 (And.intro ho1 (And.intro ho2 ho3)))
  have hu1 := nx_e t
  have hu2 := nx_t t
  have hu4 := nx_w t ht
  have hu3 := nx_l t
  obtain ⟨u, hu⟩ : ∃ u, u = nx t := ⟨_, rfl⟩
  rw [← hu] at hu1 hu2 hu3 hu4 ⊢
  have ht4 := nat4 ht
  clear h hn hW hf hl ho0 ho1 ho2 ho3 hu
  go_enter Tryd.func39, Tryd.ntmps39
  go_wp2_with fail
  have hba := below_alloc (Below.refl w.heap.size w) (.cells #[.int .i64 fr, .int .i64 dt, .int .u8 ii, .int .u8 o0, .int .u8 o1, .int .u8 o2, .int .u8 o3] 79)
  have hbb := blk_new w (.cells #[.int .i64 fr, .int .i64 dt, .int .u8 ii, .int .u8 o0, .int .u8 o1, .int .u8 o2, .int .u8 o3] 79)
  obtain ⟨w1, hw1⟩ : ∃ w1, w1 = w.alloc (.cells #[.int .i64 fr, .int .i64 dt, .int .u8 ii, .int .u8 o0, .int .u8 o1, .int .u8 o2, .int .u8 o3] 79) := ⟨_, rfl⟩
  have hz1 : w1.heap.size = w.heap.size + 1 := by rw [hw1, World.size_alloc]
  rw [← hw1] at hba hbb
  rw [← hw1, ← hz1]
  have hba2 := below_alloc (Below.refl w1.heap.size w1) (.cells #[.int .i64 dt, .int .i64 (u : Int)] 85)
  have hbb2 := blk_new w1 (.cells #[.int .i64 dt, .int .i64 (u : Int)] 85)
  obtain ⟨w2, hw2⟩ : ∃ w2, w2 = w1.alloc (.cells #[.int .i64 dt, .int .i64 (u : Int)] 85) := ⟨_, rfl⟩
  obtain ⟨E, hE⟩ : ∃ E, E = w.heap.size := ⟨_, rfl⟩
  obtain ⟨T, hT⟩ : ∃ T, T = w1.heap.size := ⟨_, rfl⟩
  have hEl : E < w1.heap.size := by rw [hE, hz1]; exact Nat.lt_succ_self _
  rw [← hw2] at hba2 hbb2
  rw [← hE] at hbb
  rw [← hT] at hbb2
  rw [← hw2, ← hE, ← hT]
  have HE := Aside0.mk (show w2.drew.heap[E]? = some (.cells #[.int .i64 fr, .int .i64 dt, .int .u8 ii, .int .u8 o0, .int .u8 o1, .int .u8 o2, .int .u8 o3] 79 (0, 0)) from (hba2.block E hEl).trans hbb)
  have HT := Aside0.mk (show w2.drew.heap[T]? = some (.cells #[.int .i64 dt, .int .i64 (u : Int)] 85 (0, 0)) from hbb2)
  have HB := Aside0.mk (show Below w.heap.size w w2.drew from below_drew1 (below_step hba hba2))
  have HD2 := Aside0.mk (HD.out.below HB.out)
  have HS := Aside0.mk (show w2.drew.cell? ⟨g, 5, none⟩ = some (.map (some m)) ∧ w2.drew.cell? ⟨T, 0, none⟩ = some (.int .i64 dt) ∧ w2.drew.cell? ⟨T, 1, none⟩ = some (.int .i64 (u : Int)) ∧ MapIs w2.drew m ps from
    ⟨blk_cell HD2.out.hs.blk 5, blk_cell HT.out 0, blk_cell HT.out 1, HD2.out.map⟩)
  clear hba hbb hw1 hz1 hba2 hbb2 hw2 hE hT hEl
  refine start_ (n := 7) (S := (fun w' => w'.cell? ⟨g, 5, none⟩ = some (.map (some m)) ∧ w'.cell? ⟨T, 0, none⟩ = some (.int .i64 dt) ∧ w'.cell? ⟨T, 1, none⟩ = some (.int .i64 (u : Int)) ∧ MapIs w' m ps)) (ds := []) #[false, false, false, false, false, false, false] (by kernel_rfl) rfl rfl HS.out (fun hHeld => ?_)
  refine with_tabW add2.tab add2.bits (fun HT_ HW_ => ?_)
  refine pure_ (i := 0) (N := some 15) (v := ?_) (a' := ?_) #[true, false, false, false, false, false, false] rfl rfl (any_of HT_.out (by kernel_rfl)) (fun _ _ _ h => h) (Or.inl ⟨by rfl, ?_⟩) ?_ ?_
  rotate_left
  · intro w'
    go_simp
    with_reducible rfl
  rotate_left
  · simp only [Act.put, List.setIfInBounds_toArray, List.set_cons_zero, List.set_cons_succ, i64_w, i32_w]
    rfl
  refine pure_ (i := 1) (N := some 16) (v := ?_) (a' := ?_) #[true, true, false, false, false, false, false] rfl rfl (any_of HT_.out (by kernel_rfl)) (fun _ _ _ h => h) (Or.inl ⟨by rfl, ?_⟩) ?_ ?_
  rotate_left
  · intro w'
    go_simp
    with_reducible rfl
  rotate_left
  · simp only [Act.put, List.setIfInBounds_toArray, List.set_cons_zero, List.set_cons_succ, i64_w, i32_w]
    rfl
  refine pure_ (i := 2) (N := some 17) (v := ?_) (a' := ?_) #[true, true, true, false, false, false, false] rfl rfl (any_of HT_.out (by kernel_rfl)) (fun _ _ _ h => h) (Or.inl ⟨by rfl, ?_⟩) ?_ ?_
  rotate_left
  · intro w'
    go_simp
    with_reducible rfl
  rotate_left
  · simp only [Act.put, List.setIfInBounds_toArray, List.set_cons_zero, List.set_cons_succ, i64_w, i32_w]
    rfl
  refine take_ (i := 3) (N := some 18) (v := ?_) (a' := ?_) #[true, true, true, true, false, false, false] rfl rfl (take_ofW HT_.out HW_.out (by kernel_rfl)) (fun _ _ _ h => h) (Or.inl ⟨by rfl, ?_⟩) hHeld ?_ ?_
  rotate_left
  · rintro w' ⟨s0, s1, s2, s3⟩
    go_simp
    with_reducible rfl
  rotate_left
  · simp only [Act.put, List.setIfInBounds_toArray, List.set_cons_zero, List.set_cons_succ, i64_w, i32_w]
    rfl
  refine take_ (i := 4) (N := some 19) (v := ?_) (a' := ?_) #[true, true, true, true, true, false, false] rfl rfl (take_ofW HT_.out HW_.out (by kernel_rfl)) (fun _ _ _ h => h) (Or.inl ⟨by rfl, ?_⟩) hHeld ?_ ?_
  rotate_left
  · rintro w' ⟨s0, s1, s2, s3⟩
    go_simp
    with_reducible rfl
  rotate_left
  · simp only [Act.put, List.setIfInBounds_toArray, List.set_cons_zero, List.set_cons_succ, i64_w, i32_w]
    rfl
  refine take_ (i := 5) (N := some 20) (v := ?_) (a' := ?_) #[true, true, true, true, true, true, false] rfl rfl (take_ofW HT_.out HW_.out (by kernel_rfl)) (fun _ _ _ h => h) (Or.inl ⟨by rfl, ?_⟩) hHeld ?_ ?_
  rotate_left
  · rintro w' ⟨s0, s1, s2, s3⟩
    have hl := look_run s3 dt (u : Int); unfold plK at hl; go_simp; with_reducible rfl
  rotate_left
  · simp only [Act.put, List.setIfInBounds_toArray, List.set_cons_zero, List.set_cons_succ, i64_w, i32_w]
    rfl
  refine pure_ (i := 6) (N := some 21) (v := ?_) (a' := ?_) #[true, true, true, true, true, true, true] rfl rfl (any_of HT_.out (by kernel_rfl)) (fun _ _ _ h => h) (Or.inl ⟨by rfl, ?_⟩) ?_ ?_
  rotate_left
  · intro w'
    go_simp
    with_reducible rfl
  rotate_left
  · simp only [Act.put, List.setIfInBounds_toArray, List.set_cons_zero, List.set_cons_succ, i64_w, i32_w]
    rfl
  refine done_ (done_of HT_.out (by kernel_rfl)) ?_
  clear hHeld
  by_cases hin : (dt, (u : Int)) ∈ ps
  · rw [decide_eq_true hin]
    have HIN := Aside0.mk hin
    clear hin
    go_wp2_with fail
    refine bodyPost_end (results_none rfl _ _ _) rfl ?_
    exact ⟨by simp, v, L, HD2.out, Fr.of_below HB.out, Newer.refl _ _, by unfold AddP; rw [if_pos HIN.out]⟩
  · rw [decide_eq_false hin]
    have HIN := Aside0.mk hin
    clear hin HS
    go_wp2_with fail
    have hwe := dweigh_calls (w := w2.drew.drew) (g := g) (W := wOf a b c d) (HD2.out.below (below_drew1 (Below.refl _ _))).hs.lt (HD2.out.below (below_drew1 (Below.refl _ _))).cells HW.out fr dt ii o0 o1 o2 o3 (by rw [HO.out.1, HO.out.2.1, HO.out.2.2.1, HO.out.2.2.2]; exact o4_ob s i) t (by omega)
    have hewe : wsum (wOf a b c d) (o4 o0 o1 o2 o3) t 4 = ew (wOf a b c d) s i t := by rw [HO.out.1, HO.out.2.1, HO.out.2.2.1, HO.out.2.2.2]; rfl
    rw [hewe] at hwe
    have hxb := ew_in HW.out s i t
    obtain ⟨x, hx⟩ : ∃ x, x = ew (wOf a b c d) s i t := ⟨_, rfl⟩
    rw [← hx] at hwe hxb
    have hwf : wrap64 (far + x) = far + x := wrap_small (by have := HF.out; omega) (by have := HF.out; omega)
    have HX := Aside0.mk hx
    have HWE := Aside0.mk hwe
    have hD3 := HD2.out.below (below_drew1 (Below.refl w2.drew.heap.size w2.drew))
    have hE3 : w2.drew.drew.heap[E]? = some (.cells #[.int .i64 fr, .int .i64 dt, .int .u8 ii, .int .u8 o0, .int .u8 o1, .int .u8 o2, .int .u8 o3] 79 (0, 0)) := HE.out
    have hT3 : w2.drew.drew.heap[T]? = some (.cells #[.int .i64 dt, .int .i64 (u : Int)] 85 (0, 0)) := HT.out
    have HD3 := Aside0.mk hD3
    have HBK := Aside0.mk (And.intro hE3 hT3)
    have HB3 := Aside0.mk (below_drew1 HB.out)
    have HS3 := Aside0.mk (show w2.drew.drew.cell? ⟨T, 0, none⟩ = some (.int .i64 dt) ∧ w2.drew.drew.cell? ⟨T, 1, none⟩ = some (.int .i64 (u : Int)) ∧ w2.drew.drew.cell? ⟨E, 0, none⟩ = some (.int .i64 fr) ∧ w2.drew.drew.cell? ⟨E, 1, none⟩ = some (.int .i64 dt) ∧ w2.drew.drew.cell? ⟨E, 2, none⟩ = some (.int .u8 ii) ∧ w2.drew.drew.cell? ⟨E, 3, none⟩ = some (.int .u8 o0) ∧ w2.drew.drew.cell? ⟨E, 4, none⟩ = some (.int .u8 o1) ∧ w2.drew.drew.cell? ⟨E, 5, none⟩ = some (.int .u8 o2) ∧ w2.drew.drew.cell? ⟨E, 6, none⟩ = some (.int .u8 o3) from
      ⟨blk_cell hT3 0, blk_cell hT3 1, blk_cell hE3 0, blk_cell hE3 1, blk_cell hE3 2, blk_cell hE3 3, blk_cell hE3 4, blk_cell hE3 5, blk_cell hE3 6⟩)
    clear hwe hewe hxb hx hD3 hE3 hT3
    refine start_ (n := 14) (S := (fun w' => w'.cell? ⟨T, 0, none⟩ = some (.int .i64 dt) ∧ w'.cell? ⟨T, 1, none⟩ = some (.int .i64 (u : Int)) ∧ w'.cell? ⟨E, 0, none⟩ = some (.int .i64 fr) ∧ w'.cell? ⟨E, 1, none⟩ = some (.int .i64 dt) ∧ w'.cell? ⟨E, 2, none⟩ = some (.int .u8 ii) ∧ w'.cell? ⟨E, 3, none⟩ = some (.int .u8 o0) ∧ w'.cell? ⟨E, 4, none⟩ = some (.int .u8 o1) ∧ w'.cell? ⟨E, 5, none⟩ = some (.int .u8 o2) ∧ w'.cell? ⟨E, 6, none⟩ = some (.int .u8 o3))) (ds := [13]) #[false, false, false, false, false, false, false, false, false, false, false, false, false, false] (by kernel_rfl) rfl rfl HS3.out (fun hHeld => ?_)
    refine with_tabW add3.tab add3.bits (fun HT_ HW_ => ?_)
    refine pure_ (i := 0) (N := some 22) (v := ?_) (a' := ?_) #[true, false, false, false, false, false, false, false, false, false, false, false, false, false] rfl rfl (any_of HT_.out (by kernel_rfl)) (fun _ _ _ h => h) (Or.inl ⟨by rfl, ?_⟩) ?_ ?_
    rotate_left
    · intro w'
      go_simp
      with_reducible rfl
    rotate_left
    · simp only [Act.put, List.setIfInBounds_toArray, List.set_cons_zero, List.set_cons_succ, i64_w, i32_w]
      rfl
    refine pure_ (i := 1) (N := some 23) (v := ?_) (a' := ?_) #[true, true, false, false, false, false, false, false, false, false, false, false, false, false] rfl rfl (any_of HT_.out (by kernel_rfl)) (fun _ _ _ h => h) (Or.inl ⟨by rfl, ?_⟩) ?_ ?_
    rotate_left
    · intro w'
      go_simp
      with_reducible rfl
    rotate_left
    · simp only [Act.put, List.setIfInBounds_toArray, List.set_cons_zero, List.set_cons_succ, i64_w, i32_w]
      rfl
    refine pure_ (i := 2) (N := some 24) (v := ?_) (a' := ?_) #[true, true, true, false, false, false, false, false, false, false, false, false, false, false] rfl rfl (any_of HT_.out (by kernel_rfl)) (fun _ _ _ h => h) (Or.inl ⟨by rfl, ?_⟩) ?_ ?_
    rotate_left
    · intro w'
      go_simp
      with_reducible rfl
    rotate_left
    · simp only [Act.put, List.setIfInBounds_toArray, List.set_cons_zero, List.set_cons_succ, i64_w, i32_w]
      rfl
    refine pure_ (i := 3) (N := some 25) (v := ?_) (a' := ?_) #[true, true, true, true, false, false, false, false, false, false, false, false, false, false] rfl rfl (any_of HT_.out (by kernel_rfl)) (fun _ _ _ h => h) (Or.inl ⟨by rfl, ?_⟩) ?_ ?_
    rotate_left
    · intro w'
      go_simp
      with_reducible rfl
    rotate_left
    · simp only [Act.put, List.setIfInBounds_toArray, List.set_cons_zero, List.set_cons_succ, i64_w, i32_w]
      rfl
    refine take_ (i := 4) (N := some 26) (v := ?_) (a' := ?_) #[true, true, true, true, true, false, false, false, false, false, false, false, false, false] rfl rfl (take_ofW HT_.out HW_.out (by kernel_rfl)) (fun _ _ _ h => h) (Or.inl ⟨by rfl, ?_⟩) hHeld ?_ ?_
    rotate_left
    · rintro w' ⟨s0, s1, s2, s3, s4, s5, s6, s7, s8⟩
      go_simp
      with_reducible rfl
    rotate_left
    · simp only [Act.put, List.setIfInBounds_toArray, List.set_cons_zero, List.set_cons_succ, i64_w, i32_w]
      rfl
    refine pure_ (i := 5) (N := some 27) (v := ?_) (a' := ?_) #[true, true, true, true, true, true, false, false, false, false, false, false, false, false] rfl rfl (any_of HT_.out (by kernel_rfl)) (fun _ _ _ h => h) (Or.inl ⟨by rfl, ?_⟩) ?_ ?_
    rotate_left
    · intro w'
      go_simp
      with_reducible rfl
    rotate_left
    · simp only [Act.put, List.setIfInBounds_toArray, List.set_cons_zero, List.set_cons_succ, i64_w, i32_w]
      rfl
    refine pure_ (i := 6) (N := some 28) (v := ?_) (a' := ?_) #[true, true, true, true, true, true, true, false, false, false, false, false, false, false] rfl rfl (any_of HT_.out (by kernel_rfl)) (fun _ _ _ h => h) (Or.inl ⟨by rfl, ?_⟩) ?_ ?_
    rotate_left
    · intro w'
      go_simp
      with_reducible rfl
    rotate_left
    · simp only [Act.put, List.setIfInBounds_toArray, List.set_cons_zero, List.set_cons_succ, i64_w, i32_w]
      rfl
    refine take_ (i := 7) (N := some 29) (v := ?_) (a' := ?_) #[true, true, true, true, true, true, true, true, false, false, false, false, false, false] rfl rfl (take_ofW HT_.out HW_.out (by kernel_rfl)) (fun _ _ _ h => h) (Or.inl ⟨by rfl, ?_⟩) hHeld ?_ ?_
    rotate_left
    · rintro w' ⟨s0, s1, s2, s3, s4, s5, s6, s7, s8⟩
      go_simp
      with_reducible rfl
    rotate_left
    · simp only [Act.put, List.setIfInBounds_toArray, List.set_cons_zero, List.set_cons_succ, i64_w, i32_w]
      rfl
    refine pure_ (i := 8) (N := some 30) (v := ?_) (a' := ?_) #[true, true, true, true, true, true, true, true, true, false, false, false, false, false] rfl rfl (any_of HT_.out (by kernel_rfl)) (fun _ _ _ h => h) (Or.inl ⟨by rfl, ?_⟩) ?_ ?_
    rotate_left
    · intro w'
      go_simp
      with_reducible rfl
    rotate_left
    · simp only [Act.put, List.setIfInBounds_toArray, List.set_cons_zero, List.set_cons_succ, i64_w, i32_w]
      rfl
    refine one_ (i := 9) (N := some 31) #[true, true, true, true, true, true, true, true, true, true, false, false, false, false] rfl rfl (one_of HT_.out (by kernel_rfl)) (by decide) (fun K hK => ?_)
    refine goes_ Tryd.func51 (by kernel_rfl) rfl #[.pointer (some ⟨g, 0, none⟩), .agg #[.int .i64 fr, .int .i64 dt, .int .u8 ii, .int .u8 o0, .int .u8 o1, .int .u8 o2, .int .u8 o3], .int .i64 ↑t] (by rfl) rfl rfl (by (try simp only [List.map_toArray, List.map_cons, List.map_nil]); first | done | rfl | (go_simp; done) | simp [Act.eval]) ?_
    refine HWE.out.mono ?_
    rintro e w4 ⟨rfl, hb4⟩
    have hE4 := (hb4.block E (blk_lt HBK.out.1)).trans HBK.out.1
    have hT4 := (hb4.block T (blk_lt HBK.out.2)).trans HBK.out.2
    have HD4 := Aside0.mk (HD3.out.below hb4)
    have HB4 := Aside0.mk (below_step HB3.out hb4)
    have HS4 := Aside0.mk (show w4.cell? ⟨T, 0, none⟩ = some (.int .i64 dt) ∧ w4.cell? ⟨T, 1, none⟩ = some (.int .i64 (u : Int)) ∧ w4.cell? ⟨E, 0, none⟩ = some (.int .i64 fr) ∧ w4.cell? ⟨E, 1, none⟩ = some (.int .i64 dt) ∧ w4.cell? ⟨E, 2, none⟩ = some (.int .u8 ii) ∧ w4.cell? ⟨E, 3, none⟩ = some (.int .u8 o0) ∧ w4.cell? ⟨E, 4, none⟩ = some (.int .u8 o1) ∧ w4.cell? ⟨E, 5, none⟩ = some (.int .u8 o2) ∧ w4.cell? ⟨E, 6, none⟩ = some (.int .u8 o3) from
      ⟨blk_cell hT4 0, blk_cell hT4 1, blk_cell hE4 0, blk_cell hE4 1, blk_cell hE4 2, blk_cell hE4 3, blk_cell hE4 4, blk_cell hE4 5, blk_cell hE4 6⟩)
    clear hb4 hE4 hT4
    refine ⟨_, rfl, ?_⟩
    refine hK.out _ _ HS4.out (fun hHeld => ?_)
    clear hK K
    refine norm_ (a' := ?_) ?_ ?_
    rotate_left
    · show Act.put _ (some 31) _ = _
      simp only [Act.put, List.setIfInBounds_toArray, List.set_cons_zero, List.set_cons_succ, i64_w, i32_w]
      rfl
    refine pure_ (i := 10) (N := some 32) (v := ?_) (a' := ?_) #[true, true, true, true, true, true, true, true, true, true, true, false, false, false] rfl rfl (any_of HT_.out (by kernel_rfl)) (fun _ _ _ h => h) (Or.inl ⟨by rfl, ?_⟩) ?_ ?_
    rotate_left
    · intro w'
      go_simp
      with_reducible rfl
    rotate_left
    · simp only [Act.put, List.setIfInBounds_toArray, List.set_cons_zero, List.set_cons_succ, i64_w, i32_w]
      rfl
    refine pure_ (i := 11) (N := some 33) (v := ?_) (a' := ?_) #[true, true, true, true, true, true, true, true, true, true, true, true, false, false] rfl rfl (any_of HT_.out (by kernel_rfl)) (fun _ _ _ h => h) (Or.inl ⟨by rfl, ?_⟩) ?_ ?_
    rotate_left
    · intro w'
      go_simp
      with_reducible rfl
    rotate_left
    · simp only [Act.put, List.setIfInBounds_toArray, List.set_cons_zero, List.set_cons_succ, i64_w, i32_w]
      rfl
    refine pure_ (i := 12) (N := some 34) (v := ?_) (a' := ?_) #[true, true, true, true, true, true, true, true, true, true, true, true, true, false] rfl rfl (any_of HT_.out (by kernel_rfl)) (fun _ _ _ h => h) (Or.inl ⟨by rfl, ?_⟩) ?_ ?_
    rotate_left
    · intro w'
      go_simp
      with_reducible rfl
    rotate_left
    · simp only [Act.put, List.setIfInBounds_toArray, List.set_cons_zero, List.set_cons_succ, i64_w, i32_w]
      rfl
    refine last_ (i := 13) (N := some 35) #[true, true, true, true, true, true, true, true, true, true, true, true, true, true] rfl rfl (one_of HT_.out (by kernel_rfl)) (by decide) (fun K hK => ?_)
    refine goes_ Tryd.func50 (by kernel_rfl) rfl #[.iface 90 (.pointer (some ⟨g, 4, none⟩)), .iface 87 (.agg #[.int .i64 dt, .int .i64 ↑u, .int .i64 (far + x)])] (by rfl) rfl rfl (by (try simp only [List.map_toArray, List.map_cons, List.map_nil]); first | done | rfl | (go_simp; done) | simp [Act.eval]) ?_
    refine (hpush_calls HD4.out.hs HD4.out.heap dt (u : Int) (far + x) HLL.out).mono ?_
    rintro e w5 ⟨rfl, v5, L5, hH5, hF5, hN5, hP5, hh5⟩
    have H5 := Aside0.mk (And.intro hH5 (And.intro hF5 (And.intro hN5 (And.intro hP5 hh5))))
    clear hH5 hF5 hN5 hP5 hh5
    refine ⟨_, rfl, ?_⟩
    refine hK.out _ _ ?_
    clear hK K
    refine norm_ (a' := ?_) ?_ ?_
    rotate_left
    · show Act.put _ (some 35) _ = _
      simp only [Act.put, List.setIfInBounds_toArray, List.set_cons_zero, List.set_cons_succ, i64_w, i32_w]
      rfl
    refine done_ (done_of HT_.out (by kernel_rfl)) ?_
    go_wp2
    refine bodyPost_end (results_none rfl _ _ _) rfl ?_
    obtain ⟨hH5, hF5, hN5, hP5, hh5⟩ := H5.out
    have hm5 := hF5.block m HD4.out.mlt HD4.out.mne.1 HD4.out.mne.2
    exact ⟨by simp, v5, L5, ⟨hH5, HD4.out.map.of_block hm5, HD4.out.mlow, hh5⟩, (Fr.of_below HB4.out).seq hF5, (Newer.refl w v).trans HB4.out.size hN5, by unfold AddP; rw [if_neg HIN.out, ← HX.out]; exact hP5⟩
end Go.Proofs.YteileaajmnbmpaaDoor.P
-- YteileaajmnbmpaaDoorPDBegin
namespace Go.Proofs.YteileaajmnbmpaaDoor.P
open Go Go.Proofs Go.RowKit Go.Proofs.YteileaajmnbmpaaDoorW.PrintWords Go.Proofs.YteileaajmnbmpaaDoorW.PrintLast Go.Proofs.YteileaajmnbmpaaDoorW.PrintMore
set_option linter.unusedVariables false
set_option linter.unusedSimpArgs false

variable {w w' : World} {n₀ g m : Nat} {a b c d : Int} {v v' : Value} {L L' : List Wy} {ps ps' : List (Int × Int)}
theorem DS.fr (h : DS w n₀ g m a b c d v L ps) (hf : Fr g v w w') (hn : n₀ ≤ w.heap.size) : Below n₀ w w' := hf.below hn h.hs.low (fun q hq => (h.hs.own q hq).1)
/-- The first edges, up to step j. -/
def firstW (W : Nat → Int) (j : Nat) : List Wy := (List.range j).map fun t => ((32 : Int), (nx t : Int), (en W 0 1 t : Int))
theorem firstW_succ (W : Nat → Int) (j : Nat) : firstW W (j + 1) = firstW W j ++ [((32 : Int), (nx j : Int), (en W 0 1 j : Int))] := by unfold firstW; rw [List.range_succ, List.map_append]; rfl
/-- What the search begins with. -/
theorem DJ.start {W : Nat → Int} (hW : ∀ v, v < 4 → 0 ≤ W v ∧ W v ≤ 7) (h : L.Perm (firstW W 4)) : DJ W L [] (fun _ => 0) := by
  have hm : ∀ x, x ∈ L ↔ ∃ t, t < 4 ∧ ((32 : Int), (nx t : Int), (en W 0 1 t : Int)) = x := by
    intro x
    rw [h.mem_iff]
    unfold firstW
    simp only [List.mem_map, List.mem_range]
  have hl := h.length_eq
  have h4 : (firstW W 4).length = 4 := by simp [firstW]
  refine ⟨fun x hx => ?_, fun x hx => ?_, fun t ht => ?_, fun _ _ _ _ h => by simp at h, fun _ h => by simp at h, fun _ h => by simp at h, fun _ h => by simp at h, List.nodup_nil, by simp only [List.length_nil]; omega⟩
  · obtain ⟨t, ht, rfl⟩ := (hm x).1 hx
    exact ⟨32, nx t, en W 0 1 t, rfl, .first t ht⟩
  · obtain ⟨t, ht, rfl⟩ := (hm x).1 hx
    have := en_le hW 0 1 t
    show (en W 0 1 t : Int) ≤ 28 * (((0 : Nat) : Int) + 1)
    omega
  · exact .inr ⟨_, (hm _).2 ⟨t, ht, rfl⟩, rfl, Int.le_refl _⟩
set_option maxRecDepth 100000 in
set_option maxHeartbeats 8000000 in
theorem dbegin_calls (hT : TP w) (h : DS w n₀ g m a b c d v [] []) (hn : n₀ ≤ w.heap.size) (hW : ∀ q, q < 4 → 0 ≤ wOf a b c d q ∧ wOf a b c d q ≤ 7) :
    Calls Tryd.prog 28 #[.pointer (some ⟨g, 0, none⟩)] w fun e w' =>
      e = .returned (.int .i64 0) ∧ ∃ v' L', DS w' n₀ g m a b c d v' L' [] ∧ Below n₀ w w' ∧ DJ (wOf a b c d) L' [] (fun _ => 0) := by
  have HT := Aside0.mk hT
  have HD := Aside0.mk h
  have HW := Aside0.mk hW
  have HN := Aside0.mk hn
  have hfr := trellis_From.calls 0 _ _ _ _ _ _ _ _ _ _ _ _ _ _ _ w from_0 hT
  obtain ⟨p0, hp0⟩ : ∃ p0, p0 = ob 0 0 0 := ⟨_, rfl⟩
  obtain ⟨p1, hp1⟩ : ∃ p1, p1 = ob 0 0 1 := ⟨_, rfl⟩
  obtain ⟨p2, hp2⟩ : ∃ p2, p2 = ob 0 0 2 := ⟨_, rfl⟩
  obtain ⟨p3, hp3⟩ : ∃ p3, p3 = ob 0 0 3 := ⟨_, rfl⟩
  obtain ⟨q0, hq0⟩ : ∃ q0, q0 = ob 0 1 0 := ⟨_, rfl⟩
  obtain ⟨q1, hq1⟩ : ∃ q1, q1 = ob 0 1 1 := ⟨_, rfl⟩
  obtain ⟨q2, hq2⟩ : ∃ q2, q2 = ob 0 1 2 := ⟨_, rfl⟩
  obtain ⟨q3, hq3⟩ : ∃ q3, q3 = ob 0 1 3 := ⟨_, rfl⟩
  rw [← hp0, ← hp1, ← hp2, ← hp3, ← hq0, ← hq1, ← hq2, ← hq3] at hfr
  have HQ := Aside0.mk (And.intro hq0 (And.intro hq1 (And.intro hq2 hq3)))
  have HFR := Aside0.mk hfr
  clear hT h hW hn hp0 hp1 hp2 hp3 hq0 hq1 hq2 hq3 hfr
  go_enter Tryd.func28, Tryd.ntmps28
  go_wp2_with (first
    | (go_at_call 38; refine Aside0.out ?_)
    | fail)
  refine Aside0.mk ?_
  refine HFR.out.mono ?_
  rintro e w1 ⟨rfl, hb1⟩
  have HB1 := Aside0.mk hb1
  clear hb1 HFR
  go_wp2_with fail
  have hba := below_alloc (Below.refl w1.heap.size w1) (.cells #[.int .i64 0, .int .i64 0, .int .u8 0, .int .u8 p0, .int .u8 p1, .int .u8 p2, .int .u8 p3, .int .i64 0, .int .i64 32, .int .u8 1, .int .u8 q0, .int .u8 q1, .int .u8 q2, .int .u8 q3] 80)
  have hbb := blk_new w1 (.cells #[.int .i64 0, .int .i64 0, .int .u8 0, .int .u8 p0, .int .u8 p1, .int .u8 p2, .int .u8 p3, .int .i64 0, .int .i64 32, .int .u8 1, .int .u8 q0, .int .u8 q1, .int .u8 q2, .int .u8 q3] 80)
  obtain ⟨w2, hw2⟩ : ∃ w2, w2 = w1.alloc (.cells #[.int .i64 0, .int .i64 0, .int .u8 0, .int .u8 p0, .int .u8 p1, .int .u8 p2, .int .u8 p3, .int .i64 0, .int .i64 32, .int .u8 1, .int .u8 q0, .int .u8 q1, .int .u8 q2, .int .u8 q3] 80) := ⟨_, rfl⟩
  obtain ⟨B, hB⟩ : ∃ B, B = w1.heap.size := ⟨_, rfl⟩
  rw [← hw2] at hba hbb
  rw [← hB] at hbb
  rw [← hw2, ← hB]
  have hb2 := below_step HB1.out hba
  have HD2 := Aside0.mk (HD.out.below hb2)
  have HB2 := Aside0.mk (show Below n₀ w w2 from ⟨hb2.os, hb2.tape, hb2.output, hb2.size, fun k hk => hb2.block k (Nat.lt_of_lt_of_le hk HN.out)⟩)
  have HBK := Aside0.mk hbb
  have HBG := Aside0.mk (show B ≠ g by have := HD.out.hs.lt; have := HB1.out.size; omega)
  clear hba hbb hw2 hB hb2
  go_loopw [13] (fun v13 wr => ∃ (j : Nat) (v : Value) (L : List Wy), v13 = .int .i64 (j : Int) ∧ j ≤ 4 ∧ Aside0 (DS wr n₀ g m a b c d v L []) ∧ Aside0 (Below n₀ w wr) ∧ Aside0 (wr.heap[B]? = some (.cells #[.int .i64 0, .int .i64 0, .int .u8 0, .int .u8 p0, .int .u8 p1, .int .u8 p2, .int .u8 p3, .int .i64 0, .int .i64 32, .int .u8 1, .int .u8 q0, .int .u8 q1, .int .u8 q2, .int .u8 q3] 80 (0, 0))) ∧ Aside0 (L.Perm (firstW (wOf a b c d) j))) (fun v13 _ => 4 - (intOf v13).toNat)
  case atStart => exact ⟨0, v, [], by simp, by omega, HD2, HB2, HBK, ⟨List.Perm.refl _⟩⟩
  case round =>
    clear HD2 HB2 HBK
    obtain ⟨j, v, L, rfl, hj, HD2, HB2, HBK, HP⟩ := hrel
    by_cases hlt : j < 4
    · have hlb : decide ((j : Int) < 4) = true := decide_eq_true (nat4 hlt)
      have hj4 := nat4 hlt
      have hc7 : wr.cell? ⟨B, 7, none⟩ = _ := blk_cell HBK.out 7
      have hc8 : wr.cell? ⟨B, 8, none⟩ = _ := blk_cell HBK.out 8
      have hc9 : wr.cell? ⟨B, 9, none⟩ = _ := blk_cell HBK.out 9
      have hc10 : wr.cell? ⟨B, 10, none⟩ = _ := blk_cell HBK.out 10
      have hc11 : wr.cell? ⟨B, 11, none⟩ = _ := blk_cell HBK.out 11
      have hc12 : wr.cell? ⟨B, 12, none⟩ = _ := blk_cell HBK.out 12
      have hc13 : wr.cell? ⟨B, 13, none⟩ = _ := blk_cell HBK.out 13
      have hll : L.length = j := by rw [HP.out.length_eq]; simp [firstW]
      have had := add_way (s := 0) (i := 1) (t := j) HD2.out (Nat.le_trans HN.out HB2.out.size) HW.out 0 32 1 hlt 0 ⟨by decide, by decide⟩ (by rw [hll]; exact Nat.lt_of_lt_of_le hlt (by decide))
      rw [← HQ.out.1, ← HQ.out.2.1, ← HQ.out.2.2.1, ← HQ.out.2.2.2] at had
      have HAD := Aside0.mk had
      clear had hll
      go_wp2_with (first
        | (go_at_call 39; refine Aside0.out ?_)
        | fail)
      refine Aside0.mk ?_
      refine HAD.out.mono ?_
      rintro e w3 ⟨rfl, v3, L3, hD3, hF3, hN3, hA3⟩
      have hne : some B ≠ v.ownBlock := Kd.R_ne HD2.out.hs.row HBK.out (by decide)
      have hB3 := (hF3.block B (blk_lt HBK.out) HBG.out hne).trans HBK.out
      have hb3 := HB2.out.trans (HD2.out.fr hF3 (Nat.le_trans HN.out HB2.out.size))
      have hP3 : L3.Perm (firstW (wOf a b c d) (j + 1)) := by
        unfold AddP at hA3
        rw [if_neg (by simp), Int.zero_add, ew_nat HW.out] at hA3
        rw [firstW_succ]
        exact hA3.trans (HP.out.append_right _)
      have H3 := Aside0.mk (And.intro hD3 (And.intro hb3 (And.intro hB3 hP3)))
      clear hD3 hF3 hN3 hA3 hne hB3 hb3 hP3 HAD hc7 hc8 hc9 hc10 hc11 hc12 hc13
      go_wp2_with fail
      go_roundw
      case rel => exact ⟨j + 1, v3, L3, by simp, by omega, ⟨H3.out.1⟩, ⟨H3.out.2.1⟩, ⟨H3.out.2.2.1⟩, ⟨H3.out.2.2.2⟩⟩
      case measure => simp [intOf]; omega
    · obtain rfl : j = 4 := by omega
      have hlb : decide (((4 : Nat) : Int) < 4) = false := by decide
      go_wp2_with fail
      go_ret
      exact ⟨by simp, v, L, HD2.out, HB2.out, DJ.start HW.out HP.out⟩
end Go.Proofs.YteileaajmnbmpaaDoor.P
-- YteileaajmnbmpaaDoorPDRun
namespace Go.Proofs.YteileaajmnbmpaaDoor.P
open Go Go.Proofs Go.RowKit Go.Proofs.YteileaajmnbmpaaDoorW.PrintWords Go.Proofs.YteileaajmnbmpaaDoorW.PrintLast Go.Proofs.YteileaajmnbmpaaDoorW.PrintMore
set_option linter.unusedVariables false
set_option linter.unusedSimpArgs false

variable {w w' : World} {n₀ g m : Nat} {a b c d : Int} {v v' : Value} {L L' : List Wy} {ps ps' : List (Int × Int)}
theorem TP.bel (h : TP w) (h0 : 0 < n₀) (hb : Below n₀ w w') : TP w' := by
  have e : ∀ i, w'.cell? ⟨0, i, none⟩ = w.cell? ⟨0, i, none⟩ := fun i => World.cell?_of_block (w := w) (hb.block 0 h0)
  exact ⟨(e 0).trans h.c0, (e 1).trans h.c1, (e 2).trans h.c2, (e 3).trans h.c3⟩
theorem DS.put {o : Obj} (h : DS w n₀ g m a b c d v L ps) (hm : MapIs (ChangeMaps.setBlock w m o) m ps') : DS (ChangeMaps.setBlock w m o) n₀ g m a b c d v L ps' ∧ Below n₀ w (ChangeMaps.setBlock w m o) ∧ ∀ k, k ≠ m → (ChangeMaps.setBlock w m o).heap[k]? = w.heap[k]? := by
  obtain ⟨es, cl, hb, _⟩ := h.map
  have hk : ∀ k, k ≠ m → (ChangeMaps.setBlock w m o).heap[k]? = w.heap[k]? := fun k hk => ChangeMaps.heap_setBlock_other hb o (fun e => hk e)
  refine ⟨⟨⟨(hk g h.mne.1.symm).trans h.hs.blk, ?_, h.hs.low⟩, hm, h.mlow, h.heap⟩, ⟨rfl, rfl, rfl, by show _ ≤ (w.heap.setIfInBounds m o).size; simp, fun k hkn => hk k (by have := h.mlow; omega)⟩, hk⟩
  refine Kd.R_mono (Kd.R_move (Kd.R_bound h.hs.row) (fun k ok => hk k (fun e => ?_))) (fun _ _ => trivial)
  obtain ⟨_, _, _, q, _, cells, hc⟩ := ok
  rw [e, hb] at hc
  cases hc
/-- How much is left to be done. -/
def dmsOf (w : World) (g m : Nat) : Nat := 3 * (256 - (match w.heap[m]? with | some (.map es _) => es.size | _ => 0)) + (match w.cell? ⟨g, 4, none⟩ with | some (.slice _ n _) => n | _ => 0)
theorem DS.dms (h : DS w n₀ g m a b c d v L ps) : dmsOf w g m = 3 * (256 - ps.length) + L.length := by
  obtain ⟨es, cl, hb, he⟩ := h.map
  obtain ⟨A, cc, e⟩ := h.hs.slice
  have h4 : w.cell? ⟨g, 4, none⟩ = some v := blk_cell h.hs.blk 4
  have hl := congrArg List.length he
  simp only [List.length_map] at hl
  unfold dmsOf
  rw [hb, h4, e]
  show 3 * (256 - es.size) + L.length = _
  rw [← hl]; rfl
/-- What is left of ways, behind j edges. -/
def AJ (L1 : List Wy) (ps : List (Int × Int)) (x0 x1 : Wy) : Nat → List Wy → Prop
  | 0, L => L = L1
  | 1, L => AddP L1 L ps x0
  | _, L => ∃ L2, AddP L1 L2 ps x0 ∧ AddP L2 L ps x1
theorem AJ.le {L1 L : List Wy} {ps : List (Int × Int)} {x0 x1 : Wy} {j : Nat} (h : AJ L1 ps x0 x1 j L) : L.length ≤ L1.length + 2 := by
  match j, h with
  | 0, h => rw [show L = L1 from h]; omega
  | 1, h => have := (add_sub (show AddP L1 L ps x0 from h)).2.2.1; omega
  | j + 2, h =>
    obtain ⟨L2, h1, h2⟩ := h
    have := (add_sub h1).2.2.1
    have := (add_sub h2).2.2.1
    omega
def run7.T : Bool × List (List Nat × List Nat) := (true, [([], []), ([0], [0]), ([1], [1]), ([2], [2]), ([], []), ([4], [4]), ([3, 5], [3, 5])])
def run7.B : List Nat := [0, 1, 3, 7, 0, 16, 63]
theorem run7.tab : rtab .any (opsOf Tryd.f29 7) = run7.T := by kernel_rfl
theorem run7.bits : waitsOk run7.T.2 run7.B = true := by kernel_rfl
def run8.T : Bool × List (List Nat × List Nat) := (true, [([], []), ([0], [0]), ([1], [1]), ([2], [2]), ([], []), ([4], [4]), ([3, 5, 0, 1, 2, 3, 4, 5], [3, 5])])
def run8.B : List Nat := [0, 1, 3, 7, 0, 16, 63]
theorem run8.tab : rtab .any (opsOf Tryd.f29 8) = run8.T := by kernel_rfl
theorem run8.bits : waitsOk run8.T.2 run8.B = true := by kernel_rfl
set_option maxRecDepth 100000 in
set_option maxHeartbeats 16000000 in
theorem drun_calls (hT : TP w) (h0 : 0 < n₀) (hn : n₀ ≤ w.heap.size) (h : DS w n₀ g m a b c d v L ps) {D : Int × Int → Nat} (hJ : DJ (wOf a b c d) L ps D) (hW : ∀ q, q < 4 → 0 ≤ wOf a b c d q ∧ wOf a b c d q ≤ 7) :
    Calls Tryd.prog 29 #[.pointer (some ⟨g, 0, none⟩)] w fun e w' =>
      ∃ n : Nat, e = .returned (.tuple #[.int .i64 (n : Int), .int .i64 0]) ∧ IsLeast (wOf a b c d) n ∧ Below n₀ w w' := by
  have hta := ta88
  have HT := Aside0.mk hT
  have HW := Aside0.mk hW
  have HN := Aside0.mk hn
  have H0 := Aside0.mk h0
  have HD := Aside0.mk h
  have HJ := Aside0.mk hJ
  clear hT hW hn h0 h hJ
  go_enter Tryd.func29, Tryd.ntmps29
  go_wp2_with fail
  go_loopw [2] (fun v2 wr => ∃ (v : Value) (L : List Wy) (ps : List (Int × Int)) (D : Int × Int → Nat), Aside0 (DS wr n₀ g m a b c d v L ps) ∧ Aside0 (DJ (wOf a b c d) L ps D) ∧ Aside0 (Below n₀ w wr)) (fun _ wr => dmsOf wr g m)
  case atStart => exact ⟨v, L, ps, D, HD, HJ, ⟨Below.refl _ _⟩⟩
  case round =>
    clear HD HJ
    obtain ⟨v, L, ps, D, HD, HJ, HB⟩ := hrel
    obtain ⟨A, cc, ev⟩ := HD.out.hs.slice
    have hlen := HJ.out.some HW.out
    have hcnt := HJ.out.cnt
    have HMS := Aside0.mk HD.out.dms
    obtain ⟨N, hN⟩ : ∃ N, N = L.length := ⟨_, rfl⟩
    have hc4 : wr.cell? ⟨g, 4, none⟩ = some (.slice A N cc) := by rw [hN, ← ev]; exact blk_cell HD.out.hs.blk 4
    have hlb : decide ((0 : Int) < (N : Int)) = true := decide_eq_true (by omega)
    have hNp : 0 < N := by omega
    have hpop := hpop_calls HD.out.hs HD.out.heap hlen (by omega)
    have HLEN := Aside0.mk (And.intro hlen hcnt)
    obtain ⟨x, hx⟩ : ∃ x, x = L.getD 0 (0, 0, 0) := ⟨_, rfl⟩
    have hxm : x ∈ L := by rw [hx, getD_at L 0 hlen]; exact List.getElem_mem hlen
    have hmin : ∀ y, y ∈ L → x.2.2 ≤ y.2.2 := by
      intro y hy
      obtain ⟨k, hk, rfl⟩ := List.getElem_of_mem hy
      have := root_le HD.out.heap k hk
      unfold farOf at this
      rw [← hx, getD_at L k hk] at this
      exact this
    rw [← hx] at hpop
    obtain ⟨s, t, n, hxe, hway⟩ := HJ.out.way x hxm
    subst hxe
    have HPOP := Aside0.mk hpop
    have HX := Aside0.mk (And.intro hxm (And.intro hmin hway))
    clear hlen hcnt hpop hx hxm hmin hway ev hN
    go_wp2_with (first
      | (go_at_call 40; refine Aside0.out ?_)
      | fail)
    refine Aside0.mk ?_
    refine HPOP.out.mono ?_
    rintro e w1 ⟨rfl, v1, L1, hH1, hF1, hN1, hP1, hh1⟩
    have hm1 := hF1.block m HD.out.mlt HD.out.mne.1 HD.out.mne.2
    have hD1 : DS w1 n₀ g m a b c d v1 L1 ps := ⟨hH1, HD.out.map.of_block hm1, HD.out.mlow, hh1⟩
    have hB1 := HB.out.trans (HD.out.fr hF1 (Nat.le_trans HN.out HB.out.size))
    have H1 := Aside0.mk (And.intro hD1 (And.intro hB1 hP1))
    clear hH1 hF1 hN1 hP1 hh1 hm1 hD1 hB1 HPOP hc4
    by_cases hs0 : s = 0
    · subst hs0
      go_wp2_with fail
      go_ret2
      have hb := below_alloc (Below.refl w1.heap.size w1) (.cells #[.int .i64 0, .int .i64 (t : Int), .int .i64 (n : Int)] 87)
      have hn1 : n₀ ≤ w1.heap.size := Nat.le_trans HN.out H1.out.2.1.size
      exact ⟨n, by simp, HJ.out.least HX.out.1 HX.out.2.1 rfl, H1.out.2.1.trans ⟨hb.os, hb.tape, hb.output, hb.size, fun k hk => hb.block k (Nat.lt_of_lt_of_le hk hn1)⟩⟩
    · have hsb : ((s : Int) == 0) = false := beq_eq_false_iff_ne.mpr (by omega)
      go_wp2_with fail
      have hba := below_alloc (Below.refl w1.heap.size w1) (.cells #[.int .i64 (s : Int), .int .i64 (t : Int), .int .i64 (n : Int)] 87)
      have hbb := blk_new w1 (.cells #[.int .i64 (s : Int), .int .i64 (t : Int), .int .i64 (n : Int)] 87)
      obtain ⟨w2, hw2⟩ : ∃ w2, w2 = w1.alloc (.cells #[.int .i64 (s : Int), .int .i64 (t : Int), .int .i64 (n : Int)] 87) := ⟨_, rfl⟩
      obtain ⟨Y, hY⟩ : ∃ Y, Y = w1.heap.size := ⟨_, rfl⟩
      have hYg : Y ≠ g ∧ some Y ≠ v1.ownBlock ∧ Y ≠ m := by
        refine ⟨?_, fun e => ?_, ?_⟩
        · have := H1.out.1.hs.lt; omega
        · have := (H1.out.1.hs.own Y e.symm).2; omega
        · have := H1.out.1.mlt; omega
      have hn1 : n₀ ≤ w1.heap.size := Nat.le_trans HN.out H1.out.2.1.size
      rw [← hw2] at hba hbb
      rw [← hY] at hbb
      rw [← hw2, ← hY]
      have HY := Aside0.mk hbb
      have HYG := Aside0.mk hYg
      have H2 := Aside0.mk (And.intro (H1.out.1.below hba) (H1.out.2.1.trans (show Below n₀ w1 w2 from ⟨hba.os, hba.tape, hba.output, hba.size, fun k hk => hba.block k (Nat.lt_of_lt_of_le hk hn1)⟩)))
      have HS := Aside0.mk (show w2.drew.cell? ⟨g, 5, none⟩ = some (.map (some m)) ∧ w2.drew.cell? ⟨Y, 0, none⟩ = some (.int .i64 (s : Int)) ∧ w2.drew.cell? ⟨Y, 1, none⟩ = some (.int .i64 (t : Int)) ∧ MapIs w2.drew m ps from
        ⟨blk_cell H2.out.1.hs.blk 5, blk_cell HY.out 0, blk_cell HY.out 1, (H2.out.1.below (below_drew1 (Below.refl _ _))).map⟩)
      clear hba hbb hw2 hY hYg hn1
      refine start_ (n := 7) (S := (fun w' => w'.cell? ⟨g, 5, none⟩ = some (.map (some m)) ∧ w'.cell? ⟨Y, 0, none⟩ = some (.int .i64 (s : Int)) ∧ w'.cell? ⟨Y, 1, none⟩ = some (.int .i64 (t : Int)) ∧ MapIs w' m ps)) (ds := []) #[false, false, false, false, false, false, false] (by kernel_rfl) rfl rfl HS.out (fun hHeld => ?_)
      refine with_tabW run7.tab run7.bits (fun HT_ HW_ => ?_)
      refine pure_ (i := 0) (N := some 33) (v := ?_) (a' := ?_) #[true, false, false, false, false, false, false] rfl rfl (any_of HT_.out (by kernel_rfl)) (fun _ _ _ h => h) (Or.inl ⟨by rfl, ?_⟩) ?_ ?_
      rotate_left
      · intro w'
        go_simp
        with_reducible rfl
      rotate_left
      · simp only [Act.put, List.setIfInBounds_toArray, List.set_cons_zero, List.set_cons_succ, i64_w, i32_w]
        rfl
      refine pure_ (i := 1) (N := some 34) (v := ?_) (a' := ?_) #[true, true, false, false, false, false, false] rfl rfl (any_of HT_.out (by kernel_rfl)) (fun _ _ _ h => h) (Or.inl ⟨by rfl, ?_⟩) ?_ ?_
      rotate_left
      · intro w'
        go_simp
        with_reducible rfl
      rotate_left
      · simp only [Act.put, List.setIfInBounds_toArray, List.set_cons_zero, List.set_cons_succ, i64_w, i32_w]
        rfl
      refine pure_ (i := 2) (N := some 35) (v := ?_) (a' := ?_) #[true, true, true, false, false, false, false] rfl rfl (any_of HT_.out (by kernel_rfl)) (fun _ _ _ h => h) (Or.inl ⟨by rfl, ?_⟩) ?_ ?_
      rotate_left
      · intro w'
        go_simp
        with_reducible rfl
      rotate_left
      · simp only [Act.put, List.setIfInBounds_toArray, List.set_cons_zero, List.set_cons_succ, i64_w, i32_w]
        rfl
      refine take_ (i := 3) (N := some 36) (v := ?_) (a' := ?_) #[true, true, true, true, false, false, false] rfl rfl (take_ofW HT_.out HW_.out (by kernel_rfl)) (fun _ _ _ h => h) (Or.inl ⟨by rfl, ?_⟩) hHeld ?_ ?_
      rotate_left
      · rintro w' ⟨s0, s1, s2, s3⟩
        go_simp
        with_reducible rfl
      rotate_left
      · simp only [Act.put, List.setIfInBounds_toArray, List.set_cons_zero, List.set_cons_succ, i64_w, i32_w]
        rfl
      refine pure_ (i := 4) (N := some 37) (v := ?_) (a' := ?_) #[true, true, true, true, true, false, false] rfl rfl (any_of HT_.out (by kernel_rfl)) (fun _ _ _ h => h) (Or.inl ⟨by rfl, ?_⟩) ?_ ?_
      rotate_left
      · intro w'
        go_simp
        with_reducible rfl
      rotate_left
      · simp only [Act.put, List.setIfInBounds_toArray, List.set_cons_zero, List.set_cons_succ, i64_w, i32_w]
        rfl
      refine take_ (i := 5) (N := some 38) (v := ?_) (a' := ?_) #[true, true, true, true, true, true, false] rfl rfl (take_ofW HT_.out HW_.out (by kernel_rfl)) (fun _ _ _ h => h) (Or.inl ⟨by rfl, ?_⟩) hHeld ?_ ?_
      rotate_left
      · rintro w' ⟨s0, s1, s2, s3⟩
        go_simp
        with_reducible rfl
      rotate_left
      · simp only [Act.put, List.setIfInBounds_toArray, List.set_cons_zero, List.set_cons_succ, i64_w, i32_w]
        rfl
      refine take_ (i := 6) (N := some 39) (v := ?_) (a' := ?_) #[true, true, true, true, true, true, true] rfl rfl (take_ofW HT_.out HW_.out (by kernel_rfl)) (fun _ _ _ h => h) (Or.inl ⟨by rfl, ?_⟩) hHeld ?_ ?_
      rotate_left
      · rintro w' ⟨s0, s1, s2, s3⟩
        have hl := look_run s3 (s : Int) (t : Int); unfold plK at hl; go_simp; with_reducible rfl
      rotate_left
      · simp only [Act.put, List.setIfInBounds_toArray, List.set_cons_zero, List.set_cons_succ, i64_w, i32_w]
        rfl
      refine done_ (done_of HT_.out (by kernel_rfl)) ?_
      clear hHeld
      by_cases hin : ((s : Int), (t : Int)) ∈ ps
      · rw [decide_eq_true hin]
        have hJ2 := HJ.out.again H1.out.2.2 hin
        have hl2 := H1.out.2.2.length_eq
        rw [List.length_cons] at hl2
        have hD2 := H2.out.1.below (below_drew1 (Below.refl _ _))
        have H3 := Aside0.mk (And.intro hJ2 (And.intro hl2 hD2))
        have HB3 := Aside0.mk (below_drew1 H2.out.2)
        clear hin hJ2 hl2 hD2
        obtain ⟨w3, hw3⟩ : ∃ w3, w3 = w2.drew := ⟨_, rfl⟩
        rw [← hw3] at H3 HB3 ⊢
        clear hw3 HS
        go_wp2_with fail
        go_roundw
        case rel => exact ⟨v1, L1, ps, D, ⟨H3.out.2.2⟩, ⟨H3.out.1⟩, HB3⟩
        case measure => rw [HMS.out, H3.out.2.2.dms]; have := H3.out.2.1; omega
      · rw [decide_eq_false hin]
        have HIN := Aside0.mk hin
        clear hin HS
        go_wp2_with fail
        have hD3 := H2.out.1.below (below_drew1 (below_drew1 (Below.refl w2.heap.size w2)))
        obtain ⟨o, hrun, hmap⟩ := put_run hD3.map (s : Int) (t : Int) HIN.out
        unfold plK at hrun
        have HRUN := Aside0.mk hrun
        have hput := hD3.put hmap
        have hY3 := (hput.2.2 Y HYG.out.2.2).trans (show w2.drew.drew.heap[Y]? = _ from HY.out)
        have hb3 := (below_drew1 (below_drew1 H2.out.2)).trans hput.2.1
        have H3 := Aside0.mk (And.intro hput.1 (And.intro hb3 hY3))
        have HS3 := Aside0.mk (show w2.drew.drew.cell? ⟨g, 5, none⟩ = some (.map (some m)) ∧ w2.drew.drew.cell? ⟨Y, 0, none⟩ = some (.int .i64 (s : Int)) ∧ w2.drew.drew.cell? ⟨Y, 1, none⟩ = some (.int .i64 (t : Int)) from
          ⟨blk_cell hD3.hs.blk 5, blk_cell HY.out 0, blk_cell HY.out 1⟩)
        clear hD3 hrun hmap hput hY3 hb3
        refine start_ (n := 7) (S := (fun w' => w'.cell? ⟨g, 5, none⟩ = some (.map (some m)) ∧ w'.cell? ⟨Y, 0, none⟩ = some (.int .i64 (s : Int)) ∧ w'.cell? ⟨Y, 1, none⟩ = some (.int .i64 (t : Int)))) (ds := [6]) #[false, false, false, false, false, false, false] (by kernel_rfl) rfl rfl HS3.out (fun hHeld => ?_)
        refine with_tabW run8.tab run8.bits (fun HT_ HW_ => ?_)
        refine pure_ (i := 0) (N := some 40) (v := ?_) (a' := ?_) #[true, false, false, false, false, false, false] rfl rfl (any_of HT_.out (by kernel_rfl)) (fun _ _ _ h => h) (Or.inl ⟨by rfl, ?_⟩) ?_ ?_
        rotate_left
        · intro w'
          go_simp
          with_reducible rfl
        rotate_left
        · simp only [Act.put, List.setIfInBounds_toArray, List.set_cons_zero, List.set_cons_succ, i64_w, i32_w]
          rfl
        refine pure_ (i := 1) (N := some 41) (v := ?_) (a' := ?_) #[true, true, false, false, false, false, false] rfl rfl (any_of HT_.out (by kernel_rfl)) (fun _ _ _ h => h) (Or.inl ⟨by rfl, ?_⟩) ?_ ?_
        rotate_left
        · intro w'
          go_simp
          with_reducible rfl
        rotate_left
        · simp only [Act.put, List.setIfInBounds_toArray, List.set_cons_zero, List.set_cons_succ, i64_w, i32_w]
          rfl
        refine pure_ (i := 2) (N := some 42) (v := ?_) (a' := ?_) #[true, true, true, false, false, false, false] rfl rfl (any_of HT_.out (by kernel_rfl)) (fun _ _ _ h => h) (Or.inl ⟨by rfl, ?_⟩) ?_ ?_
        rotate_left
        · intro w'
          go_simp
          with_reducible rfl
        rotate_left
        · simp only [Act.put, List.setIfInBounds_toArray, List.set_cons_zero, List.set_cons_succ, i64_w, i32_w]
          rfl
        refine take_ (i := 3) (N := some 43) (v := ?_) (a' := ?_) #[true, true, true, true, false, false, false] rfl rfl (take_ofW HT_.out HW_.out (by kernel_rfl)) (fun _ _ _ h => h) (Or.inl ⟨by rfl, ?_⟩) hHeld ?_ ?_
        rotate_left
        · rintro w' ⟨s0, s1, s2⟩
          go_simp
          with_reducible rfl
        rotate_left
        · simp only [Act.put, List.setIfInBounds_toArray, List.set_cons_zero, List.set_cons_succ, i64_w, i32_w]
          rfl
        refine pure_ (i := 4) (N := some 44) (v := ?_) (a' := ?_) #[true, true, true, true, true, false, false] rfl rfl (any_of HT_.out (by kernel_rfl)) (fun _ _ _ h => h) (Or.inl ⟨by rfl, ?_⟩) ?_ ?_
        rotate_left
        · intro w'
          go_simp
          with_reducible rfl
        rotate_left
        · simp only [Act.put, List.setIfInBounds_toArray, List.set_cons_zero, List.set_cons_succ, i64_w, i32_w]
          rfl
        refine take_ (i := 5) (N := some 45) (v := ?_) (a' := ?_) #[true, true, true, true, true, true, false] rfl rfl (take_ofW HT_.out HW_.out (by kernel_rfl)) (fun _ _ _ h => h) (Or.inl ⟨by rfl, ?_⟩) hHeld ?_ ?_
        rotate_left
        · rintro w' ⟨s0, s1, s2⟩
          go_simp
          with_reducible rfl
        rotate_left
        · simp only [Act.put, List.setIfInBounds_toArray, List.set_cons_zero, List.set_cons_succ, i64_w, i32_w]
          rfl
        refine last_ (i := 6) (N := none) #[true, true, true, true, true, true, true] rfl rfl (one_of HT_.out (by kernel_rfl)) (by decide) (fun K hK => ?_)
        have hrun := HRUN.out
        refine skip_ (w1 := ?_) (by rfl) rfl ?_ ?_
        rotate_left 1
        · go_simp
          rfl
        refine hK.out _ _ ?_
        clear hK K
        refine done_ (done_of HT_.out (by kernel_rfl)) ?_
        clear hrun
        have hway := HX.out.2.2
        have hst := hway.lt
        have hnle : (n : Int) ≤ 28 * 257 := by
          have h1 := HJ.out.far _ HX.out.1
          have h2 := HJ.out.le
          have h1 : (n : Int) ≤ 28 * ((ps.length : Int) + 1) := h1
          omega
        have HNL := Aside0.mk hnle
        have hl2 := H1.out.2.2.length_eq
        rw [List.length_cons] at hl2
        have HL2 := Aside0.mk hl2
        obtain ⟨w4, hw4⟩ : ∃ w4, w4 = ChangeMaps.setBlock w2.drew.drew m o := ⟨_, rfl⟩
        rw [← hw4] at H3 ⊢
        obtain ⟨ps2, hps2⟩ : ∃ ps2, ps2 = ps ++ [((s : Int), (t : Int))] := ⟨_, rfl⟩
        rw [← hps2] at H3
        have HPS := Aside0.mk hps2
        have hs64 : s < 64 := hst.1
        have ht4 : t < 4 := hst.2
        have hY0 : w4.cell? ⟨Y, 0, none⟩ = some (.int .i64 (s : Int)) := blk_cell H3.out.2.2 0
        have hfr := trellis_From.calls (s : Int) _ _ _ _ _ _ _ _ _ _ _ _ _ _ _ w4 (from_f s hs64) (HT.out.bel H0.out H3.out.2.1)
        obtain ⟨p0, hp0⟩ : ∃ p0, p0 = ob s 0 0 := ⟨_, rfl⟩
        obtain ⟨p1, hp1⟩ : ∃ p1, p1 = ob s 0 1 := ⟨_, rfl⟩
        obtain ⟨p2, hp2⟩ : ∃ p2, p2 = ob s 0 2 := ⟨_, rfl⟩
        obtain ⟨p3, hp3⟩ : ∃ p3, p3 = ob s 0 3 := ⟨_, rfl⟩
        obtain ⟨q0, hq0⟩ : ∃ q0, q0 = ob s 1 0 := ⟨_, rfl⟩
        obtain ⟨q1, hq1⟩ : ∃ q1, q1 = ob s 1 1 := ⟨_, rfl⟩
        obtain ⟨q2, hq2⟩ : ∃ q2, q2 = ob s 1 2 := ⟨_, rfl⟩
        obtain ⟨q3, hq3⟩ : ∃ q3, q3 = ob s 1 3 := ⟨_, rfl⟩
        obtain ⟨dI, hdI⟩ : ∃ dI : Nat, dI = s / 2 := ⟨_, rfl⟩
        obtain ⟨dJ, hdJ⟩ : ∃ dJ : Nat, dJ = 32 + s / 2 := ⟨_, rfl⟩
        rw [← hp0, ← hp1, ← hp2, ← hp3, ← hq0, ← hq1, ← hq2, ← hq3, ← hdJ, ← hdI] at hfr
        have HP := Aside0.mk (And.intro hp0 (And.intro hp1 (And.intro hp2 hp3)))
        have HQ := Aside0.mk (And.intro hq0 (And.intro hq1 (And.intro hq2 hq3)))
        have HDD := Aside0.mk (And.intro hdI hdJ)
        have HFR := Aside0.mk hfr
        have HST := Aside0.mk (And.intro hs64 ht4)
        clear hway hst hnle hl2 hw4 hps2 hp0 hp1 hp2 hp3 hq0 hq1 hq2 hq3 hdI hdJ hfr hs64 ht4 HS3 HRUN
        go_wp2_with (first
          | (go_at_call 38; refine Aside0.out ?_)
          | fail)
        refine Aside0.mk ?_
        refine HFR.out.mono ?_
        rintro e w5 ⟨rfl, hb5⟩
        have HB5 := Aside0.mk hb5
        clear hb5 HFR hY0
        go_wp2_with fail
        have hba := below_alloc (Below.refl w5.heap.size w5) (.cells #[.int .i64 (s : Int), .int .i64 (dI : Int), .int .u8 0, .int .u8 p0, .int .u8 p1, .int .u8 p2, .int .u8 p3, .int .i64 (s : Int), .int .i64 (dJ : Int), .int .u8 1, .int .u8 q0, .int .u8 q1, .int .u8 q2, .int .u8 q3] 80)
        obtain ⟨w6, hw6⟩ : ∃ w6, w6 = w5.alloc (.cells #[.int .i64 (s : Int), .int .i64 (dI : Int), .int .u8 0, .int .u8 p0, .int .u8 p1, .int .u8 p2, .int .u8 p3, .int .i64 (s : Int), .int .i64 (dJ : Int), .int .u8 1, .int .u8 q0, .int .u8 q1, .int .u8 q2, .int .u8 q3] 80) := ⟨_, rfl⟩
        rw [← hw6] at hba
        rw [← hw6]
        have hb46 := below_step HB5.out hba
        have hn4 : n₀ ≤ w4.heap.size := Nat.le_trans HN.out H3.out.2.1.size
        have H6 := Aside0.mk (H3.out.1.below hb46)
        have HB6 := Aside0.mk (H3.out.2.1.trans (show Below n₀ w4 w6 from ⟨hb46.os, hb46.tape, hb46.output, hb46.size, fun k hk => hb46.block k (Nat.lt_of_lt_of_le hk hn4)⟩))
        have HY6 := Aside0.mk ((hb46.block Y (blk_lt H3.out.2.2)).trans H3.out.2.2)
        have HG6 := Aside0.mk (show Y ≠ g ∧ some Y ≠ v1.ownBlock from ⟨HYG.out.1, HYG.out.2.1⟩)
        clear hba hw6 hb46 hn4 HB5
        go_loopw [57] (fun v57 wr => ∃ (j : Nat) (v : Value) (L : List Wy), v57 = .int .i64 (j : Int) ∧ j ≤ 2 ∧ Aside0 (DS wr n₀ g m a b c d v L ps2) ∧ Aside0 (Below n₀ w wr) ∧ Aside0 (wr.heap[Y]? = some (.cells #[.int .i64 (s : Int), .int .i64 (t : Int), .int .i64 (n : Int)] 87 (0, 0))) ∧ Aside0 (Y ≠ g ∧ some Y ≠ v.ownBlock) ∧ Aside0 (AJ L1 ps2 ((dst s 0 : Int), (nx t : Int), (n : Int) + en (wOf a b c d) s 0 t) ((dst s 1 : Int), (nx t : Int), (n : Int) + en (wOf a b c d) s 1 t) j L)) (fun v57 _ => 2 - (intOf v57).toNat)
        case atStart => exact ⟨0, v1, L1, by simp, by omega, H6, HB6, HY6, HG6, ⟨rfl⟩⟩
        case round =>
          clear H6 HB6 HY6 HG6
          obtain ⟨j, vv, LL, rfl, hj, HD6, HB6, HY6, HG6, HAJ⟩ := hrel
          have hjc : j = 0 ∨ j = 1 ∨ j = 2 := by omega
          rcases hjc with rfl | rfl | rfl
          · skip
            have hix := fun w' => idx78_0 (.int .i64 (s : Int)) (.int .i64 (dI : Int)) (.int .u8 0) (.int .u8 p0) (.int .u8 p1) (.int .u8 p2) (.int .u8 p3) (.int .i64 (s : Int)) (.int .i64 (dJ : Int)) (.int .u8 1) (.int .u8 q0) (.int .u8 q1) (.int .u8 q2) (.int .u8 q3) w'
            go_wp2_with (first
              | ((with_reducible refine gate_ (.load 79 (.tmp 9)) rfl ?_); refine Aside0.out ?_)
              | fail)
            refine Aside0.mk ?_
            have hba := below_alloc (Below.refl wr.heap.size wr) (.cells #[.int .i64 (s : Int), .int .i64 (dI : Int), .int .u8 0, .int .u8 p0, .int .u8 p1, .int .u8 p2, .int .u8 p3] 79)
            have hbb := blk_new wr (.cells #[.int .i64 (s : Int), .int .i64 (dI : Int), .int .u8 0, .int .u8 p0, .int .u8 p1, .int .u8 p2, .int .u8 p3] 79)
            obtain ⟨w7, hw7⟩ : ∃ w7, w7 = wr.alloc (.cells #[.int .i64 (s : Int), .int .i64 (dI : Int), .int .u8 0, .int .u8 p0, .int .u8 p1, .int .u8 p2, .int .u8 p3] 79) := ⟨_, rfl⟩
            obtain ⟨X, hX⟩ : ∃ X, X = wr.heap.size := ⟨_, rfl⟩
            rw [← hw7] at hba hbb
            rw [← hX] at hbb
            rw [← hw7, ← hX]
            have hY7 := (hba.block Y (blk_lt HY6.out)).trans HY6.out
            have hY1 : w7.cell? ⟨Y, 1, none⟩ = some (.int .i64 (t : Int)) := blk_cell hY7 1
            have hY2 : w7.cell? ⟨Y, 2, none⟩ = some (.int .i64 (n : Int)) := blk_cell hY7 2
            have hX0 : w7.cell? ⟨X, 0, none⟩ = _ := blk_cell hbb 0
            have hX1 : w7.cell? ⟨X, 1, none⟩ = _ := blk_cell hbb 1
            have hX2 : w7.cell? ⟨X, 2, none⟩ = _ := blk_cell hbb 2
            have hX3 : w7.cell? ⟨X, 3, none⟩ = _ := blk_cell hbb 3
            have hX4 : w7.cell? ⟨X, 4, none⟩ = _ := blk_cell hbb 4
            have hX5 : w7.cell? ⟨X, 5, none⟩ = _ := blk_cell hbb 5
            have hX6 : w7.cell? ⟨X, 6, none⟩ = _ := blk_cell hbb 6
            have HY7 := Aside0.mk hY7
            have HBA := Aside0.mk hba
            have hD7 := HD6.out.below hba
            have hn7 : n₀ ≤ w7.heap.size := Nat.le_trans HN.out (Nat.le_trans HB6.out.size hba.size)
            have hle := AJ.le HAJ.out
            have had := add_way (s := s) (i := 0) (t := t) hD7 hn7 HW.out (s : Int) (dI : Int) 0 HST.out.2 (n : Int) ⟨by omega, by have := HNL.out; omega⟩ (by have := HL2.out; have := HLEN.out; omega)
            rw [← HP.out.1, ← HP.out.2.1, ← HP.out.2.2.1, ← HP.out.2.2.2, ew_nat HW.out] at had
            have HAD := Aside0.mk had
            have HD7 := Aside0.mk (And.intro hD7 hn7)
            clear hba hbb hD7 hn7 hle had hw7 hX hY7
            go_wp2_with (first
              | (go_at_call 39; refine Aside0.out ?_)
              | fail)
            refine Aside0.mk ?_
            refine HAD.out.mono ?_
            rintro e w8 ⟨rfl, v8, L8, hD8, hF8, hN8, hA8⟩
            have hY8 := (hF8.block Y (blk_lt HY7.out) HG6.out.1 HG6.out.2).trans HY7.out
            have hb7 : Below n₀ wr w7 := ⟨HBA.out.os, HBA.out.tape, HBA.out.output, HBA.out.size, fun k hk => HBA.out.block k (Nat.lt_of_lt_of_le hk (Nat.le_trans HN.out HB6.out.size))⟩
            have hb8 := (HB6.out.trans hb7).trans (HD7.out.1.fr hF8 HD7.out.2)
            have hG8 := apart_newer hN8 (blk_lt HY7.out) HG6.out
            have hde : dst s 0 = dI := by unfold dst; have := HDD.out; omega
            have hJ8 : AJ L1 ps2 ((dst s 0 : Int), (nx t : Int), (n : Int) + en (wOf a b c d) s 0 t) ((dst s 1 : Int), (nx t : Int), (n : Int) + en (wOf a b c d) s 1 t) 1 L8 := by
              rw [← hde] at hA8
              have e0 : LL = L1 := HAJ.out
              rw [e0] at hA8
              exact hA8
            have H8 := Aside0.mk (And.intro hD8 (And.intro hb8 (And.intro hY8 (And.intro hG8 hJ8))))
            clear hD8 hF8 hN8 hA8 hY8 hb7 hb8 hG8 hde hJ8 HAD HD7 HBA HY7 hix hY1 hY2 hX0 hX1 hX2 hX3 hX4 hX5 hX6
            go_wp2_with fail
            go_roundw
            case rel => exact ⟨1, v8, L8, by simp, by omega, ⟨H8.out.1⟩, ⟨H8.out.2.1⟩, ⟨H8.out.2.2.1⟩, ⟨H8.out.2.2.2.1⟩, ⟨H8.out.2.2.2.2⟩⟩
            case measure => simp [intOf]
          · skip
            have hix := fun w' => idx78_1 (.int .i64 (s : Int)) (.int .i64 (dI : Int)) (.int .u8 0) (.int .u8 p0) (.int .u8 p1) (.int .u8 p2) (.int .u8 p3) (.int .i64 (s : Int)) (.int .i64 (dJ : Int)) (.int .u8 1) (.int .u8 q0) (.int .u8 q1) (.int .u8 q2) (.int .u8 q3) w'
            go_wp2_with (first
              | ((with_reducible refine gate_ (.load 79 (.tmp 9)) rfl ?_); refine Aside0.out ?_)
              | fail)
            refine Aside0.mk ?_
            have hba := below_alloc (Below.refl wr.heap.size wr) (.cells #[.int .i64 (s : Int), .int .i64 (dJ : Int), .int .u8 1, .int .u8 q0, .int .u8 q1, .int .u8 q2, .int .u8 q3] 79)
            have hbb := blk_new wr (.cells #[.int .i64 (s : Int), .int .i64 (dJ : Int), .int .u8 1, .int .u8 q0, .int .u8 q1, .int .u8 q2, .int .u8 q3] 79)
            obtain ⟨w7, hw7⟩ : ∃ w7, w7 = wr.alloc (.cells #[.int .i64 (s : Int), .int .i64 (dJ : Int), .int .u8 1, .int .u8 q0, .int .u8 q1, .int .u8 q2, .int .u8 q3] 79) := ⟨_, rfl⟩
            obtain ⟨X, hX⟩ : ∃ X, X = wr.heap.size := ⟨_, rfl⟩
            rw [← hw7] at hba hbb
            rw [← hX] at hbb
            rw [← hw7, ← hX]
            have hY7 := (hba.block Y (blk_lt HY6.out)).trans HY6.out
            have hY1 : w7.cell? ⟨Y, 1, none⟩ = some (.int .i64 (t : Int)) := blk_cell hY7 1
            have hY2 : w7.cell? ⟨Y, 2, none⟩ = some (.int .i64 (n : Int)) := blk_cell hY7 2
            have hX0 : w7.cell? ⟨X, 0, none⟩ = _ := blk_cell hbb 0
            have hX1 : w7.cell? ⟨X, 1, none⟩ = _ := blk_cell hbb 1
            have hX2 : w7.cell? ⟨X, 2, none⟩ = _ := blk_cell hbb 2
            have hX3 : w7.cell? ⟨X, 3, none⟩ = _ := blk_cell hbb 3
            have hX4 : w7.cell? ⟨X, 4, none⟩ = _ := blk_cell hbb 4
            have hX5 : w7.cell? ⟨X, 5, none⟩ = _ := blk_cell hbb 5
            have hX6 : w7.cell? ⟨X, 6, none⟩ = _ := blk_cell hbb 6
            have HY7 := Aside0.mk hY7
            have HBA := Aside0.mk hba
            have hD7 := HD6.out.below hba
            have hn7 : n₀ ≤ w7.heap.size := Nat.le_trans HN.out (Nat.le_trans HB6.out.size hba.size)
            have hle := AJ.le HAJ.out
            have had := add_way (s := s) (i := 1) (t := t) hD7 hn7 HW.out (s : Int) (dJ : Int) 1 HST.out.2 (n : Int) ⟨by omega, by have := HNL.out; omega⟩ (by have := HL2.out; have := HLEN.out; omega)
            rw [← HQ.out.1, ← HQ.out.2.1, ← HQ.out.2.2.1, ← HQ.out.2.2.2, ew_nat HW.out] at had
            have HAD := Aside0.mk had
            have HD7 := Aside0.mk (And.intro hD7 hn7)
            clear hba hbb hD7 hn7 hle had hw7 hX hY7
            go_wp2_with (first
              | (go_at_call 39; refine Aside0.out ?_)
              | fail)
            refine Aside0.mk ?_
            refine HAD.out.mono ?_
            rintro e w8 ⟨rfl, v8, L8, hD8, hF8, hN8, hA8⟩
            have hY8 := (hF8.block Y (blk_lt HY7.out) HG6.out.1 HG6.out.2).trans HY7.out
            have hb7 : Below n₀ wr w7 := ⟨HBA.out.os, HBA.out.tape, HBA.out.output, HBA.out.size, fun k hk => HBA.out.block k (Nat.lt_of_lt_of_le hk (Nat.le_trans HN.out HB6.out.size))⟩
            have hb8 := (HB6.out.trans hb7).trans (HD7.out.1.fr hF8 HD7.out.2)
            have hG8 := apart_newer hN8 (blk_lt HY7.out) HG6.out
            have hde : dst s 1 = dJ := by unfold dst; have := HDD.out; omega
            have hJ8 : AJ L1 ps2 ((dst s 0 : Int), (nx t : Int), (n : Int) + en (wOf a b c d) s 0 t) ((dst s 1 : Int), (nx t : Int), (n : Int) + en (wOf a b c d) s 1 t) 2 L8 := by
              rw [← hde] at hA8
              exact ⟨LL, HAJ.out, hA8⟩
            have H8 := Aside0.mk (And.intro hD8 (And.intro hb8 (And.intro hY8 (And.intro hG8 hJ8))))
            clear hD8 hF8 hN8 hA8 hY8 hb7 hb8 hG8 hde hJ8 HAD HD7 HBA HY7 hix hY1 hY2 hX0 hX1 hX2 hX3 hX4 hX5 hX6
            go_wp2_with fail
            go_roundw
            case rel => exact ⟨2, v8, L8, by simp, by omega, ⟨H8.out.1⟩, ⟨H8.out.2.1⟩, ⟨H8.out.2.2.1⟩, ⟨H8.out.2.2.2.1⟩, ⟨H8.out.2.2.2.2⟩⟩
            case measure => simp [intOf]
          · have hJ3 := HAJ.out
            obtain ⟨L2, hA1, hA2⟩ := hJ3
            rw [HPS.out] at hA1 hA2
            have hJn := HJ.out.next HW.out H1.out.2.2 HX.out.2.1 hs0 HIN.out hA1 hA2
            rw [← HPS.out] at hJn
            have hle := AJ.le HAJ.out
            have hpl : ps2.length = ps.length + 1 := by rw [HPS.out]; simp
            have hp256 := hJn.le
            have HJN := Aside0.mk (And.intro hJn (And.intro hle (And.intro hpl hp256)))
            clear hA1 hA2 hJn hle hpl hp256
            go_wp2_with fail
            go_roundw
            case rel => exact ⟨vv, LL, ps2, _, HD6, ⟨HJN.out.1⟩, HB6⟩
            case measure =>
              rw [HMS.out, HD6.out.dms]
              have h1 := HJN.out.2.1
              have h2 := HJN.out.2.2.1
              have h3 := HJN.out.2.2.2
              have h4 := HL2.out
              omega
end Go.Proofs.YteileaajmnbmpaaDoor.P
namespace Go.Proofs.YteileaajmnbmpaaDoor.P
open Go Go.Proofs Go.RowKit Go.Proofs.YteileaajmnbmpaaDoorW.PrintWords Go.Proofs.YteileaajmnbmpaaDoorW.PrintLast Go.Proofs.YteileaajmnbmpaaDoorW.PrintMore
set_option linter.unusedVariables false
set_option linter.unusedSimpArgs false
-- YteileaajmnbmpaaDoorPDLeast
section
attribute [local go_sem] run_index_arr

theorem blk_new' (w : World) : (w.alloc (.map #[] 0)).heap[w.heap.size]? = some (.map #[] 0) := by
  show (w.heap.push (.map #[] 0))[w.heap.size]? = _
  exact Array.getElem?_push_size
theorem arr22 : Tryd.prog.underlying 36 = some (.array (Tryd.prog.arrayLen 36) (Tryd.prog.elem 36)) := by kernel_rfl
theorem len22 : Tryd.prog.arrayLen 36 = 4 := by kernel_rfl
theorem el22 : Tryd.prog.elem 36 = 3 := by kernel_rfl
theorem idx22 (x0 x1 x2 x3 : Int) (i : Nat) (hi : i < 4) (w : World) : (Instr.index 36 (.agg #[.int .i64 x0, .int .i64 x1, .int .i64 x2, .int .i64 x3]) (.int .i64 (i : Int))).run Tryd.prog w = .ok (.int .i64 (wOf x0 x1 x2 x3 i)) w := by
  rw [run_index_arr w 36 _ .i64 (i : Int) arr22, len22, el22, if_pos (by omega)]
  obtain rfl | rfl | rfl | rfl : i = 0 ∨ i = 1 ∨ i = 2 ∨ i = 3 := by omega
  all_goals kernel_rfl
set_option maxRecDepth 100000 in
set_option maxHeartbeats 8000000 in
theorem dleast_calls (a b c d : Int) {w : World} (hT : TP w) (hw : wok a b c d = true) :
    Calls Tryd.prog 14 #[.agg #[.int .i64 a, .int .i64 b, .int .i64 c, .int .i64 d]] w fun e w' =>
      ∃ n : Nat, e = .returned (.tuple #[.int .i64 (n : Int), .int .i64 0]) ∧ IsLeast (wOf a b c d) n ∧ Below w.heap.size w w' := by
  have HT := Aside0.mk hT
  have HW := Aside0.mk (wok_in hw)
  have hmm := @run_makeMap Tryd.prog
  clear hT hw
  go_enter Tryd.func14, Tryd.ntmps14
  go_wp2_with fail
  have hba := below_alloc (Below.refl w.heap.size w) (.cells #[.int .i64 a, .int .i64 b, .int .i64 c, .int .i64 d] 36)
  have hbb := blk_new w (.cells #[.int .i64 a, .int .i64 b, .int .i64 c, .int .i64 d] 36)
  obtain ⟨w1, hw1⟩ : ∃ w1, w1 = w.alloc (.cells #[.int .i64 a, .int .i64 b, .int .i64 c, .int .i64 d] 36) := ⟨_, rfl⟩
  obtain ⟨x0, hx0⟩ : ∃ x0, x0 = w.heap.size := ⟨_, rfl⟩
  rw [← hw1] at hba hbb
  rw [← hx0] at hbb
  rw [← hw1, ← hx0]
  have H1 := Aside0.mk (And.intro hba hbb)
  clear hba hbb hw1 hx0
  go_loopw [9] (fun v9 wr => ∃ i : Nat, v9 = .int .i64 (i : Int) ∧ i ≤ 4 ∧ wr = w1) (fun v9 _ => 4 - (intOf v9).toNat)
  case atStart => exact ⟨0, by simp, by omega, rfl⟩
  case round =>
    obtain ⟨i, rfl, hi, rfl⟩ := hrel
    by_cases hlt : i < 4
    · have hlb : decide ((i : Int) < 4) = true := decide_eq_true (by omega)
      have hi4 : (i : Int) < 4 := by omega
      have hix := idx22 a b c d i hlt
      have hv := HW.out i hlt
      obtain ⟨y, hy⟩ : ∃ y, y = wOf a b c d i := ⟨_, rfl⟩
      rw [← hy] at hix hv
      have hd1 : decide (y < 0) = false := decide_eq_false (by omega)
      have hd2 : decide (7 < y) = false := decide_eq_false (by omega)
      clear hy
      go_wp2_with fail
      go_roundw
      case rel => exact ⟨i + 1, by simp, by omega, by first | trivial | rfl⟩
      case measure => simp [intOf]; omega
    · obtain rfl : i = 4 := by omega
      have hlb : decide (((4 : Nat) : Int) < 4) = false := by decide
      have hc0 := blk_cell H1.out.2 0
      have hc1 := blk_cell H1.out.2 1
      have hc2 := blk_cell H1.out.2 2
      have hc3 := blk_cell H1.out.2 3
      go_wp2_with (first
        | (go_at_call 28; refine Aside0.out ?_)
        | fail)
      refine Aside0.mk ?_
      have hba := below_alloc (Below.refl wr.heap.size wr) (.map #[] 0)
      have hbb := blk_new' wr
      obtain ⟨w2, hw2⟩ : ∃ w2, w2 = wr.alloc (.map #[] 0) := ⟨_, rfl⟩
      have hz2 : w2.heap.size = wr.heap.size + 1 := by rw [hw2, World.size_alloc]
      obtain ⟨m, hm⟩ : ∃ m, m = wr.heap.size := ⟨_, rfl⟩
      rw [← hw2] at hba hbb
      rw [← hm] at hbb
      rw [← hw2, ← hz2, ← hm]
      have hba2 := below_alloc (Below.refl w2.heap.size w2) (.cells #[.int .i64 a, .int .i64 b, .int .i64 c, .int .i64 d, .slice none 0 0, .map (some m)] 65)
      have hbb2 := blk_new w2 (.cells #[.int .i64 a, .int .i64 b, .int .i64 c, .int .i64 d, .slice none 0 0, .map (some m)] 65)
      obtain ⟨w3, hw3⟩ : ∃ w3, w3 = w2.alloc (.cells #[.int .i64 a, .int .i64 b, .int .i64 c, .int .i64 d, .slice none 0 0, .map (some m)] 65) := ⟨_, rfl⟩
      obtain ⟨g, hg⟩ : ∃ g, g = w2.heap.size := ⟨_, rfl⟩
      rw [← hw3] at hba2 hbb2
      rw [← hg] at hbb2
      rw [← hw3, ← hg]
      have hwr : w.heap.size ≤ wr.heap.size := H1.out.1.size
      have hB3 := below_step (below_step H1.out.1 hba) hba2
      have hDS : DS w3 w.heap.size g m a b c d (.slice none 0 0) [] [] := by
        refine ⟨⟨hbb2, Kd.R_nil _ _ _ _ _, by omega⟩, ⟨#[], 0, (hba2.block m (by omega)).trans hbb, rfl⟩, by omega, fun k h0 hk => absurd hk (Nat.not_lt_zero _)⟩
      have HDS := Aside0.mk hDS
      have HB3 := Aside0.mk hB3
      clear hba hbb hw2 hz2 hm hba2 hbb2 hw3 hg hwr hB3 hDS hc0 hc1 hc2 hc3 hmm
      refine (dbegin_calls (TP_of HT.out HB3.out) HDS.out HB3.out.size HW.out).mono ?_
      rintro e w4 ⟨rfl, v4, L4, hD4, hb4, hJ4⟩
      have HR := Aside0.mk (drun_calls (TP_of HT.out (HB3.out.trans hb4)) HT.out.lt (Nat.le_trans HB3.out.size hb4.size) hD4 hJ4 HW.out)
      have HB4 := Aside0.mk (HB3.out.trans hb4)
      clear hD4 hb4 hJ4 HDS
      go_wp2_with (first
        | (go_at_call 29; refine Aside0.out ?_)
        | fail)
      refine Aside0.mk ?_
      refine HR.out.mono ?_
      rintro e w5 ⟨n, rfl, hl, hb5⟩
      have H5 := Aside0.mk (And.intro hl (HB4.out.trans hb5))
      clear hl hb5 HR
      go_wp2_with fail
      go_ret2
      exact ⟨n, by simp, H5.out.1, H5.out.2⟩
set_option maxRecDepth 100000 in
set_option maxHeartbeats 8000000 in
theorem dleast_bad (a b c d : Int) (w : World) (hw : wok a b c d = false) :
    Calls Tryd.prog 14 #[.agg #[.int .i64 a, .int .i64 b, .int .i64 c, .int .i64 d]] w fun e w' => e = .returned (.tuple #[.int .i64 0, .int .i64 1]) ∧ Below w.heap.size w w' := by
  have HW := Aside0.mk hw
  clear hw
  go_enter Tryd.func14, Tryd.ntmps14
  go_wp2_with fail
  have hba := below_alloc (Below.refl w.heap.size w) (.cells #[.int .i64 a, .int .i64 b, .int .i64 c, .int .i64 d] 36)
  obtain ⟨w1, hw1⟩ : ∃ w1, w1 = w.alloc (.cells #[.int .i64 a, .int .i64 b, .int .i64 c, .int .i64 d] 36) := ⟨_, rfl⟩
  obtain ⟨x0, hx0⟩ : ∃ x0, x0 = w.heap.size := ⟨_, rfl⟩
  rw [← hw1] at hba
  rw [← hw1, ← hx0]
  have H1 := Aside0.mk hba
  clear hba hw1 hx0
  go_loopw [9] (fun v9 wr => ∃ i : Nat, v9 = .int .i64 (i : Int) ∧ i ≤ 4 ∧ wr = w1 ∧ Aside0 (∀ q, q < i → inW (wOf a b c d q) 7 = true)) (fun v9 _ => 4 - (intOf v9).toNat)
  case atStart => exact ⟨0, by simp, by omega, rfl, ⟨fun q hq => absurd hq (Nat.not_lt_zero _)⟩⟩
  case round =>
    obtain ⟨i, rfl, hi, rfl, HQ⟩ := hrel
    by_cases hlt : i < 4
    · have hlb : decide ((i : Int) < 4) = true := decide_eq_true (by omega)
      have hi4 : (i : Int) < 4 := by omega
      have hix := idx22 a b c d i hlt
      by_cases hv : inW (wOf a b c d i) 7 = true
      · have HQ2 := Aside0.mk (show ∀ q, q < i + 1 → inW (wOf a b c d q) 7 = true from fun q hq => by
          by_cases e : q = i
          · rw [e]; exact hv
          · exact HQ.out q (by omega))
        have hv2 := (inW_iff _ _).1 hv
        obtain ⟨y, hy⟩ : ∃ y, y = wOf a b c d i := ⟨_, rfl⟩
        rw [← hy] at hix hv2
        have hd1 : decide (y < 0) = false := decide_eq_false (by omega)
        have hd2 : decide (7 < y) = false := decide_eq_false (by omega)
        clear hy hv
        go_wp2_with fail
        go_roundw
        case rel => exact ⟨i + 1, by simp, by omega, by first | trivial | rfl, HQ2⟩
        case measure => simp [intOf]; omega
      · have hv2 : ¬ (0 ≤ wOf a b c d i ∧ wOf a b c d i ≤ 7) := fun h => hv ((inW_iff _ _).2 h)
        obtain ⟨y, hy⟩ : ∃ y, y = wOf a b c d i := ⟨_, rfl⟩
        rw [← hy] at hix hv2
        clear hy hv
        by_cases hy0 : y < 0
        · have hd1 : decide (y < 0) = true := decide_eq_true hy0
          clear hv2
          go_wp2_with fail
          go_ret2
          exact ⟨by simp, H1.out⟩
        · have hd1 : decide (y < 0) = false := decide_eq_false hy0
          have hd2 : decide (7 < y) = true := decide_eq_true (by omega)
          clear hv2
          go_wp2_with fail
          go_ret2
          exact ⟨by simp, H1.out⟩
    · obtain rfl : i = 4 := by omega
      have h0 := HQ.out 0 (by decide)
      have h1 := HQ.out 1 (by decide)
      have h2 := HQ.out 2 (by decide)
      have h3 := HQ.out 3 (by decide)
      have hw := HW.out
      unfold wok at hw
      rw [show inW a 7 = true from h0, show inW b 7 = true from h1, show inW c 7 = true from h2, show inW d 7 = true from h3] at hw
      cases hw
end
-- YteileaajmnbmpaaDoorPMMends
section
attribute [local go_sem] max2_int min2_int max_two min_two max_three min_three max_four min_four

/-- How many turned bits are mended, of a least distance. -/
def mendN (n : Nat) : Nat := (n - 1) / 2
set_option maxRecDepth 100000 in
set_option maxHeartbeats 8000000 in
theorem mends_calls (a b c d : Int) {w : World} (hT : TP w) (hw : wok a b c d = true) :
    Calls Tryd.prog 10 #[.agg #[.int .i64 a, .int .i64 b, .int .i64 c, .int .i64 d]] w fun e w' =>
      ∃ n : Nat, e = .returned (.tuple #[.int .i64 (mendN n : Int), .int .i64 0]) ∧ IsLeast (wOf a b c d) n ∧ n ≤ 1000 ∧ Below w.heap.size w w' := by
  have HT := Aside0.mk hT
  have HK := Aside0.mk hw
  clear hT hw
  go_enter Tryd.func10, Tryd.ntmps10
  go_wp2_with (first
    | ((with_reducible refine gate_ (.load 36 (.tmp 1)) rfl ?_); refine Aside0.out ?_)
    | fail)
  refine Aside0.mk ?_
  have hba := below_alloc (Below.refl w.heap.size w) (.cells #[.int .i64 a, .int .i64 b, .int .i64 c, .int .i64 d] 36)
  have hbb := blk_new w (.cells #[.int .i64 a, .int .i64 b, .int .i64 c, .int .i64 d] 36)
  obtain ⟨w1, hw1⟩ : ∃ w1, w1 = w.alloc (.cells #[.int .i64 a, .int .i64 b, .int .i64 c, .int .i64 d] 36) := ⟨_, rfl⟩
  obtain ⟨x0, hx0⟩ : ∃ x0, x0 = w.heap.size := ⟨_, rfl⟩
  rw [← hw1] at hba hbb
  rw [← hx0] at hbb
  rw [← hw1, ← hx0]
  have HB1 := Aside0.mk hba
  have HX1 := Aside0.mk hbb
  have HX0 := Aside0.mk (show w.heap.size ≤ x0 by rw [hx0]; exact Nat.le_refl _)
  clear hba hbb hw1 hx0
  have hc0 := blk_cell HX1.out 0
  have hc1 := blk_cell HX1.out 1
  have hc2 := blk_cell HX1.out 2
  have hc3 := blk_cell HX1.out 3
  have HA := Aside0.mk (dleast_calls a b c d (TP_of HT.out HB1.out) HK.out)
  go_wp2_with (first
    | (go_at_call 14; refine Aside0.out ?_)
    | fail)
  refine Aside0.mk ?_
  refine HA.out.mono ?_
  rintro e w2 ⟨n, rfl, hl, hb⟩
  have hn : n ≤ 196 := by
    obtain ⟨t, x, hw, hx⟩ := some_way (wOf a b c d) (wok_in HK.out)
    have := hl.2 t x hw
    omega
  have HL := Aside0.mk (And.intro hl (below_step HB1.out hb))
  clear hl hb HA HK HB1 hc0 hc1 hc2 hc3
  by_cases h0 : n = 0
  · subst h0
    go_wp2_with fail
    have hrs : (Tryd.f10).results = #[.tmp 2, .tmp 3] := by kernel_rfl
    refine bodyPost_ret (results_tmp2 hrs _ _ _) rfl ?_
    exact ⟨0, by simp [mendN], HL.out.1, by omega, HL.out.2⟩
  · obtain ⟨k, rfl⟩ : ∃ k, n = k + 1 := ⟨n - 1, by omega⟩
    have hk1 : ((k + 1 : Nat) : Int) - 1 = (k : Int) := by omega
    have hk2 : Int.tdiv (k : Int) 2 = ((k / 2 : Nat) : Int) := by rw [Int.tdiv_eq_ediv_of_nonneg (by omega)]; omega
    have hk3 : (k : Int) / 2 = ((k / 2 : Nat) : Int) := by omega
    have HN := Aside0.mk hn
    obtain ⟨z, hz⟩ : ∃ z : Int, z = ((k + 1 : Nat) : Int) := ⟨_, rfl⟩
    rw [← hz] at hk1 ⊢
    have hzb : 0 ≤ z ∧ z ≤ 1000 := by omega
    have hkb : (k : Int) ≤ 1000 := by omega
    have hd0 : decide ((k : Int) < 0) = false := decide_eq_false (by omega)
    have hd1 : ¬ (k : Int) < 0 := by omega
    obtain ⟨p, hp⟩ : ∃ p, p = k / 2 := ⟨_, rfl⟩
    rw [← hp] at hk2 hk3
    have hpj : p ≤ k := by omega
    have HP := Aside0.mk hp
    obtain ⟨y, hy⟩ : ∃ y : Int, y = (k : Int) := ⟨_, rfl⟩
    rw [← hy] at hk1 hk2 hk3 hkb hd0 hd1
    have hpb : (p : Int) ≤ 1000 := by omega
    have hy0 : 0 ≤ y := by omega
    clear hz hp hy
    go_wp2_with fail
    have hrs : (Tryd.f10).results = #[.tmp 2, .tmp 3] := by kernel_rfl
    refine bodyPost_ret (results_tmp2 hrs _ _ _) rfl ?_
    exact ⟨k + 1, by rw [HP.out]; simp [mendN], HL.out.1, by have := HN.out; omega, HL.out.2⟩
end
-- YteileaajmnbmpaaDoorPMSum
structure Sum (l : List Int) (W : Nat → Int) (T B : Nat) (σ : List Int) : Prop where
  tau : ∃ τ : Nat → Int, (∀ j, 0 ≤ τ j) ∧ tsum τ (4 * (l.length + 6)) ≤ (T : Int) ∧ ∀ j, j < 4 * (l.length + 6) → σ.getD j 0 = so ((code l).getD j 0) * (W (ver (j % 4) (j / 4)) - 2 * τ j)
  bnd : ∀ j, -(B : Int) ≤ σ.getD j 0 ∧ σ.getD j 0 ≤ (B : Int)
  len : σ.length = 4 * (l.length + 6)
theorem tsum_zero : ∀ k, tsum (fun _ => 0) k = 0
  | 0 => rfl
  | k + 1 => by unfold tsum; rw [tsum_zero k]; rfl
theorem tsum_one (τ : Nat → Int) (q : Nat) : ∀ k, tsum (fun j => τ j + (if j = q then 1 else 0)) k = tsum τ k + (if q < k then 1 else 0)
  | 0 => by rw [if_neg (by omega)]; rfl
  | k + 1 => by
    unfold tsum
    rw [tsum_one τ q k]
    by_cases e : k = q
    · rw [if_neg (by omega), if_pos e, if_pos (by omega)]; omega
    · rw [if_neg e]
      by_cases c : q < k
      · rw [if_pos c, if_pos (by omega)]; omega
      · rw [if_neg c, if_neg (by omega)]; omega
theorem rep_getD (m j : Nat) : (List.replicate m (0 : Int)).getD j 0 = 0 := by
  rw [List.getD_eq_getElem?_getD, List.getElem?_replicate]
  split <;> rfl
theorem Sum.zero (l : List Int) : Sum l (fun _ => 0) 0 0 (List.replicate (4 * (l.length + 6)) 0) := by
  refine ⟨⟨fun _ => 0, fun _ => Int.le_refl _, by rw [tsum_zero]; exact Int.le_refl _, fun j hj => ?_⟩, fun j => by rw [rep_getD]; omega, by rw [List.length_replicate]⟩
  rw [rep_getD]; simp
theorem Sum.of {l : List Int} {W W' : Nat → Int} {T B : Nat} {σ : List Int} (h : Sum l W T B σ) (hW : ∀ u, u < 4 → W' u = W u) : Sum l W' T B σ := by
  obtain ⟨⟨τ, h1, h2, h3⟩, h4, h5⟩ := h
  exact ⟨⟨τ, h1, h2, fun j hj => by rw [h3 j hj, hW _ (ver_lt _ _)]⟩, h4, h5⟩
theorem adK_bnd {σ : List Int} {B : Nat} (h : ∀ j, -(B : Int) ≤ σ.getD j 0 ∧ σ.getD j 0 ≤ (B : Int)) (v : Nat) (P : List Int) (n : Nat) (hn : 4 * n ≤ σ.length) (j : Nat) : -((B + 1 : Nat) : Int) ≤ (adK σ v P n).getD j 0 ∧ (adK σ v P n).getD j 0 ≤ ((B + 1 : Nat) : Int) := by
  rw [adK_get σ v P j n hn]
  have h1 := h j
  have h2 := so_pm (P.getD (j / 4) 0)
  split
  · omega
  · omega
/-- A right copy. -/
theorem Sum.clean {l : List Int} {W W' : Nat → Int} {T B : Nat} {σ : List Int} (h : Sum l W T B σ) {v : Nat} (hv : v < 4) {P : List Int} (hP : ∀ t, t < l.length + 6 → P.getD t 0 = (code l).getD (plc v t) 0) (hW : ∀ u, u < 4 → W' u = W u + (if u = v then 1 else 0)) : Sum l W' T (B + 1) (adK σ v P (l.length + 6)) := by
  obtain ⟨⟨τ, h1, h2, h3⟩, h4, h5⟩ := h
  refine ⟨⟨τ, h1, h2, fun j hj => ?_⟩, adK_bnd h4 v P _ (by omega), by rw [adK_len]; exact h5⟩
  rw [adK_get σ v P j _ (by omega), h3 j hj, hW _ (ver_lt _ _)]
  by_cases c : ver (j % 4) (j / 4) = v
  · rw [if_pos ⟨by omega, (plc_ver hv j).2 c⟩, if_pos c, hP _ (by omega), ← (plc_ver hv j).2 c]
    rcases so_pm ((code l).getD j 0) with e | e <;> rw [e] <;> omega
  · rw [if_neg (fun h => c ((plc_ver hv j).1 h.2)), if_neg c]
    rcases so_pm ((code l).getD j 0) with e | e <;> rw [e] <;> omega
/-- A copy turned at one place, at the most. -/
theorem Sum.turned {l : List Int} (hl : ∀ x ∈ l, isb x) {W W' : Nat → Int} {T B : Nat} {σ : List Int} (h : Sum l W T B σ) {v : Nat} (hv : v < 4) {P : List Int} (hPb : ∀ x ∈ P, isb x) {k : Nat} (hP : ∀ t, t < l.length + 6 → t ≠ k → P.getD t 0 = (code l).getD (plc v t) 0) (hW : ∀ u, u < 4 → W' u = W u + (if u = v then 1 else 0)) : Sum l W' (T + 1) (B + 1) (adK σ v P (l.length + 6)) := by
  by_cases ok : P.getD k 0 = (code l).getD (plc v k) 0
  · have hc := h.clean hv (P := P) (W' := W') (fun t ht => by
      by_cases e : t = k
      · rw [e]; exact ok
      · exact hP t ht e) hW
    obtain ⟨⟨τ, h1, h2, h3⟩, h4, h5⟩ := hc
    exact ⟨⟨τ, h1, by omega, h3⟩, h4, h5⟩
  · obtain ⟨⟨τ, h1, h2, h3⟩, h4, h5⟩ := h
    refine ⟨⟨fun j => τ j + (if j = plc v k then 1 else 0), fun j => ?_, ?_, fun j hj => ?_⟩, adK_bnd h4 v P _ (by omega), by rw [adK_len]; exact h5⟩
    · have := h1 j; show 0 ≤ τ j + (if j = plc v k then 1 else 0); split <;> omega
    · rw [tsum_one]
      split <;> omega
    · rw [adK_get σ v P j _ (by omega), h3 j hj, hW _ (ver_lt _ _)]
      show _ = so ((code l).getD j 0) * (W (ver (j % 4) (j / 4)) + _ - 2 * (τ j + (if j = plc v k then 1 else 0)))
      by_cases c : ver (j % 4) (j / 4) = v
      · rw [if_pos ⟨by omega, (plc_ver hv j).2 c⟩, if_pos c]
        by_cases e : j / 4 = k
        · have ej : j = plc v k := by rw [← e]; exact (plc_ver hv j).2 c
          rw [if_pos ej, e]
          have hs : so (P.getD k 0) = - so ((code l).getD j 0) := by
            rw [← ej] at ok
            have i1 := getD_isb hPb k
            have i2 : isb ((code l).getD j 0) := getD_isb (codeN_isb hl _) j
            rcases i1 with e1 | e1 <;> rcases i2 with e2 | e2 <;> rw [e1, e2] at ok ⊢
            · exact absurd rfl ok
            · rfl
            · rfl
            · exact absurd rfl ok
          rw [hs]
          rcases so_pm ((code l).getD j 0) with e | e <;> rw [e] <;> omega
        · have ne : j ≠ plc v k := fun h => e (by rw [h]; exact (plc_lt v k).2.2)
          rw [if_neg ne, hP _ (by omega) e, ← (plc_ver hv j).2 c]
          rcases so_pm ((code l).getD j 0) with e | e <;> rw [e] <;> omega
      · have ne : j ≠ plc v k := fun h => c ((plc_ver hv j).1 (by
          have : j / 4 = k := by rw [h]; exact (plc_lt v k).2.2
          rw [this]; exact h))
        rw [if_neg (fun h => c ((plc_ver hv j).1 h.2)), if_neg c, if_neg ne]
        rcases so_pm ((code l).getD j 0) with e | e <;> rw [e] <;> omega
theorem Sum.alone {l : List Int} (hl : ∀ x ∈ l, isb x) {W : Nat → Int} (hW : ∀ v, v < 4 → 0 ≤ W v ∧ W v ≤ 7) {T B m : Nat} {σ : List Int} (h : Sum l W T B σ) (hm : IsLeast W m) (hT : T ≤ mendN m) (h0 : m ≠ 0) : Alone (fun j => σ.getD j 0) (l.length + 6) l.length (inp l 0 (l.length + 6)) := by
  obtain ⟨τ, h1, h2, h3⟩ := h.tau
  exact alone_of hW hl h1 m T hm h2 (by unfold mendN at hT; omega) h3
theorem toI_inp {l : List Int} (hl : ∀ x ∈ l, isb x) : toI ((inp l 0 (l.length + 6)).take l.length) = l := by
  apply List.ext_getElem?
  intro j
  unfold toI
  rw [List.getElem?_map, List.getElem?_take]
  by_cases h : j < l.length
  · rw [if_pos h, inp_get _ _ _ _ (by omega), inN_at, Nat.zero_add, List.getD_eq_getElem?_getD, List.getElem?_eq_getElem h]
    have := isb01 (hl _ (List.getElem_mem h))
    show some ((l[j].toNat : Nat) : Int) = _
    refine congrArg some ?_
    omega
  · rw [if_neg h, List.getElem?_eq_none (by omega)]; rfl
/-- The copies so far, of a version and those ahead of it. -/
def wAt (ws : List Int) (v i : Nat) (u : Nat) : Int := if u < v then ws.getD u 0 else if u = v then (i : Int) else 0
theorem wAt_next (ws : List Int) (v i : Nat) (u : Nat) : wAt ws v (i + 1) u = wAt ws v i u + (if u = v then 1 else 0) := by
  unfold wAt
  by_cases h : u < v
  · rw [if_pos h, if_pos h, if_neg (by omega)]; omega
  · rw [if_neg h, if_neg h]
    by_cases e : u = v
    · rw [if_pos e, if_pos e, if_pos e]; omega
    · rw [if_neg e, if_neg e, if_neg e]; omega
theorem wAt_row (ws : List Int) (v i : Nat) (h : ws.getD v 0 = (i : Int)) (u : Nat) : wAt ws (v + 1) 0 u = wAt ws v i u := by
  unfold wAt
  by_cases e : u = v
  · subst e; rw [if_pos (by omega), if_neg (by omega), if_pos rfl, h]
  · by_cases c : u < v
    · rw [if_pos (by omega), if_pos c]
    · rw [if_neg (by omega), if_neg c, if_neg e]
      split <;> rfl
theorem wAt_zero (ws : List Int) (u : Nat) : wAt ws 0 0 u = 0 := by
  unfold wAt; rw [if_neg (by omega)]; split <;> rfl
theorem wAt_end (a b c d : Int) (u : Nat) (h : u < 4) : wAt [a, b, c, d] 4 0 u = wOf a b c d u := by
  unfold wAt; rw [if_pos h]
  obtain rfl | rfl | rfl | rfl : u = 0 ∨ u = 1 ∨ u = 2 ∨ u = 3 := by omega
  all_goals rfl
-- YteileaajmnbmpaaDoorPMLaw
section
section
attribute [local go_sem] run_index_arr

theorem C_low {w w' : World} {A : Option Addr} {P : List Int} {S : Nat} (h : Kd.C (Kd.int .u8) w A P.length P) (hb : Below S w w') (hA : ∀ d, A = some d → d.block < S) : Kd.C (Kd.int .u8) w' A P.length P := by
  have r := Kd.reads_of_C (enc := Value.int .u8) (d := (0 : Int)) (h1 := fun _ => rfl) h
  refine Kd.C_of_reads (enc := Value.int .u8) (d := (0 : Int)) (h1 := fun _ => rfl) ⟨r.1, r.2.1, fun hq => ?_⟩
  obtain ⟨d, hd, hr⟩ := r.2.2 hq
  exact ⟨d, hd, fun j hj => (World.cell?_of_block (a := d.add j) (hb.block _ (by rw [add_block]; exact hA d hd))).trans (hr j hj)⟩
/-- The four parts, in a box, older than S. -/
def PT (w : World) (S b : Nat) (C : List Int) (m : Nat) : Prop :=
  b < S ∧ ∀ v, v < 4 → ∃ A c, w.cell? ⟨b, v, none⟩ = some (.slice A m c) ∧ Kd.C (Kd.int .u8) w A (vp C v m).length (vp C v m) ∧ m ≤ c ∧ ∀ d, A = some d → d.block < S
theorem PT.low {w w' : World} {S b m : Nat} {C : List Int} (h : PT w S b C m) (hb : Below S w w') : PT w' S b C m := by
  refine ⟨h.1, fun v hv => ?_⟩
  obtain ⟨A, c, h1, h2, h3, h4⟩ := h.2 v hv
  exact ⟨A, c, (hb.cell (p := ⟨b, v, none⟩) h.1).trans h1, C_low h2 hb h4, h3, h4⟩
theorem part_of {w : World} {base : Nat} {ok : Nat → Prop} {v : Value} {P : List Int} (h : Kd.R (Kd.int .u8) 5 w base ok v P) (hp : 0 < P.length) : ∃ A c, v = .slice A P.length c ∧ Kd.C (Kd.int .u8) w A P.length P ∧ P.length ≤ c ∧ ∀ d, A = some d → d.block < w.heap.size := by
  obtain ⟨g, c, rfl, _, hg, _⟩ := Kd.R_form h hp
  have r := Kd.R_reads' h
  exact ⟨_, c, rfl, r.2.2, r.2.1, fun d hd => by cases hd; exact hg⟩
theorem part_vp {w : World} {base : Nat} {ok : Nat → Prop} {v : Value} {C : List Int} {u m : Nat} (hu : u < 4) (hm : 0 < m) (hC : C.length = 4 * m) (h : Kd.R (Kd.int .u8) 5 w base ok v (prt C u C.length)) : ∃ A c, v = .slice A m c ∧ Kd.C (Kd.int .u8) w A (vp C u m).length (vp C u m) ∧ m ≤ c ∧ ∀ d, A = some d → d.block < w.heap.size := by
  rw [hC, prt_four C u hu m] at h
  obtain ⟨A, c, h1, h2, h3, h4⟩ := part_of (P := vp C u m) h (by rw [vp_len]; exact hm)
  rw [vp_len] at h1 h3
  exact ⟨A, c, h1, h2, h3, h4⟩
theorem BU.keep {w w' : World} {S g h n : Nat} {σ : List Int} (b : BU w S g h n σ) (hg : w'.heap[g]? = w.heap[g]?) (hh : w'.heap[h]? = w.heap[h]?) : BU w' S g h n σ := by
  obtain ⟨C, hC, r⟩ := b.box
  exact ⟨⟨C, hg.trans hC, r⟩, hh.trans b.row, b.len, b.lo⟩
theorem part_new {w : World} {base : Nat} {ok : Nat → Prop} {v : Value} {P : List Int} (h : Kd.R (Kd.int .u8) 5 w base ok v P) (hp : 0 < P.length) : ∃ A c, v = .slice A P.length c ∧ Kd.C (Kd.int .u8) w A P.length P ∧ P.length ≤ c ∧ ∀ d, A = some d → base ≤ d.block := by
  obtain ⟨g, c, rfl, hg, _, _⟩ := Kd.R_form h hp
  have r := Kd.R_reads' h
  exact ⟨_, c, rfl, r.2.2, r.2.1, fun d hd => by cases hd; exact hg⟩
/-- The bits that ShuttleMends codes. -/
def bitsL (l : List Int) : List Int := (bits_Of.f 200 (l.take 5)).getD []
theorem bitsL_of {l : List Int} (hl : ∀ x ∈ l, 0 ≤ x ∧ x ≤ 255) : bits_Of.f 200 (l.take 5) = some (bitsL l) ∧ (bitsL l).length ≤ 40 ∧ ∀ x ∈ bitsL l, isb x := by
  have h5 : (l.take 5).length ≤ 5 := by rw [List.length_take]; omega
  obtain ⟨L, h1, h2, h3⟩ := of_f (l.take 5) (fun x hx => hl x (List.mem_of_mem_take hx)) h5
  have e : bitsL l = L := by unfold bitsL; rw [h1]; rfl
  rw [e]
  exact ⟨h1, by omega, h3⟩
set_option maxRecDepth 100000 in
set_option maxHeartbeats 8000000 in
theorem lawMends.walk {w : World} (A0 : Option Addr) (c0 : Nat) (l0 : List Int) (hr0 : Kd.C (Kd.int .u8) w A0 l0.length l0) (hc0 : l0.length ≤ c0) (hw0 : ∀ x ∈ l0, (Lit.int .u8 x).wf = true)
    (A1 : Option Addr) (c1 : Nat) (l1 : List Int) (hr1 : Kd.C (Kd.int .u8) w A1 l1.length l1) (hc1 : l1.length ≤ c1) (hw1 : ∀ x ∈ l1, (Lit.int .u8 x).wf = true)
    (A2 : Option Addr) (c2 : Nat) (l2 : List Int) (hr2 : Kd.C (Kd.int .i64) w A2 l2.length l2) (hc2 : l2.length ≤ c2) (hw2 : ∀ x ∈ l2, (Lit.int .i64 x).wf = true) (_w : World) (hT : TP w := by assumption) :
    Calls Tryd.prog 3 #[.slice A0 l0.length c0, .slice A1 l1.length c1, .slice A2 l2.length c2] w fun e w' => e = .returned (.bool true) ∧ Below w.heap.size w w' := by
  have hlen : ∀ {K : IntKind} {A : Option Addr} {l : List Int}, Kd.C (Kd.int K) w A l.length l → l.length ≤ 9223372036854775807 := fun {K A l} h => by
    have r := Kd.reads_of_C (enc := Value.int K) (d := (0 : Int)) (h1 := fun _ => rfl) h
    have := r.2.1
    omega
  have HT := Aside0.mk hT
  have HR1 := Aside0.mk hr1
  have HR2 := Aside0.mk hr2
  have HN := Aside0.mk (And.intro (hlen hr1) (And.intro hc1 (And.intro (hlen hr2) hc2)))
  have HW1 := Aside0.mk (u8_of_wf hw1)
  obtain ⟨hof, hn, hb⟩ := bitsL_of (u8_of_wf hw0)
  have HC1 := Aside0.mk (shuttletop_cut.calls A0 c0 l0 5 (l0.take 5) w hr0 hc0 (cut_f l0))
  obtain ⟨L, hL⟩ : ∃ L, L = bitsL l0 := ⟨_, rfl⟩
  rw [← hL] at hof hn hb
  obtain ⟨l5, h5⟩ : ∃ l5, l5 = l0.take 5 := ⟨_, rfl⟩
  rw [← h5] at hof HC1
  have HOF := Aside0.mk hof
  have HL := Aside0.mk (And.intro hn hb)
  clear hT hr0 hc0 hw0 hr1 hc1 hw1 hr2 hc2 hw2 hlen hof hn hb hL h5
  go_enter Tryd.func3, Tryd.ntmps3
  go_wp2_with (first
    | (go_at_call 5; refine Aside0.out ?_)
    | fail)
  refine Aside0.mk ?_
  refine HC1.out.mono ?_
  rintro e w1 ⟨v28, rfl, hv, hb⟩
  obtain ⟨A3, c3, rfl⟩ := Kd.R_slice hv
  have HOC := Aside0.mk (bits_Of.calls 200 A3 c3 l5 L w1 (Kd.R_reads' hv).2.2 (Kd.R_reads' hv).2.1 HOF.out)
  have HB1 := Aside0.mk hb
  clear hv hb HC1 HOF
  go_wp2_with (first
    | (go_at_call 4; refine Aside0.out ?_)
    | fail)
  refine Aside0.mk ?_
  refine HOC.out.mono ?_
  rintro e w2 ⟨v7, rfl, hv, hb⟩
  obtain ⟨A7, c7, rfl⟩ := Kd.R_slice hv
  obtain ⟨N, hN⟩ : ∃ N, N = L.length := ⟨_, rfl⟩
  rw [← hN]
  have HNL := Aside0.mk hN
  have HB2 := Aside0.mk (below_step HB1.out hb)
  have HCC := Aside0.mk (conv_Code.calls 2000 A7 c7 L (code L) 0 w2 (Kd.R_reads' hv).2.2 (Kd.R_reads' hv).2.1 (Code_f L HL.out.2 (by have := HL.out.1; omega) 2000 (by have := HL.out.1; omega)) (TP_of HT.out HB2.out))
  have HV7 := Aside0.mk hv
  rw [← hN] at HV7 HCC
  clear hv hb hN HOC HB1
  go_wp2_with (first
    | (go_at_call 6; refine Aside0.out ?_)
    | fail)
  refine Aside0.mk ?_
  refine HCC.out.mono ?_
  rintro e w3 ⟨v8, rfl, hv, hb⟩
  obtain ⟨A8, c8, rfl⟩ := Kd.R_slice hv
  have HB3 := Aside0.mk (below_step HB2.out hb)
  have hcl := code_length L
  have hci : ∀ x ∈ code L, isb x := codeN_isb HL.out.2 _
  have HSC := Aside0.mk (version_Split.calls 2000 A8 c8 (code L) _ _ _ _ _ w3 (Kd.R_reads' hv).2.2 (Kd.R_reads' hv).2.1 (split_f (m := L.length + 6) hcl (by have := HL.out.1; omega) hci 2000 (by have := HL.out.1; omega)))
  have HV73 := Aside0.mk (Kd.R_below HV7.out hb)
  have HCI := Aside0.mk (And.intro hcl hci)
  clear hv hb hcl hci HCC HB2 HV7
  go_wp2_with (first
    | (go_at_call 7; refine Aside0.out ?_)
    | fail)
  refine Aside0.mk ?_
  refine HSC.out.mono ?_
  rintro e w4 ⟨p0, p1, p2, p3, rfl, q0, q1, q2, q3, hb⟩
  obtain ⟨m, hm⟩ : ∃ m, m = N + 6 := ⟨_, rfl⟩
  have hc4 : (code L).length = 4 * m := by rw [HCI.out.1, hm, HNL.out]
  obtain ⟨B0, d0, rfl, x0, y0, z0⟩ := part_vp (by decide) (by omega) hc4 q0
  obtain ⟨B1, d1, rfl, x1, y1, z1⟩ := part_vp (by decide) (by omega) hc4 q1
  obtain ⟨B2, d2, rfl, x2, y2, z2⟩ := part_vp (by decide) (by omega) hc4 q2
  obtain ⟨B3, d3, rfl, x3, y3, z3⟩ := part_vp (by decide) (by omega) hc4 q3
  have HX := Aside0.mk (And.intro (And.intro x0 (And.intro y0 z0)) (And.intro (And.intro x1 (And.intro y1 z1)) (And.intro (And.intro x2 (And.intro y2 z2)) (And.intro x3 (And.intro y3 z3)))))
  have HM := Aside0.mk (And.intro hm hc4)
  have HB4 := Aside0.mk (below_step HB3.out hb)
  have HV74 := Aside0.mk (Kd.R_below HV73.out hb)
  clear hb HSC HB3 HV73 q0 q1 q2 q3 x0 x1 x2 x3 y0 y1 y2 y3 z0 z1 z2 z3 hm hc4
  go_wp2_with (first
    | (refine wpList_store_row rfl 29 (.tmp 10) (.tmp 38) rfl w4.heap.size #[.slice B0 m d0, .slice B1 m d1, .slice B2 m d2, .slice B3 m d3] rfl rfl 29 _ (blk_new w4 _) (by kernel_rfl) rfl (by simp [Value.oneCell']) ?_; refine Aside0.out ?_)
    | fail)
  refine Aside0.mk ?_
  have hba := below_alloc (Below.refl w4.heap.size w4) (.cells #[.slice none 0 0, .slice none 0 0, .slice none 0 0, .slice none 0 0] 29)
  have hbb := setRow_heap (w4.alloc (.cells #[.slice none 0 0, .slice none 0 0, .slice none 0 0, .slice none 0 0] 29)) w4.heap.size _ #[.slice B0 m d0, .slice B1 m d1, .slice B2 m d2, .slice B3 m d3] _ _ (blk_new w4 (.cells #[.slice none 0 0, .slice none 0 0, .slice none 0 0, .slice none 0 0] 29))
  have hbs := below_setRow hba (Nat.le_refl _) #[.slice B0 m d0, .slice B1 m d1, .slice B2 m d2, .slice B3 m d3]
  obtain ⟨b10, hb10⟩ : ∃ b, b = w4.heap.size := ⟨_, rfl⟩
  obtain ⟨w5, hw5⟩ : ∃ w5, w5 = (w4.alloc (.cells #[.slice none 0 0, .slice none 0 0, .slice none 0 0, .slice none 0 0] 29)).setRow w4.heap.size #[.slice B0 m d0, .slice B1 m d1, .slice B2 m d2, .slice B3 m d3] := ⟨_, rfl⟩
  rw [← hw5] at hbs hbb ⊢
  have HBS := Aside0.mk hbs
  rw [← hb10] at hbb ⊢
  have HBB := Aside0.mk hbb
  have HPT := Aside0.mk (show PT w5 w5.heap.size b10 (code L) m from ⟨blk_lt HBB.out, fun v hv => by
    have hc := blk_cell HBB.out v
    have hlt : ∀ k, k < w4.heap.size → k < w5.heap.size := fun k hk => Nat.lt_of_lt_of_le hk HBS.out.size
    obtain ⟨x0, x1, x2, x3⟩ := HX.out
    obtain rfl | rfl | rfl | rfl : v = 0 ∨ v = 1 ∨ v = 2 ∨ v = 3 := by omega
    · exact ⟨B0, d0, hc, Kd.C_below x0.1 HBS.out, x0.2.1, fun d hd => hlt _ (x0.2.2 d hd)⟩
    · exact ⟨B1, d1, hc, Kd.C_below x1.1 HBS.out, x1.2.1, fun d hd => hlt _ (x1.2.2 d hd)⟩
    · exact ⟨B2, d2, hc, Kd.C_below x2.1 HBS.out, x2.2.1, fun d hd => hlt _ (x2.2.2 d hd)⟩
    · exact ⟨B3, d3, hc, Kd.C_below x3.1 HBS.out, x3.2.1, fun d hd => hlt _ (x3.2.2 d hd)⟩⟩)
  have HB5 := Aside0.mk (below_step HB4.out hbs)
  have HV75 := Aside0.mk (Kd.R_mono (Kd.R_bound (Kd.R_below HV74.out hbs)) (ok' := fun k => k < w5.heap.size) (fun k ok => ok.2.2.1))
  clear hba hbb hbs hb10 hw5 HBB HBS HX HB4 HV74
  have HNW := Aside0.mk (new_calls (w := w5) (n := N) (by have := HL.out.1; have := HNL.out; omega))
  go_wp2_with (first
    | (go_at_call 8; refine Aside0.out ?_)
    | fail)
  refine Aside0.mk ?_
  refine HNW.out.mono ?_
  rintro e w6 ⟨g, h, rfl, hbu, hb⟩
  have HB6 := Aside0.mk (below_step HB5.out hb)
  have HS6 := Aside0.mk hb
  have HBU := Aside0.mk hbu
  clear hb hbu HNW
  have HST := Aside0.mk (shuttletop_stands.calls true w6 stands_ok)
  go_wp2_with (first
    | (go_at_call 9; refine Aside0.out ?_)
    | fail)
  refine Aside0.mk ?_
  refine HST.out.mono ?_
  rintro e w7 ⟨rfl, hb⟩
  have HB7 := Aside0.mk (below_step HB6.out hb)
  have HS7 := Aside0.mk (HS6.out.trans (below_less hb HS6.out.size))
  have HBU7 := Aside0.mk (HBU.out.below hb)
  clear hb HST HB6 HS6 HBU
  go_wp2_with fail
  have hba := below_alloc (Below.refl w7.heap.size w7) (.cells #[.int .i64 0, .int .i64 0, .int .i64 0, .int .i64 0] 36)
  have hbb := blk_new w7 (.cells #[.int .i64 0, .int .i64 0, .int .i64 0, .int .i64 0] 36)
  obtain ⟨b14, hb14⟩ : ∃ b, b = w7.heap.size := ⟨_, rfl⟩
  obtain ⟨w8, hw8⟩ : ∃ w8, w8 = w7.alloc (.cells #[.int .i64 0, .int .i64 0, .int .i64 0, .int .i64 0] 36) := ⟨_, rfl⟩
  rw [← hw8] at hba hbb ⊢
  rw [← hb14] at hbb ⊢
  have HB8 := Aside0.mk hba
  have HX8 := Aside0.mk (show w8.heap[b14]? = some (.cells (ints [0, 0, 0, 0]) 36 (0, 0)) from hbb)
  have HE14 := Aside0.mk (show w7.heap.size ≤ b14 ∧ g < b14 ∧ h < b14 ∧ w5.heap.size ≤ b14 ∧ w.heap.size ≤ w5.heap.size from ⟨by rw [hb14]; exact Nat.le_refl _, by rw [hb14]; exact blk_lt HBU7.out.box.choose_spec.1, by rw [hb14]; exact blk_lt HBU7.out.row, by rw [hb14]; exact HS7.out.size, HB5.out.size⟩)
  clear hba hbb hw8 hb14
  go_wp2_with fail
  go_loopw [15] (fun v15 wr => ∃ (i : Nat) (ws : List Int), v15 = .int .i64 (i : Int) ∧ i ≤ 8 ∧ Aside0 (ws.length = 4 ∧ ∀ j, 0 ≤ ws.getD j 0 ∧ ws.getD j 0 ≤ (i : Int)) ∧ Aside0 (wr.heap[b14]? = some (.cells (ints ws) 36 (0, 0))) ∧ Aside0 (Below w7.heap.size w7 wr)) (fun v15 _ => 8 - (intOf v15).toNat)
  case atStart => exact ⟨0, [0, 0, 0, 0], by simp, by omega, ⟨rfl, fun j => by
    rcases (show j = 0 ∨ j = 1 ∨ j = 2 ∨ j = 3 ∨ 4 ≤ j by omega) with e | e | e | e | e
    · subst e; simp
    · subst e; simp
    · subst e; simp
    · subst e; simp
    · rw [getD_out _ _ (by simpa using e)]; simp⟩, HX8, HB8⟩
  case round =>
    clear HX8 HB8
    obtain ⟨i, ws, rfl, hi, HWS, HX, HB⟩ := hrel
    by_cases hlt : i < l1.length ∧ i < 8
    · have h1 : (i : Int) < (l1.length : Int) := by omega
      have h2 : (i : Int) < 8 := by omega
      have hi0 : (0 : Int) ≤ (i : Int) := by omega
      have HLT := Aside0.mk hlt
      obtain ⟨ad, rfl, hcx0⟩ := ReadsOf.at_ (Kd.reads_of_C (enc := Value.int .u8) (d := (0 : Int)) (h1 := fun _ => rfl) (Kd.C_below HR1.out (below_step HB7.out HB.out))) (i : Int) hi0 h1
      rw [Int.toNat_natCast] at hcx0
      obtain ⟨x, hx⟩ : ∃ x, x = rdOf 0 l1 (i : Int) := ⟨_, rfl⟩
      rw [← hx] at hcx0
      have hxb : 0 ≤ x ∧ x ≤ 255 := by
        have e : x = l1.getD i 0 := by rw [hx]; rfl
        rw [e, List.getD_eq_getElem?_getD, List.getElem?_eq_getElem hlt.1]
        exact HW1.out _ (List.getElem_mem _)
      obtain ⟨q, hq⟩ : ∃ q : Nat, Int.tmod x 4 = (q : Int) := ⟨(Int.tmod x 4).toNat, by rw [Int.tmod_eq_emod_of_nonneg hxb.1]; omega⟩
      have hq4 : (q : Int) < 4 := by rw [Int.tmod_eq_emod_of_nonneg hxb.1] at hq; omega
      have hq0 : (0 : Int) ≤ (q : Int) := by omega
      obtain ⟨y, hy⟩ : ∃ y, y = ws.getD q 0 := ⟨_, rfl⟩
      have hcy := (blk_cell HX.out q).trans (ints_get ws q (by have := HWS.out.1; omega))
      have hfz := blk_frozen HX.out q
      rw [← hy] at hcy
      have hyb : 0 ≤ y ∧ y ≤ 8 := by have := HWS.out.2 q; omega
      have HQ := Aside0.mk (And.intro hq4 hy)
      clear hlt hx hy
      go_wp2_with fail
      have HP := Aside0.mk (Put1.set b14 q wr (.int .i64 (y + 1)))
      have HX2 := Aside0.mk (blk_put HX.out q (.int .i64 (y + 1)) (ints_set ws q _))
      have HB2 := Aside0.mk (HB.out.trans (HP.out.below HE14.out.1))
      have HWS2 := Aside0.mk (show (ws.set q (y + 1)).length = 4 ∧ ∀ j, 0 ≤ (ws.set q (y + 1)).getD j 0 ∧ (ws.set q (y + 1)).getD j 0 ≤ ((i + 1 : Nat) : Int) from ⟨by rw [List.length_set]; exact HWS.out.1, fun j => by
        have hy := HWS.out.2 q
        have hj := HWS.out.2 j
        rw [← HQ.out.2] at hy
        rw [set_getD _ _ _ _ (by have := HWS.out.1; have := HQ.out.1; omega)]
        split
        · omega
        · omega⟩)
      exact ⟨⟨i + 1, ws.set q (y + 1), by simp, by have := HLT.out; omega, HWS2, HX2, HB2⟩, by
        have hz : ∀ z : Int, intOf (Value.int IntKind.i64 z) = z := fun z => rfl
        have := HLT.out
        rw [hz, hz]; omega⟩
    · have HW8 := Aside0.mk (show ws.length = 4 ∧ ∀ j, 0 ≤ ws.getD j 0 ∧ ws.getD j 0 ≤ 8 from ⟨HWS.out.1, fun j => by have := HWS.out.2 j; omega⟩)
      have HB9 := Aside0.mk (below_step HB7.out HB.out)
      have HS9 := Aside0.mk (HS7.out.trans (below_less HB.out HS7.out.size))
      have HBU9 := Aside0.mk (HBU7.out.below HB.out)
      clear HWS HB HB7 HS7 HBU7
      have hcase : ((8 : Int) < (l1.length : Int) ∧ i = 8) ∨ ¬ (i : Int) < (l1.length : Int) := by omega
      rcases hcase with ⟨q1, rfl⟩ | q1
      all_goals
        clear hlt hi
        go_wp2_with fail
        go_loopw [16] (fun v16 wr => ∃ (i : Nat) (ws : List Int), v16 = .int .i64 (i : Int) ∧ i ≤ 4 ∧ Aside0 (ws.length = 4 ∧ ∀ j, 0 ≤ ws.getD j 0 ∧ (j < i → ws.getD j 0 ≤ 7) ∧ ws.getD j 0 ≤ 8) ∧ Aside0 (wr.heap[b14]? = some (.cells (ints ws) 36 (0, 0))) ∧ Aside0 (BU wr w5.heap.size g h N (List.replicate (4 * (N + 6)) 0)) ∧ Aside0 (Below w5.heap.size w5 wr) ∧ Aside0 (Below w.heap.size w wr)) (fun v16 _ => 4 - (intOf v16).toNat)
        case atStart => exact ⟨0, ws, by simp, by omega, ⟨HW8.out.1, fun j => ⟨(HW8.out.2 j).1, fun h => absurd h (by omega), (HW8.out.2 j).2⟩⟩, HX, HBU9, HS9, HB9⟩
        case round =>
          clear HX HBU9 HS9 HB9 HW8
          obtain ⟨i, ws, rfl, hi, HWS, HX, HBU, HS, HB⟩ := hrel
          by_cases hlt : i < 4
          · have h1 : (i : Int) < 4 := by omega
            have hi0 : (0 : Int) ≤ (i : Int) := by omega
            have HLT := Aside0.mk hlt
            obtain ⟨y, hy⟩ : ∃ y, y = ws.getD i 0 := ⟨_, rfl⟩
            have hcy := (blk_cell HX.out i).trans (ints_get ws i (by have := HWS.out.1; omega))
            have hfz := blk_frozen HX.out i
            rw [← hy] at hcy
            have HY := Aside0.mk (show 0 ≤ y ∧ y ≤ 8 by have := HWS.out.2 i; omega)
            clear hlt hy
            go_wp2_with fail
            obtain ⟨z, hz⟩ : ∃ z, z = if 7 < y then 7 else y := ⟨_, rfl⟩
            have HZ := Aside0.mk (show 0 ≤ z ∧ z ≤ 7 by have := HY.out; rw [hz]; split <;> omega)
            rw [← hz]
            have HP := Aside0.mk (Put1.set b14 i wr (.int .i64 z))
            have HX2 := Aside0.mk (blk_put HX.out i (.int .i64 z) (ints_set ws i _))
            have HS2 := Aside0.mk (HS.out.trans (HP.out.below HE14.out.2.2.2.1))
            have HB2 := Aside0.mk (HB.out.trans (HP.out.below (Nat.le_trans HE14.out.2.2.2.2 HE14.out.2.2.2.1)))
            have HBU2 := Aside0.mk (HBU.out.keep (HP.out.block g (by have := HE14.out; omega)) (HP.out.block h (by have := HE14.out; omega)))
            have HWS2 := Aside0.mk (show (ws.set i z).length = 4 ∧ ∀ j, 0 ≤ (ws.set i z).getD j 0 ∧ (j < i + 1 → (ws.set i z).getD j 0 ≤ 7) ∧ (ws.set i z).getD j 0 ≤ 8 from ⟨by rw [List.length_set]; exact HWS.out.1, fun j => by
              have hj := HWS.out.2 j
              have hzz := HZ.out
              rw [set_getD _ _ _ _ (by have := HWS.out.1; have := HLT.out; omega)]
              split
              · omega
              · omega⟩)
            exact ⟨⟨i + 1, ws.set i z, by simp, by have := HLT.out; omega, HWS2, HX2, HBU2, HS2, HB2⟩, by
              have hq : ∀ z : Int, intOf (Value.int IntKind.i64 z) = z := fun z => rfl
              have := HLT.out
              rw [hq, hq]; omega⟩
          · obtain rfl : i = 4 := by omega
            obtain ⟨wa, wb, wc, wd, rfl⟩ : ∃ a b c d, ws = [a, b, c, d] := by
              have h4 := HWS.out.1
              match ws, h4 with
              | [a, b, c, d], _ => exact ⟨a, b, c, d, rfl⟩
            have HWK := Aside0.mk (show wok wa wb wc wd = true by
              unfold wok
              simp only [Bool.and_eq_true, inW_iff]
              have h0 := HWS.out.2 0; have h1 := HWS.out.2 1; have h2 := HWS.out.2 2; have h3 := HWS.out.2 3
              simp only [List.getD_cons_zero, List.getD_cons_succ] at h0 h1 h2 h3
              exact ⟨⟨⟨⟨h0.1, h0.2.1 (by omega)⟩, h1.1, h1.2.1 (by omega)⟩, h2.1, h2.2.1 (by omega)⟩, h3.1, h3.2.1 (by omega)⟩)
            clear HWS hlt hi
            have hc0 : wr.cell? ⟨b14, 0, none⟩ = some (.int .i64 wa) := blk_cell HX.out 0
            have hc1 : wr.cell? ⟨b14, 1, none⟩ = some (.int .i64 wb) := blk_cell HX.out 1
            have hc2 : wr.cell? ⟨b14, 2, none⟩ = some (.int .i64 wc) := blk_cell HX.out 2
            have hc3 : wr.cell? ⟨b14, 3, none⟩ = some (.int .i64 wd) := blk_cell HX.out 3
            have HA := Aside0.mk (mends_calls wa wb wc wd (TP_of HT.out HB.out) HWK.out)
            go_wp2_with (first
              | (go_at_call 10; refine Aside0.out ?_)
              | fail)
            refine Aside0.mk ?_
            refine HA.out.mono ?_
            rintro e w9 ⟨M, rfl, hl, hM, hb⟩
            have HX9 := Aside0.mk ((hb.block b14 (blk_lt HX.out)).trans HX.out)
            have HBU9 := Aside0.mk (HBU.out.below hb)
            have HS9 := Aside0.mk (HS.out.trans (below_less hb HS.out.size))
            have HB9 := Aside0.mk (below_step HB.out hb)
            have HLS := Aside0.mk (And.intro hl hM)
            clear hc0 hc1 hc2 hc3 HA hl hM hb HX HBU HS HB
            obtain ⟨T, hT⟩ : ∃ T, T = mendN M := ⟨_, rfl⟩
            have HTM := Aside0.mk (show T = mendN M ∧ T ≤ 1000 from ⟨hT, by have := HLS.out.2; rw [hT]; unfold mendN; omega⟩)
            rw [← hT]
            clear hT
            obtain ⟨ws, hws⟩ : ∃ ws, ws = [wa, wb, wc, wd] := ⟨_, rfl⟩
            have HSM := Aside0.mk (show Sum L (wAt ws 0 0) 0 0 (List.replicate (4 * (N + 6)) 0) by rw [HNL.out]; exact (Sum.zero L).of (fun u _ => wAt_zero ws u))
            have HTW := Aside0.mk (Two.of_below (g := g) (h := h) (Below.refl w9.heap.size w9))
            rw [← hws] at HX9
            have HWSD := Aside0.mk hws
            clear hws
            have HWB := Aside0.mk (show ws.length = 4 ∧ ∀ v, v < 4 → ∃ y : Nat, ws.getD v 0 = (y : Int) ∧ y ≤ 7 from ⟨by rw [HWSD.out]; rfl, fun v hv => by
              have h := wok_in HWK.out v hv
              rw [← wAt_end wa wb wc wd v hv, ← HWSD.out] at h
              unfold wAt at h
              rw [if_pos hv] at h
              exact ⟨(ws.getD v 0).toNat, by omega, by omega⟩⟩)
            go_wp2_with fail
            go_loopw [17, 19, 20] (fun v17 v19 v20 wr => ∃ (v k d B : Nat) (σ : List Int), v17 = .int .i64 (d : Int) ∧ v19 = .int .i64 (k : Int) ∧ v20 = .int .i64 (v : Int) ∧ v ≤ 4 ∧ Aside0 (d + k = T ∧ B ≤ 7 * v) ∧ Aside0 (Sum L (wAt ws v 0) k B σ) ∧ Aside0 (BU wr w5.heap.size g h N σ) ∧ Aside0 (Two g h w9 wr)) (fun _ _ v20 _ => 4 - (intOf v20).toNat)
            case atStart => exact ⟨0, 0, T, 0, _, rfl, by simp, by simp, by omega, ⟨by omega, by omega⟩, HSM, HBU9, HTW⟩
            case round =>
              clear HSM HBU9 HTW
              obtain ⟨v, k, d, B, σ, rfl, rfl, rfl, hv, HKD, HSM, HBU, HTW⟩ := hrel
              by_cases hlt : v < 4
              · have hv4 : (v : Int) < 4 := by omega
                have hv0 : (0 : Int) ≤ (v : Int) := by omega
                have HV := Aside0.mk hlt
                obtain ⟨y, hy, hy7⟩ := HWB.out.2 v hlt
                have HY := Aside0.mk (And.intro hy hy7)
                clear hlt hv hy hy7
                go_wp2_with fail
                go_loopw [17, 19, 21] (fun v17 v19 v21 wr => ∃ (i k d B : Nat) (σ : List Int), v17 = .int .i64 (d : Int) ∧ v19 = .int .i64 (k : Int) ∧ v21 = .int .i64 (i : Int) ∧ i ≤ y ∧ Aside0 (d + k = T ∧ B ≤ 7 * v + i) ∧ Aside0 (Sum L (wAt ws v i) k B σ) ∧ Aside0 (BU wr w5.heap.size g h N σ) ∧ Aside0 (Two g h w9 wr)) (fun _ _ v21 _ => y - (intOf v21).toNat)
                case atStart => exact ⟨0, k, d, B, σ, rfl, rfl, by simp, by omega, ⟨HKD.out.1, by have := HKD.out.2; omega⟩, HSM, HBU, HTW⟩
                case round =>
                  clear HSM HBU HTW HKD
                  obtain ⟨i, k, d, B, σ, rfl, rfl, rfl, hi, HKD, HSM, HBU, HTW⟩ := hrel
                  have hcy := (blk_cell ((HTW.out.block b14 (blk_lt HX9.out) (by have := HE14.out; omega) (by have := HE14.out; omega)).trans HX9.out) v).trans (ints_get ws v (by have := HWB.out.1; have := HV.out; omega))
                  rw [HY.out.1] at hcy
                  by_cases hlt : i < y
                  · have hS9 : Below w5.heap.size w5 wr := HS9.out.trans (HTW.out.below HS9.out.size HBU.out.lo.1 HBU.out.lo.2.1)
                    obtain ⟨Av, cv, hcp, hPC, hmc, hAv⟩ := (HPT.out.low hS9).2 v HV.out
                    have HPP := Aside0.mk (And.intro hPC (And.intro hmc hAv))
                    have HB9r := Aside0.mk (show Below w.heap.size w wr from HB9.out.trans (HTW.out.below HB9.out.size (Nat.le_trans HE14.out.2.2.2.2 HBU.out.lo.1) (Nat.le_trans HE14.out.2.2.2.2 HBU.out.lo.2.1)))
                    have hiy : (i : Int) < (y : Int) := by omega
                    have hib : (i : Int) ≤ 7 := by have := HY.out.2; omega
                    have HI := Aside0.mk hlt
                    have hkb : (k : Int) ≤ 1000 := by have := HKD.out.1; have := HTM.out.2; omega
                    have hdb : (d : Int) ≤ 1000 := by have := HKD.out.1; have := HTM.out.2; omega
                    have hk0 : (0 : Int) ≤ (k : Int) := by omega
                    clear hlt hi hS9 hPC hmc hAv
                    have HVP := Aside0.mk (And.intro (vp_len (code L) v m) (And.intro (vp_isb HCI.out.2 v m) (vp_get (code L) v m)))
                    obtain ⟨P, hP⟩ : ∃ P, P = vp (code L) v m := ⟨_, rfl⟩
                    rw [← hP] at HPP HVP
                    clear hP
                    by_cases e12 : k < l2.length ∧ 0 < d
                    · obtain ⟨e1, e2⟩ := e12
                      have e1i : (k : Int) < (l2.length : Int) := by omega
                      skip
                      obtain ⟨d1, hd1⟩ : ∃ d1, d = d1 + 1 := ⟨d - 1, by omega⟩
                      have e2i : (0 : Int) < (d : Int) := by omega
                      have hdd : (d : Int) - 1 = (d1 : Int) := by omega
                      have hd1b : (d1 : Int) ≤ 1000 := by omega
                      have HD1 := Aside0.mk hd1
                      obtain ⟨i0, hi0, hz0, hz1, hz2⟩ := info_parts i64_info
                      obtain ⟨A', hcut0, hA2, hC2⟩ := print_drop_of (P := Tryd.prog) (Value.int .i64) 0 23 3 .i64 Tryd.underlying23 hi0 hz1 A2 c2 l2 (k : Int) hk0 (by omega) HN.out.2.2.2
                      obtain ⟨D, hD⟩ : ∃ D, D = l2.drop k := ⟨_, rfl⟩
                      have hcut : ∀ W : World, (Instr.slice 23 (.slice A2 l2.length c2) (some (.int .i64 (k : Int))) none none).run Tryd.prog W = .ok (.slice A' D.length (c2 - k)) W := by
                        intro W
                        have h := hcut0 W
                        simp only [Int.toNat_natCast] at h
                        rw [hD]
                        exact h
                      obtain ⟨p, hp⟩ := places_one l2[k] (l2.drop (k + 1)) (m : Int) (by have := HM.out.1; have := HNL.out; have := HL.out.1; omega)
                      rw [← drop_cons l2 k e1, ← hD] at hp
                      obtain ⟨R, hr1, hr2, hr3, kk, hr4⟩ := turn_one HVP.out.2.1 (by rw [HVP.out.1]; have := HM.out.1; have := HNL.out; have := HL.out.1; omega) p
                      obtain ⟨Z, hZ⟩ : ∃ Z, Z = [p] := ⟨_, rfl⟩
                      rw [← hZ] at hp hr1
                      have HPL := Aside0.mk (shuttletop_places.calls 10 A' (c2 - k) D 1 (m : Int) Z wr (Kd.C_of_reads (by have h := hA2 wr (Kd.reads_of_C (Kd.C_below HR2.out HB9r.out)); rw [Int.toNat_natCast, ← hD] at h; exact h)) (by rw [Int.toNat_natCast, ← hD] at hC2; exact hC2) hp)
                      have HTR := Aside0.mk hr1
                      have HRR := Aside0.mk (show R.length = m ∧ (∀ x ∈ R, isb x) ∧ ∃ kk, ∀ t, t ≠ kk → R.getD t 0 = P.getD t 0 from ⟨hr2.trans HVP.out.1, hr3, kk, hr4⟩)
                      clear e1 e2 hd1 hi0 hz0 hz1 hz2 hcut0 hA2 hC2 hD hp hr1 hr2 hr3 hr4 hZ
                      go_wp2_with (first
                        | (go_at_call 12; refine Aside0.out ?_)
                        | fail)
                      refine Aside0.mk ?_
                      refine HPL.out.mono ?_
                      rintro e w10 ⟨v124, rfl, hv, hb⟩
                      obtain ⟨A5, c5, rfl⟩ := Kd.R_slice hv
                      have htn := bits_Turn.calls 10 Av cv P A5 c5 Z R w10 (Kd.C_below HPP.out.1 hb) (by rw [HVP.out.1]; exact HPP.out.2.1) (Kd.R_reads' hv).2.2 (Kd.R_reads' hv).2.1 HTR.out
                      rw [HVP.out.1] at htn
                      have HTN := Aside0.mk htn
                      have HB10 := Aside0.mk hb
                      clear hv hb htn HPL HTR
                      go_wp2_with (first
                        | (go_at_call 11; refine Aside0.out ?_)
                        | fail)
                      refine Aside0.mk ?_
                      refine HTN.out.mono ?_
                      rintro e w11 ⟨v125, rfl, hv, hb⟩
                      obtain ⟨A6, c6, rfl, hp1, hp2, hp3⟩ := part_new hv (by rw [HRR.out.1]; have := HM.out.1; omega)
                      have hbb := below_step HB10.out hb
                      have HBUt := Aside0.mk (HBU.out.below hbb)
                      have HTWt := Aside0.mk (HTW.out.trans (Two.of_below hbb))
                      have HPt := Aside0.mk (show Kd.C (Kd.int .u8) w11 A6 R.length R ∧ R.length = m ∧ m ≤ c6 ∧ (∀ x ∈ R, isb x) ∧ (∀ d, A6 = some d → d.block ≠ g ∧ d.block ≠ h) from ⟨hp1, HRR.out.1, by rw [← HRR.out.1]; exact hp2, HRR.out.2.1, fun d hd => by
                        have h1 := hp3 d hd
                        have h2 := HB10.out.size
                        have h3 := blk_lt HBU.out.row
                        have h4 := blk_lt HBU.out.box.choose_spec.1
                        omega⟩)
                      have HSt := Aside0.mk (show Sum L (wAt ws v (i + 1)) (k + 1) (B + 1) (adK σ v R m) by
                        obtain ⟨kk, hkk⟩ := HRR.out.2.2
                        have h := HSM.out.turned HL.out.2 (W' := wAt ws v (i + 1)) HV.out (P := R) HRR.out.2.1 (k := kk) (fun t ht hne => (hkk t hne).trans (HVP.out.2.2 t (by have := HM.out.1; have := HNL.out; omega))) (fun u _ => wAt_next ws v i u)
                        rw [← HNL.out, ← HM.out.1] at h
                        exact h)
                      have HKt := Aside0.mk (show d1 + (k + 1) = T by have := HKD.out.1; have := HD1.out; omega)
                      rw [HRR.out.1]
                      clear hv hb hp1 hp2 hp3 hbb HTN HB10 HRR
                      have HAD := Aside0.mk (add_calls (w := w11) (S := w5.heap.size) (g := g) (h := h) (n := N) (σ := σ) HBUt.out (by have := HNL.out; have := HL.out.1; omega) v HV.out (A := A6) (P := R) (c := c6) HPt.out.1 (by rw [HPt.out.2.1]; exact HPt.out.2.2.1) (by rw [HPt.out.2.1]; exact HM.out.1) HPt.out.2.2.2.1 HPt.out.2.2.2.2 (fun j => by have h := HSM.out.bnd j; have := HKD.out.2; have := HV.out; have := HI.out; have := HY.out.2; omega))
                      rw [← HM.out.1] at HAD
                      go_wp2_with (first
                        | (go_at_call 13; refine Aside0.out ?_)
                        | fail)
                      refine Aside0.mk ?_
                      refine HAD.out.mono ?_
                      rintro e wn ⟨rfl, hbu, htw⟩
                      have HBUn := Aside0.mk hbu
                      have HTWn := Aside0.mk (HTWt.out.trans htw)
                      clear hbu htw HAD HBUt HTWt HPt HBU HTW HSM
                      go_wp2_with fail
                      exact ⟨⟨i + 1, (k + 1), d1, B + 1, _, by first | rfl | simp | (congr 1; omega), by first | rfl | simp | (congr 1; omega), by simp, HI.out, ⟨HKt.out, by have := HKD.out.2; omega⟩, HSt, HBUn, HTWn⟩, by
                        have hq : ∀ z : Int, intOf (Value.int IntKind.i64 z) = z := fun z => rfl
                        have := HI.out
                        rw [hq, hq]; omega⟩
                    · have hcase : ((k : Int) < (l2.length : Int) ∧ ¬ (0 : Int) < (d : Int)) ∨ ¬ (k : Int) < (l2.length : Int) := by omega
                      rcases hcase with ⟨q3, q4⟩ | q3
                      all_goals
                        clear e12
                        have HBUt := HBU
                        have HTWt := HTW
                        have HPt := Aside0.mk (show Kd.C (Kd.int .u8) wr Av P.length P ∧ P.length = m ∧ m ≤ cv ∧ (∀ x ∈ P, isb x) ∧ (∀ d, Av = some d → d.block ≠ g ∧ d.block ≠ h) from ⟨HPP.out.1, HVP.out.1, HPP.out.2.1, HVP.out.2.1, fun d hd => by have := HPP.out.2.2 d hd; have := HBU.out.lo; omega⟩)
                        have HSt := Aside0.mk (show Sum L (wAt ws v (i + 1)) k (B + 1) (adK σ v P m) by
                          have h := HSM.out.clean (W' := wAt ws v (i + 1)) HV.out (P := P) (fun t ht => HVP.out.2.2 t (by have := HM.out.1; have := HNL.out; omega)) (fun u _ => wAt_next ws v i u)
                          rw [← HNL.out, ← HM.out.1] at h
                          exact h)
                        have HKt := Aside0.mk (HKD.out.1)
                        have HAD := Aside0.mk (add_calls (w := wr) (S := w5.heap.size) (g := g) (h := h) (n := N) (σ := σ) HBUt.out (by have := HNL.out; have := HL.out.1; omega) v HV.out (A := Av) (P := P) (c := cv) HPt.out.1 (by rw [HPt.out.2.1]; exact HPt.out.2.2.1) (by rw [HPt.out.2.1]; exact HM.out.1) HPt.out.2.2.2.1 HPt.out.2.2.2.2 (fun j => by have h := HSM.out.bnd j; have := HKD.out.2; have := HV.out; have := HI.out; have := HY.out.2; omega))
                        rw [← HM.out.1] at HAD
                        go_wp2_with (first
                          | (go_at_call 13; refine Aside0.out ?_)
                          | fail)
                        refine Aside0.mk ?_
                        refine HAD.out.mono ?_
                        rintro e wn ⟨rfl, hbu, htw⟩
                        have HBUn := Aside0.mk hbu
                        have HTWn := Aside0.mk (HTWt.out.trans htw)
                        clear hbu htw HAD HBUt HTWt HPt HBU HTW HSM
                        go_wp2_with fail
                        exact ⟨⟨i + 1, k, d, B + 1, _, by first | rfl | simp | (congr 1; omega), by first | rfl | simp | (congr 1; omega), by simp, HI.out, ⟨HKt.out, by have := HKD.out.2; omega⟩, HSt, HBUn, HTWn⟩, by
                          have hq : ∀ z : Int, intOf (Value.int IntKind.i64 z) = z := fun z => rfl
                          have := HI.out
                          rw [hq, hq]; omega⟩
                  · obtain rfl : i = y := by omega
                    clear hlt hi
                    go_wp2_with fail
                    exact ⟨⟨v + 1, k, d, B, σ, rfl, rfl, by simp, HV.out, ⟨HKD.out.1, by have := HKD.out.2; have := HY.out.2; omega⟩, ⟨HSM.out.of (fun u _ => wAt_row ws v i HY.out.1 u)⟩, HBU, HTW⟩, by
                      have hq : ∀ z : Int, intOf (Value.int IntKind.i64 z) = z := fun z => rfl
                      have := HV.out
                      rw [hq, hq]; omega⟩
              · obtain rfl : v = 4 := by omega
                clear hlt hv
                have HX4 := Aside0.mk ((HTW.out.block b14 (blk_lt HX9.out) (by have := HE14.out; omega) (by have := HE14.out; omega)).trans HX9.out)
                rw [HWSD.out] at HX4
                have HB9r := Aside0.mk (show Below w.heap.size w wr from HB9.out.trans (HTW.out.below HB9.out.size (Nat.le_trans HE14.out.2.2.2.2 HBU.out.lo.1) (Nat.le_trans HE14.out.2.2.2.2 HBU.out.lo.2.1)))
                have HS9r := Aside0.mk (show Below w5.heap.size w5 wr from HS9.out.trans (HTW.out.below HS9.out.size HBU.out.lo.1 HBU.out.lo.2.1))
                have hc0 : wr.cell? ⟨b14, 0, none⟩ = some (.int .i64 wa) := blk_cell HX4.out 0
                have hc1 : wr.cell? ⟨b14, 1, none⟩ = some (.int .i64 wb) := blk_cell HX4.out 1
                have hc2 : wr.cell? ⟨b14, 2, none⟩ = some (.int .i64 wc) := blk_cell HX4.out 2
                have hc3 : wr.cell? ⟨b14, 3, none⟩ = some (.int .i64 wd) := blk_cell HX4.out 3
                have HA := Aside0.mk (dleast_calls wa wb wc wd (TP_of HT.out HB9r.out) HWK.out)
                have HSW := Aside0.mk (show Sum L (wOf wa wb wc wd) k B σ from HSM.out.of (fun u hu => by rw [HWSD.out]; exact (wAt_end wa wb wc wd u hu).symm))
                clear HX4 HSM
                go_wp2_with (first
                  | (go_at_call 14; refine Aside0.out ?_)
                  | fail)
                refine Aside0.mk ?_
                refine HA.out.mono ?_
                rintro e w10 ⟨M2, rfl, hl, hb⟩
                obtain rfl : M2 = M := IsLeast.same hl HLS.out.1
                have HBUa := Aside0.mk (HBU.out.below hb)
                have HB10 := Aside0.mk (below_step HB9r.out hb)
                have HS10 := Aside0.mk (HS9r.out.trans (below_less hb HS9r.out.size))
                clear hc0 hc1 hc2 hc3 HA hl hb HBU HB9r HS9r HTW
                by_cases z0 : M2 = 0
                · subst z0
                  go_wp2_with fail
                  have hrs : (Tryd.f3).results = #[.tmp 6] := by kernel_rfl
                  refine bodyPost_ret (results_tmp hrs _ _ _) rfl ?_
                  exact ⟨by simp, HB10.out⟩
                · have hM2 : ¬ ((M2 : Int) = 0) := by omega
                  have hM3 : ((M2 : Int) == 0) = false := beq_eq_false_iff_ne.2 hM2
                  have hal := HSW.out.alone HL.out.2 (wok_in HWK.out) HLS.out.1 (by have := HKD.out.1; have := HTM.out.1; omega) z0
                  rw [← HNL.out] at hal
                  have HD := Aside0.mk (cdecode_calls (TP_of HT.out HB10.out) HBUa.out (by have := HNL.out; have := HL.out.1; omega) (fun j => by have := HSW.out.bnd j; have := HKD.out.2; omega) _ hal)
                  have hti := toI_inp HL.out.2
                  rw [← HNL.out] at hti
                  rw [hti] at HD
                  clear z0 hM2 hal hti
                  go_wp2_with (first
                    | (go_at_call 15; refine Aside0.out ?_)
                    | fail)
                  refine Aside0.mk ?_
                  refine HD.out.mono ?_
                  rintro e w11 ⟨v25, rfl, hv, hb⟩
                  have HB11 := Aside0.mk (below_step HB10.out hb)
                  have hcva := own_string (P := Tryd.prog) Tryd.underlying22 Tryd.underlying5 Tryd.underlying9 (Kd.own_of_R hv)
                  have hv7 := Kd.R_step HV75.out (fun k hk _ => (HS10.out.trans (below_less hb HS10.out.size)).block k hk)
                  have hcvb := own_string (P := Tryd.prog) Tryd.underlying22 Tryd.underlying5 Tryd.underlying9 (Kd.own_of_R hv7)
                  clear hv hv7 hb HD hM3
                  go_wp2_with fail
                  have hrs : (Tryd.f3).results = #[.tmp 6] := by kernel_rfl
                  refine bodyPost_ret (results_tmp hrs _ _ _) rfl ?_
                  exact ⟨by simp, HB11.out⟩
end
end
end Go.Proofs.YteileaajmnbmpaaDoor.P
