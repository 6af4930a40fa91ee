/- spectrum's counter: begin by hand. No condition but bounds. -/
import Derived.Test.YtijpnlmejphfhaaDoorPSEdge
import Derived.Test.YtijpnlmejphfhaaDoorP15
namespace Go.Proofs.YtijpnlmejphfhaaDoor.P
open Go Go.Proofs Go.RowKit Go.Proofs.YtijpnlmejphfhaaDoorW.PrintWords Go.Proofs.YtijpnlmejphfhaaDoorW.PrintLast Go.Proofs.YtijpnlmejphfhaaDoorW.PrintMore
set_option linter.unusedVariables false
set_option linter.unusedSimpArgs false

def sl (b N : Nat) : Value := .slice (some ⟨b, 0, none⟩) N N
def zeros (N : Nat) : List Int := List.replicate N 0
/-- But for block g nothing old has turned. -/
structure FG (g : Nat) (w w' : World) : Prop where
  os : w'.os = w.os
  tape : w'.tape = w.tape
  output : w'.output = w.output
  size : w.heap.size ≤ w'.heap.size
  block : ∀ k, k < w.heap.size → k ≠ g → w'.heap[k]? = w.heap[k]?
theorem FG.refl (g : Nat) (w : World) : FG g w w := ⟨rfl, rfl, rfl, Nat.le_refl _, fun _ _ _ => rfl⟩
theorem FG.trans {g : Nat} {w w1 w2 : World} (h : FG g w w1) (k : FG g w1 w2) : FG g w w2 :=
  ⟨k.os.trans h.os, k.tape.trans h.tape, k.output.trans h.output, Nat.le_trans h.size k.size, fun i hi hg => (k.block i (Nat.lt_of_lt_of_le hi h.size) hg).trans (h.block i hi hg)⟩
theorem FG.of_below {g : Nat} {w w' : World} (h : Below w.heap.size w w') : FG g w w' := ⟨h.os, h.tape, h.output, h.size, fun k hk _ => h.block k hk⟩
theorem FG.set (g i : Nat) (w : World) (x : Value) : FG g w (w.setCell ⟨g, i, none⟩ x) := ⟨rfl, rfl, rfl, by simp, fun k _ hk => Below.heap_setCell w ⟨g, i, none⟩ x k hk⟩
theorem FG.below {g : Nat} {w w' : World} (h : FG g w w') {B : Nat} (hB : B ≤ g) (hs : B ≤ w.heap.size) : Below B w w' := ⟨h.os, h.tape, h.output, h.size, fun k hk => h.block k (by omega) (by omega)⟩
theorem TP.fg {g : Nat} {w w' : World} (h : TP w) (hg : g ≠ 0) (hf : FG g w w') : TP w' := by
  have e : ∀ i, w'.cell? ⟨0, i, none⟩ = w.cell? ⟨0, i, none⟩ := fun i => World.cell?_of_block (w := w) (hf.block 0 h.lt (fun e => hg e.symm))
  exact ⟨(e 0).trans h.c0, (e 1).trans h.c1, (e 2).trans h.c2, (e 3).trans h.c3⟩
/-- The counter's cells: the weights, the most, the rows of the first k states. -/
structure CC (C : Array Value) (W : Nat → Int) (N : Nat) (A : Nat → Nat) (k : Nat) : Prop where
  size : C.size = 70
  ws : ∀ v, v < 4 → C[v]? = some (.int .i64 (W v))
  top : C[4]? = some (.int .i64 ((N : Int) - 1))
  ways : ∀ s, s < k → C[5 + s]? = some (sl (A s) N)
variable {C : Array Value} {W : Nat → Int} {N : Nat} {A : Nat → Nat} {k : Nat}
theorem CC.set (h : CC C W N A k) (hk : k < 64) : CC (C.setIfInBounds (5 + k) (sl (A k) N)) W N A (k + 1) := by
  refine ⟨by simp [h.size], fun v hv => ?_, ?_, fun s hs => ?_⟩
  · rw [Array.getElem?_setIfInBounds, if_neg (by omega)]; exact h.ws v hv
  · rw [Array.getElem?_setIfInBounds, if_neg (by omega)]; exact h.top
  · rw [Array.getElem?_setIfInBounds]
    by_cases e : 5 + k = 5 + s
    · rw [if_pos e, if_pos (by rw [h.size]; omega)]
      have : k = s := by omega
      rw [this]
    · rw [if_neg e]; exact h.ways s (by omega)
theorem CC.found (h : CC C W N A k) (hk : k ≤ 64) (F : Nat) : CC (C.setIfInBounds 69 (sl F N)) W N A k ∧ (C.setIfInBounds 69 (sl F N))[69]? = some (sl F N) := by
  refine ⟨⟨by simp [h.size], fun v hv => ?_, ?_, fun s hs => ?_⟩, ?_⟩
  · rw [Array.getElem?_setIfInBounds, if_neg (by omega)]; exact h.ws v hv
  · rw [Array.getElem?_setIfInBounds, if_neg (by omega)]; exact h.top
  · rw [Array.getElem?_setIfInBounds, if_neg (by omega)]; exact h.ways s hs
  · rw [Array.getElem?_setIfInBounds, if_pos rfl, if_pos (by rw [h.size]; omega)]
/-- The counter at block g: of state s the row lies in block A s, what is found in block F. -/
structure SP (w : World) (g : Nat) (W : Nat → Int) (N : Nat) (A : Nat → Nat) (F : Nat) (rows : Nat → List Int) (fnd : List Int) : Prop where
  blk : ∃ C, w.heap[g]? = some (.cells C 52 (0, 0)) ∧ CC C W N A 64 ∧ C[69]? = some (sl F N)
  row : ∀ s, s < 64 → w.heap[A s]? = some (.cells (ints (rows s)) 3 (0, 0)) ∧ (rows s).length = N
  fnd : w.heap[F]? = some (.cells (ints fnd) 3 (0, 0)) ∧ fnd.length = N
  inj : ∀ s t, s < 64 → t < 64 → A s = A t → s = t
  ne : ∀ s, s < 64 → A s ≠ F
theorem SP.below {w w' : World} {g F : Nat} {rows : Nat → List Int} {fnd : List Int} (h : SP w g W N A F rows fnd) (hb : Below w.heap.size w w') : SP w' g W N A F rows fnd := by
  obtain ⟨C, hC, hcc, hF⟩ := h.blk
  exact ⟨⟨C, (hb.block g (blk_lt hC)).trans hC, hcc, hF⟩, fun s hs => ⟨(hb.block _ (blk_lt (h.row s hs).1)).trans (h.row s hs).1, (h.row s hs).2⟩, ⟨(hb.block F (blk_lt h.fnd.1)).trans h.fnd.1, h.fnd.2⟩, h.inj, h.ne⟩
theorem SP.lt {w : World} {g F : Nat} {rows : Nat → List Int} {fnd : List Int} (h : SP w g W N A F rows fnd) : g < w.heap.size := by
  obtain ⟨C, hC, _⟩ := h.blk
  exact blk_lt hC
theorem SP.neg {w : World} {g F : Nat} {rows : Nat → List Int} {fnd : List Int} (h : SP w g W N A F rows fnd) (s : Nat) (hs : s < 64) : g ≠ A s := by
  obtain ⟨C, hC, _⟩ := h.blk
  intro e
  have h2 := (h.row s hs).1
  rw [← e, hC] at h2
  injection h2 with h2
  injection h2 with _ h2
  exact absurd h2 (by decide)
theorem SP.negF {w : World} {g F : Nat} {rows : Nat → List Int} {fnd : List Int} (h : SP w g W N A F rows fnd) : g ≠ F := by
  obtain ⟨C, hC, _⟩ := h.blk
  intro e
  have h2 := h.fnd.1
  rw [← e, hC] at h2
  injection h2 with h2
  injection h2 with _ h2
  exact absurd h2 (by decide)
/-- A state's row written. -/
theorem SP.put {w w' : World} {g F : Nat} {rows : Nat → List Int} {fnd x : List Int} (h : SP w g W N A F rows fnd) (s : Nat) (hs : s < 64) (hp : Put1 (A s) w w') (hx : w'.heap[A s]? = some (.cells (ints x) 3 (0, 0))) (hl : x.length = N) :
    SP w' g W N A F (fun u => if u = s then x else rows u) fnd := by
  obtain ⟨C, hC, hcc, hF⟩ := h.blk
  refine ⟨⟨C, (hp.block g (h.neg s hs)).trans hC, hcc, hF⟩, fun u hu => ?_, ⟨(hp.block F (h.ne s hs).symm).trans h.fnd.1, h.fnd.2⟩, h.inj, h.ne⟩
  by_cases e : u = s
  · subst e
    rw [if_pos rfl]
    exact ⟨hx, hl⟩
  · rw [if_neg e]
    exact ⟨(hp.block (A u) (fun q => e (h.inj u s hu hs q))).trans (h.row u hu).1, (h.row u hu).2⟩
theorem SP.cell {w : World} {g F : Nat} {rows : Nat → List Int} {fnd : List Int} (h : SP w g W N A F rows fnd) : (∀ v, v < 4 → w.cell? ⟨g, v, none⟩ = some (.int .i64 (W v))) ∧ w.cell? ⟨g, 4, none⟩ = some (.int .i64 ((N : Int) - 1)) ∧ (∀ s, s < 64 → w.cell? ⟨g, 5 + s, none⟩ = some (sl (A s) N)) ∧ w.cell? ⟨g, 69, none⟩ = some (sl F N) := by
  obtain ⟨C, hC, hcc, hF⟩ := h.blk
  exact ⟨fun v hv => (blk_cell hC v).trans (hcc.ws v hv), (blk_cell hC 4).trans hcc.top, fun s hs => (blk_cell hC (5 + s)).trans (hcc.ways s hs), (blk_cell hC 69).trans hF⟩
theorem from_0 : trellis_From.f 0 = some (0, 0, 0, ob 0 0 0, ob 0 0 1, ob 0 0 2, ob 0 0 3, 0, 32, 1, ob 0 1 0, ob 0 1 1, ob 0 1 2, ob 0 1 3, 0) := from_f 0 (by decide)
def one (N : Nat) : List Int := (zeros N).set 0 1
def beginRows (W : Nat → Int) (N t s : Nat) : List Int := if s = 32 then addI (zeros N) (one N) (ew W 0 1 t).toNat N else zeros N
def begin4.T : Bool × List (List Nat × List Nat) := (true, [([], []), ([], []), ([], []), ([2], [2]), ([0], [0]), ([4], [4]), ([5, 1, 0, 1, 2, 3], [1, 5]), ([6, 3, 3, 0, 1, 2, 3], [3, 6])])
def begin4.B : List Nat := [0, 0, 0, 4, 1, 17, 63, 127]
theorem begin4.tab : rtab .any (opsOf Tryd.f27 4) = begin4.T := by kernel_rfl
theorem begin4.bits : waitsOk begin4.T.2 begin4.B = true := by kernel_rfl
def begin12.T : Bool × List (List Nat × List Nat) := (true, [([], []), ([], []), ([], []), ([2], [2]), ([3], [3]), ([1], [1]), ([5], [5]), ([6, 4], [4, 6]), ([7], [7]), ([], []), ([], []), ([], []), ([11], [11]), ([], []), ([10, 12, 13], [10, 12, 13]), ([0, 8, 9, 14, 14], [0, 8, 9, 14])])
def begin12.B : List Nat := [0, 0, 0, 4, 12, 2, 34, 126, 254, 0, 0, 0, 2048, 0, 15360, 32767]
theorem begin12.tab : rtab .any (opsOf Tryd.f27 12) = begin12.T := by kernel_rfl
theorem begin12.bits : waitsOk begin12.T.2 begin12.B = true := by kernel_rfl
set_option maxRecDepth 100000 in
set_option maxHeartbeats 8000000 in
theorem begin_calls {w : World} {g : Nat} (hT : TP w) (hg0 : g ≠ 0) (hC : w.heap[g]? = some (.cells C 52 (0, 0))) (hcc : CC C W N A 0) (hN : 1 ≤ N ∧ N ≤ 1000) (hWb : ∀ v, v < 4 → 0 ≤ W v ∧ W v ≤ 7) (t : Nat) (ht : t ≤ 100000) :
    Calls Tryd.prog 27 #[.pointer (some ⟨g, 0, none⟩), .int .i64 (t : Int)] w fun e w' => e = .returned (.int .i64 0) ∧ ∃ A F, SP w' g W N A F (beginRows W N t) (zeros N) ∧ FG g w w' ∧ w.heap.size ≤ F := by
  have HT := Aside0.mk hT
  have HG0 := Aside0.mk hg0
  have HWB := Aside0.mk hWb
  have HN := Aside0.mk hN
  have hgl : g < w.heap.size := blk_lt hC
  obtain ⟨n1, hn1⟩ : ∃ n1, n1 = w.heap.size := ⟨_, rfl⟩
  have HN1 := Aside0.mk hn1
  have HC0 := Aside0.mk (And.intro hC (show CC C W N (fun s => n1 + s) 0 from ⟨hcc.size, hcc.ws, hcc.top, fun s hs => absurd hs (Nat.not_lt_zero _)⟩))
  obtain ⟨tI, htI⟩ : ∃ tI : Int, (t : Int) = tI := ⟨_, rfl⟩
  rw [htI]
  have HTI := Aside0.mk htI
  clear hT hg0 hWb hC hcc hN hn1 htI
  go_enter Tryd.func27, Tryd.ntmps27
  go_wp2_with fail
  go_loopw [9] (fun v9 wr => ∃ (i : Nat) (C : Array Value), v9 = .int .i64 (i : Int) ∧ i ≤ 64 ∧ Aside0 (wr.heap.size = n1 + i) ∧ Aside0 (wr.heap[g]? = some (.cells C 52 (0, 0)) ∧ CC C W N (fun s => n1 + s) i) ∧ Aside0 (∀ s, s < i → wr.heap[n1 + s]? = some (.cells (ints (zeros N)) 3 (0, 0))) ∧ Aside0 (FG g w wr)) (fun v9 _ => 64 - (intOf v9).toNat)
  case atStart => exact ⟨0, C, by simp, by omega, ⟨by rw [HN1.out]; rfl⟩, HC0, ⟨fun s hs => absurd hs (Nat.not_lt_zero _)⟩, ⟨FG.refl _ _⟩⟩
  case round =>
    clear HC0
    obtain ⟨i, C, rfl, hi, HZ, HC, HR, HF⟩ := hrel
    by_cases hlt : i < 64
    · have hlb : decide ((i : Int) < 64) = true := decide_eq_true (by omega)
      have hi64 : (i : Int) < 64 := by omega
      go_wp2_with fail
      have hem := empty_calls (w := wr.drew) (g := g) (N := N) ((blk_cell HC.out.1 4).trans HC.out.2.top) HN.out.2
      obtain ⟨b, hb⟩ : ∃ b, b = n1 + i := ⟨_, rfl⟩
      have hzb : wr.drew.heap.size = b := by rw [hb]; exact HZ.out
      rw [hzb] at hem
      have HEM := Aside0.mk hem
      have HBE := Aside0.mk (And.intro hb hzb)
      clear hem hb hzb
      refine start_ (n := 8) (S := (fun w' => True)) (ds := [7]) #[false, false, false, false, false, false, false, false] (by kernel_rfl) rfl rfl trivial (fun hHeld => ?_)
      refine with_tabW begin4.tab begin4.bits (fun HT_ HW_ => ?_)
      refine pure_ (i := 0) (N := some 12) (v := ?_) (a' := ?_) #[true, false, false, false, false, false, false, false] rfl rfl (any_of HT_.out (by kernel_rfl)) (fun _ _ _ h => h) (Or.inl ⟨by rfl, ?_⟩) ?_ ?_
      rotate_left
      · intro w'
        go_simp
        with_reducible rfl
      rotate_left
      · simp only [Act.put, List.setIfInBounds_toArray, List.set_cons_zero, List.set_cons_succ, i64_w, i32_w]
        rfl
      refine pure_ (i := 1) (N := some 13) (v := ?_) (a' := ?_) #[true, true, false, false, false, false, false, false] rfl rfl (any_of HT_.out (by kernel_rfl)) (fun _ _ _ h => h) (Or.inl ⟨by rfl, ?_⟩) ?_ ?_
      rotate_left
      · intro w'
        go_simp
        with_reducible rfl
      rotate_left
      · simp only [Act.put, List.setIfInBounds_toArray, List.set_cons_zero, List.set_cons_succ, i64_w, i32_w]
        rfl
      refine pure_ (i := 2) (N := some 14) (v := ?_) (a' := ?_) #[true, true, true, false, false, false, false, false] rfl rfl (any_of HT_.out (by kernel_rfl)) (fun _ _ _ h => h) (Or.inl ⟨by rfl, ?_⟩) ?_ ?_
      rotate_left
      · intro w'
        go_simp
        with_reducible rfl
      rotate_left
      · simp only [Act.put, List.setIfInBounds_toArray, List.set_cons_zero, List.set_cons_succ, i64_w, i32_w]
        rfl
      refine pure_ (i := 4) (N := some 16) (v := ?_) (a' := ?_) #[true, true, true, false, true, false, false, false] rfl rfl (any_of HT_.out (by kernel_rfl)) (fun _ _ _ h => h) (Or.inl ⟨by rfl, ?_⟩) ?_ ?_
      rotate_left
      · intro w'
        go_simp
        with_reducible rfl
      rotate_left
      · simp only [Act.put, List.setIfInBounds_toArray, List.set_cons_zero, List.set_cons_succ, i64_w, i32_w]
        rfl
      refine pure_ (i := 5) (N := some 17) (v := ?_) (a' := ?_) #[true, true, true, false, true, true, false, false] rfl rfl (any_of HT_.out (by kernel_rfl)) (fun _ _ _ h => h) (Or.inl ⟨by rfl, ?_⟩) ?_ ?_
      rotate_left
      · intro w'
        go_simp
        with_reducible rfl
      rotate_left
      · simp only [Act.put, List.setIfInBounds_toArray, List.set_cons_zero, List.set_cons_succ, i64_w, i32_w]
        rfl
      refine one_ (i := 3) (N := some 15) #[true, true, true, true, true, true, false, false] rfl rfl (one_of HT_.out (by kernel_rfl)) (by decide) (fun K hK => ?_)
      refine goes_ Tryd.func38 (by kernel_rfl) rfl #[.pointer (some ⟨g, 0, none⟩)] (by rfl) rfl rfl (by (try simp only [List.map_toArray, List.map_cons, List.map_nil]); first | done | rfl | (go_simp; done) | simp [Act.eval]) ?_
      refine HEM.out.mono ?_
      rintro e w1 ⟨rfl, hw1⟩
      have HW1 := Aside0.mk hw1
      have hb1 := below_alloc (Below.refl wr.drew.heap.size wr.drew) (.cells (ints (List.replicate N 0)) 3)
      rw [← hw1] at hb1
      have hbg := (hb1.block g (Nat.lt_of_lt_of_le hgl HF.out.size)).trans HC.out.1
      have HB1 := Aside0.mk (And.intro hb1 hbg)
      clear hw1 hb1 hbg
      refine ⟨_, rfl, ?_⟩
      refine hK.out _ _ trivial (fun hHeld => ?_)
      clear hK K
      refine norm_ (a' := ?_) ?_ ?_
      rotate_left
      · show Act.put _ (some 15) _ = _
        simp only [Act.put, List.setIfInBounds_toArray, List.set_cons_zero, List.set_cons_succ, i64_w, i32_w]
        rfl
      refine pure_ (i := 6) (N := some 18) (v := ?_) (a' := ?_) #[true, true, true, true, true, true, true, false] rfl rfl (any_of HT_.out (by kernel_rfl)) (fun _ _ _ h => h) (Or.inl ⟨by rfl, ?_⟩) ?_ ?_
      rotate_left
      · intro w'
        go_simp
        with_reducible rfl
      rotate_left
      · simp only [Act.put, List.setIfInBounds_toArray, List.set_cons_zero, List.set_cons_succ, i64_w, i32_w]
        rfl
      refine last_ (i := 7) (N := none) #[true, true, true, true, true, true, true, true] rfl rfl (one_of HT_.out (by kernel_rfl)) (by decide) (fun K hK => ?_)
      have hcg : ∃ u, w1.cell? ⟨g, 5 + i, none⟩ = some u := ⟨C[5 + i]'(by rw [HC.out.2.size]; omega), (blk_cell HB1.out.2 (5 + i)).trans (Array.getElem?_eq_getElem _)⟩
      obtain ⟨u, hcg⟩ := hcg
      have hfz := blk_frozen HB1.out.2 (5 + i)
      refine skip_ (w1 := ?_) (by rfl) rfl ?_ ?_
      rotate_left 1
      · go_simp
        rfl
      refine hK.out _ _ ?_
      clear hK K
      refine done_ (done_of HT_.out (by kernel_rfl)) ?_
      clear hcg hfz
      have hsz := HBE.out.2
      have hbe := HBE.out.1
      have hz2 : (w1.setCell ⟨g, 5 + i, none⟩ (.slice (some ⟨b, 0, none⟩) N N)).heap.size = n1 + (i + 1) := by
        rw [HW1.out]; simp only [World.size_setCell, World.size_alloc]; omega
      have hC2 := blk_put HB1.out.2 (5 + i) (sl b N) rfl
      have hcc2 := HC.out.2.set hlt
      have hgn : g < n1 := by rw [HN1.out]; exact hgl
      have hR2 : ∀ s, s < i + 1 → (w1.setCell ⟨g, 5 + i, none⟩ (.slice (some ⟨b, 0, none⟩) N N)).heap[n1 + s]? = some (.cells (ints (zeros N)) 3 (0, 0)) := by
        intro s hs
        refine (Below.heap_setCell w1 ⟨g, 5 + i, none⟩ _ (n1 + s) (by show n1 + s ≠ g; omega)).trans ?_
        by_cases q : s < i
        · exact (HB1.out.1.block (n1 + s) (by rw [hsz]; omega)).trans (HR.out s q)
        · have e : n1 + s = wr.drew.heap.size := by rw [hsz]; omega
          rw [e, HW1.out]
          exact blk_new _ _
      have hF2 := ((HF.out.trans (FG.of_below (below_drew1 (Below.refl wr.heap.size wr)))).trans (FG.of_below HB1.out.1)).trans (FG.set g (5 + i) w1 (.slice (some ⟨b, 0, none⟩) N N))
      rw [show (sl b N) = sl (n1 + i) N by rw [hbe]] at hC2
      have h2 := Aside0.mk (And.intro hz2 (And.intro (show (w1.setCell ⟨g, 5 + i, none⟩ (.slice (some ⟨b, 0, none⟩) N N)).heap[g]? = some (.cells (C.setIfInBounds (5 + i) (sl (n1 + i) N)) 52 (0, 0)) by rw [← hC2, hbe]; rfl) (And.intro hcc2 (And.intro hR2 hF2))))
      clear hsz hbe hz2 hC2 hcc2 hgn hR2 hF2 HB1 HW1 HEM HBE HR HF HC HZ
      generalize (w1.setCell ⟨g, 5 + i, none⟩ (.slice (some ⟨b, 0, none⟩) N N)) = w2 at h2 ⊢
      go_wp2
      go_roundw
      case rel => exact ⟨i + 1, _, by simp, by omega, ⟨h2.out.1⟩, ⟨⟨h2.out.2.1, h2.out.2.2.1⟩⟩, ⟨h2.out.2.2.2.1⟩, ⟨h2.out.2.2.2.2⟩⟩
      case measure => simp [intOf]; omega
    · obtain rfl : i = 64 := by omega
      have hlb : decide (((64 : Nat) : Int) < 64) = false := by decide
      have hem := empty_calls (w := wr) (g := g) (N := N) ((blk_cell HC.out.1 4).trans HC.out.2.top) HN.out.2
      rw [HZ.out] at hem
      have HEM := Aside0.mk hem
      clear hem
      go_wp2_with (first
        | (go_at_call 38; refine Aside0.out ?_)
        | fail)
      refine Aside0.mk ?_
      refine HEM.out.mono ?_
      rintro e w1 ⟨rfl, hw1⟩
      have hb1 := below_alloc (Below.refl wr.heap.size wr) (.cells (ints (List.replicate N 0)) 3)
      rw [← hw1] at hb1
      have hbg := (hb1.block g (Nat.lt_of_lt_of_le hgl HF.out.size)).trans HC.out.1
      have hcg : ∃ u, w1.cell? ⟨g, 69, none⟩ = some u := ⟨C[69]'(by rw [HC.out.2.size]; omega), (blk_cell hbg 69).trans (Array.getElem?_eq_getElem _)⟩
      obtain ⟨u, hcg⟩ := hcg
      have hfz := blk_frozen hbg 69
      have HW1 := Aside0.mk hw1
      have HB1 := Aside0.mk (And.intro hb1 hbg)
      clear hw1 hb1 hbg HEM
      go_wp2_with (first
        | (go_at_call 39; refine Aside0.out ?_)
        | fail)
      refine Aside0.mk ?_
      have hgn : g < n1 := by rw [HN1.out]; exact hgl
      have hSP : SP (w1.setCell ⟨g, 69, none⟩ (.slice (some ⟨n1 + 64, 0, none⟩) N N)) g W N (fun s => n1 + s) (n1 + 64) (fun _ => zeros N) (zeros N) := by
        have hcf := HC.out.2.found (Nat.le_refl _) (n1 + 64)
        refine ⟨⟨_, blk_put HB1.out.2 69 _ rfl, hcf.1, hcf.2⟩, fun s hs => ⟨?_, List.length_replicate⟩, ⟨?_, List.length_replicate⟩, fun s u _ _ e => by have e : n1 + s = n1 + u := e; omega, fun s hs => by show n1 + s ≠ n1 + 64; omega⟩
        · exact (Below.heap_setCell w1 ⟨g, 69, none⟩ _ (n1 + s) (by show n1 + s ≠ g; omega)).trans ((HB1.out.1.block (n1 + s) (by rw [HZ.out]; omega)).trans (HR.out s hs))
        · refine (Below.heap_setCell w1 ⟨g, 69, none⟩ _ (n1 + 64) (by show n1 + 64 ≠ g; omega)).trans ?_
          rw [HW1.out, ← HZ.out]
          exact blk_new _ _
      have hF2 := (HF.out.trans (FG.of_below HB1.out.1)).trans (FG.set g 69 w1 (.slice (some ⟨n1 + 64, 0, none⟩) N N))
      have hT2 := HT.out.fg HG0.out hF2
      obtain ⟨w2, hw2⟩ : ∃ w2, w2 = w1.setCell ⟨g, 69, none⟩ (.slice (some ⟨n1 + 64, 0, none⟩) N N) := ⟨_, rfl⟩
      rw [← hw2] at hSP hF2 hT2 ⊢
      have HSP := Aside0.mk hSP
      have HF2 := Aside0.mk hF2
      have hfr := trellis_From.calls 0 _ _ _ _ _ _ _ _ _ _ _ _ _ _ _ w2 from_0 hT2
      obtain ⟨p0, hp0⟩ : ∃ p0, p0 = ob 0 0 0 := ⟨_, rfl⟩
      obtain ⟨p1, hp1⟩ : ∃ p1, p1 = ob 0 0 1 := ⟨_, rfl⟩
      obtain ⟨p2, hp2⟩ : ∃ p2, p2 = ob 0 0 2 := ⟨_, rfl⟩
      obtain ⟨p3, hp3⟩ : ∃ p3, p3 = ob 0 0 3 := ⟨_, rfl⟩
      obtain ⟨q0, hq0⟩ : ∃ q0, q0 = ob 0 1 0 := ⟨_, rfl⟩
      obtain ⟨q1, hq1⟩ : ∃ q1, q1 = ob 0 1 1 := ⟨_, rfl⟩
      obtain ⟨q2, hq2⟩ : ∃ q2, q2 = ob 0 1 2 := ⟨_, rfl⟩
      obtain ⟨q3, hq3⟩ : ∃ q3, q3 = ob 0 1 3 := ⟨_, rfl⟩
      rw [← hp0, ← hp1, ← hp2, ← hp3, ← hq0, ← hq1, ← hq2, ← hq3] at hfr
      have HQ := Aside0.mk (And.intro hq0 (And.intro hq1 (And.intro hq2 hq3)))
      refine hfr.mono ?_
      rintro e w3 ⟨rfl, hb3⟩
      have hba := below_alloc (Below.refl w3.heap.size w3) (.cells #[.int .i64 0, .int .i64 0, .int .u8 0, .int .u8 p0, .int .u8 p1, .int .u8 p2, .int .u8 p3, .int .i64 0, .int .i64 32, .int .u8 1, .int .u8 q0, .int .u8 q1, .int .u8 q2, .int .u8 q3] 78)
      have hb6 := blk_new w3 (.cells #[.int .i64 0, .int .i64 0, .int .u8 0, .int .u8 p0, .int .u8 p1, .int .u8 p2, .int .u8 p3, .int .i64 0, .int .i64 32, .int .u8 1, .int .u8 q0, .int .u8 q1, .int .u8 q2, .int .u8 q3] 78)
      have HB6 := Aside0.mk (And.intro hb6 (And.intro hba hb3))
      have hc4 : w3.cell? ⟨g, 4, none⟩ = some (.int .i64 ((N : Int) - 1)) := (HSP.out.below hb3).cell.2.1
      clear hgn hSP hF2 hT2 hw2 hfr hp0 hp1 hp2 hp3 hq0 hq1 hq2 hq3 hb3 hba hb6 hcg hfz HR HZ HC HW1 HB1 HF
      go_wp2_with (first
        | (go_at_call 38; refine Aside0.out ?_)
        | fail)
      refine Aside0.mk ?_
      clear hc4
      obtain ⟨w4, hw4⟩ : ∃ w4, w4 = w3.alloc (.cells #[.int .i64 0, .int .i64 0, .int .u8 0, .int .u8 p0, .int .u8 p1, .int .u8 p2, .int .u8 p3, .int .i64 0, .int .i64 32, .int .u8 1, .int .u8 q0, .int .u8 q1, .int .u8 q2, .int .u8 q3] 78) := ⟨_, rfl⟩
      obtain ⟨b6, hb6e⟩ : ∃ b6, b6 = w3.heap.size := ⟨_, rfl⟩
      rw [← hw4, ← hb6e] at HB6
      rw [← hw4, ← hb6e]
      have hb24 := below_step HB6.out.2.2 (by rw [hb6e] at HB6; exact HB6.out.2.1)
      have hSP4 := HSP.out.below hb24
      refine (empty_calls (w := w4) (g := g) (N := N) hSP4.cell.2.1 HN.out.2).mono ?_
      rintro e w5 ⟨rfl, hw5⟩
      have hO := blk_new w4 (.cells (ints (List.replicate N 0)) 3)
      have hb45 := below_alloc (Below.refl w4.heap.size w4) (.cells (ints (List.replicate N 0)) 3)
      obtain ⟨O, hOe⟩ : ∃ O, O = w4.heap.size := ⟨_, rfl⟩
      rw [← hw5] at hO hb45
      rw [← hOe] at hO ⊢
      have hcO : w5.cell? ⟨O, 0, none⟩ = some (.int .i64 ((List.replicate N (0 : Int)).getD 0 0)) := ints_cell hO 0 (by rw [List.length_replicate]; have := HN.out; omega)
      have hfO := blk_frozen hO 0
      have hN0 : (0 : Int) < (N : Int) := by have := HN.out; omega
      have HB5 := Aside0.mk (And.intro hO (And.intro hb45 (And.intro hOe (And.intro hb24 (And.intro hw5 hb6e)))))
      clear hw4 hb24 hSP4 hw5 hO hb45 hOe hb6e
      go_wp2_with fail
      have hb56 : Below w4.heap.size w5 (w5.setCell ⟨O, 0, none⟩ (.int .i64 1)) := ⟨rfl, rfl, rfl, by simp, fun k hk => Below.heap_setCell w5 ⟨O, 0, none⟩ _ k (by show k ≠ O; have := HB5.out.2.2.1; omega)⟩
      have hO6 : (w5.setCell ⟨O, 0, none⟩ (.int .i64 1)).heap[O]? = some (.cells (ints (one N)) 3 (0, 0)) := by
        unfold one zeros
        rw [← ints_set]
        exact blk_put HB5.out.1 0 _ rfl
      have hb46 : Below w4.heap.size w4 (w5.setCell ⟨O, 0, none⟩ (.int .i64 1)) := HB5.out.2.1.trans hb56
      obtain ⟨w6, hw6⟩ : ∃ w6, w6 = (w5.setCell ⟨O, 0, none⟩ (.int .i64 1)) := ⟨_, rfl⟩
      have hb46d : Below w4.heap.size w4 w6.drew := by rw [hw6]; exact below_drew1 hb46
      have hO6d : w6.drew.heap[O]? = some (.cells (ints (one N)) 3 (0, 0)) := by rw [hw6]; exact hO6
      have hb66 := (hb46d.block b6 (blk_lt HB6.out.1)).trans HB6.out.1
      have hSP6 := HSP.out.below (below_step HB5.out.2.2.2.1 hb46d)
      have hF6 := HF2.out.trans (FG.of_below (below_step HB5.out.2.2.2.1 hb46d))
      have HS := Aside0.mk (show w6.drew.cell? ⟨b6, 7, none⟩ = some (.int .i64 0) ∧ w6.drew.cell? ⟨b6, 8, none⟩ = some (.int .i64 32) ∧ w6.drew.cell? ⟨b6, 9, none⟩ = some (.int .u8 1) ∧ w6.drew.cell? ⟨b6, 10, none⟩ = some (.int .u8 q0) ∧ w6.drew.cell? ⟨b6, 11, none⟩ = some (.int .u8 q1) ∧ w6.drew.cell? ⟨b6, 12, none⟩ = some (.int .u8 q2) ∧ w6.drew.cell? ⟨b6, 13, none⟩ = some (.int .u8 q3) ∧ w6.drew.cell? ⟨g, 37, none⟩ = some (.slice (some ⟨n1 + 32, 0, none⟩) N N) from
        ⟨blk_cell hb66 7, blk_cell hb66 8, blk_cell hb66 9, blk_cell hb66 10, blk_cell hb66 11, blk_cell hb66 12, blk_cell hb66 13, hSP6.cell.2.2.1 32 (by decide)⟩)
      have hb6l : b6 < w6.drew.heap.size := blk_lt hb66
      have hgl6 : g < w6.drew.heap.size := hSP6.lt
      have hwe := weigh_calls hgl6 hSP6.cell.1 HWB.out 0 32 1 q0 q1 q2 q3 (by rw [HQ.out.1, HQ.out.2.1, HQ.out.2.2.1, HQ.out.2.2.2]; exact o4_ob 0 1) t ht
      have hewe : wsum W (o4 q0 q1 q2 q3) t 4 = ew W 0 1 t := by rw [HQ.out.1, HQ.out.2.1, HQ.out.2.2.1, HQ.out.2.2.2]; rfl
      obtain ⟨bw, hbw⟩ := Int.eq_ofNat_of_zero_le (ew_in HWB.out 0 1 t).1
      have hbw2 : bw ≤ 28 := by have := (ew_in HWB.out 0 1 t).2; omega
      obtain ⟨bI, hbI⟩ : ∃ bI : Int, (bw : Int) = bI := ⟨_, rfl⟩
      have HBI := Aside0.mk hbI
      rw [hewe, hbw, HTI.out, hbI] at hwe
      have HWE := Aside0.mk hwe
      have HSP6 := Aside0.mk (And.intro hSP6 (And.intro hF6 hO6d))
      have HBW := Aside0.mk (And.intro hbw hbw2)
      have HOn := Aside0.mk (show n1 + 32 ≠ O by have h32 := (HSP.out.row 32 (by decide)).1; have := blk_lt h32; have h2 := HB5.out.2.2.1; have h3 := HB5.out.2.2.2.1.size; have h4 : n1 + 32 < w2.heap.size := this; omega)
      clear hcO hfO hb56 hO6 hb46 hb46d hO6d hb66 hSP6 hF6 hwe hewe hbw hbw2 hbI
      rw [← hw6]
      clear hw6
      refine start_ (n := 16) (S := (fun w' => w'.cell? ⟨b6, 7, none⟩ = some (.int .i64 0) ∧ w'.cell? ⟨b6, 8, none⟩ = some (.int .i64 32) ∧ w'.cell? ⟨b6, 9, none⟩ = some (.int .u8 1) ∧ w'.cell? ⟨b6, 10, none⟩ = some (.int .u8 q0) ∧ w'.cell? ⟨b6, 11, none⟩ = some (.int .u8 q1) ∧ w'.cell? ⟨b6, 12, none⟩ = some (.int .u8 q2) ∧ w'.cell? ⟨b6, 13, none⟩ = some (.int .u8 q3) ∧ w'.cell? ⟨g, 37, none⟩ = some (.slice (some ⟨n1 + 32, 0, none⟩) N N))) (ds := [15]) #[false, false, false, false, false, false, false, false, false, false, false, false, false, false, false, false] (by kernel_rfl) rfl rfl HS.out (fun hHeld => ?_)
      refine with_tabW begin12.tab begin12.bits (fun HT_ HW_ => ?_)
      refine pure_ (i := 0) (N := some 36) (v := ?_) (a' := ?_) #[true, false, false, false, false, false, false, false, false, false, false, false, false, false, false, false] rfl rfl (any_of HT_.out (by kernel_rfl)) (fun _ _ _ h => h) (Or.inl ⟨by rfl, ?_⟩) ?_ ?_
      rotate_left
      · intro w'
        go_simp
        with_reducible rfl
      rotate_left
      · simp only [Act.put, List.setIfInBounds_toArray, List.set_cons_zero, List.set_cons_succ, i64_w, i32_w]
        rfl
      refine pure_ (i := 1) (N := some 37) (v := ?_) (a' := ?_) #[true, true, false, false, false, false, false, false, false, false, false, false, false, false, false, false] rfl rfl (any_of HT_.out (by kernel_rfl)) (fun _ _ _ h => h) (Or.inl ⟨by rfl, ?_⟩) ?_ ?_
      rotate_left
      · intro w'
        go_simp
        with_reducible rfl
      rotate_left
      · simp only [Act.put, List.setIfInBounds_toArray, List.set_cons_zero, List.set_cons_succ, i64_w, i32_w]
        rfl
      refine pure_ (i := 2) (N := some 38) (v := ?_) (a' := ?_) #[true, true, true, false, false, false, false, false, false, false, false, false, false, false, false, false] rfl rfl (any_of HT_.out (by kernel_rfl)) (fun _ _ _ h => h) (Or.inl ⟨by rfl, ?_⟩) ?_ ?_
      rotate_left
      · intro w'
        go_simp
        with_reducible rfl
      rotate_left
      · simp only [Act.put, List.setIfInBounds_toArray, List.set_cons_zero, List.set_cons_succ, i64_w, i32_w]
        rfl
      refine pure_ (i := 3) (N := some 39) (v := ?_) (a' := ?_) #[true, true, true, true, false, false, false, false, false, false, false, false, false, false, false, false] rfl rfl (any_of HT_.out (by kernel_rfl)) (fun _ _ _ h => h) (Or.inl ⟨by rfl, ?_⟩) ?_ ?_
      rotate_left
      · intro w'
        go_simp
        with_reducible rfl
      rotate_left
      · simp only [Act.put, List.setIfInBounds_toArray, List.set_cons_zero, List.set_cons_succ, i64_w, i32_w]
        rfl
      refine take_ (i := 4) (N := some 40) (v := ?_) (a' := ?_) #[true, true, true, true, true, false, false, false, false, false, false, false, false, false, false, false] rfl rfl (take_ofW HT_.out HW_.out (by kernel_rfl)) (fun _ _ _ h => h) (Or.inl ⟨by rfl, ?_⟩) hHeld ?_ ?_
      rotate_left
      · rintro w' ⟨s0, s1, s2, s3, s4, s5, s6, s7⟩
        go_simp
        with_reducible rfl
      rotate_left
      · simp only [Act.put, List.setIfInBounds_toArray, List.set_cons_zero, List.set_cons_succ, i64_w, i32_w]
        rfl
      refine pure_ (i := 5) (N := some 41) (v := ?_) (a' := ?_) #[true, true, true, true, true, true, false, false, false, false, false, false, false, false, false, false] rfl rfl (any_of HT_.out (by kernel_rfl)) (fun _ _ _ h => h) (Or.inl ⟨by rfl, ?_⟩) ?_ ?_
      rotate_left
      · intro w'
        go_simp
        with_reducible rfl
      rotate_left
      · simp only [Act.put, List.setIfInBounds_toArray, List.set_cons_zero, List.set_cons_succ, i64_w, i32_w]
        rfl
      refine pure_ (i := 6) (N := some 42) (v := ?_) (a' := ?_) #[true, true, true, true, true, true, true, false, false, false, false, false, false, false, false, false] rfl rfl (any_of HT_.out (by kernel_rfl)) (fun _ _ _ h => h) (Or.inl ⟨by rfl, ?_⟩) ?_ ?_
      rotate_left
      · intro w'
        go_simp
        with_reducible rfl
      rotate_left
      · simp only [Act.put, List.setIfInBounds_toArray, List.set_cons_zero, List.set_cons_succ, i64_w, i32_w]
        rfl
      refine pure_ (i := 7) (N := some 43) (v := ?_) (a' := ?_) #[true, true, true, true, true, true, true, true, false, false, false, false, false, false, false, false] rfl rfl (any_of HT_.out (by kernel_rfl)) (fun _ _ _ h => h) (Or.inl ⟨by rfl, ?_⟩) ?_ ?_
      rotate_left
      · intro w'
        go_simp
        with_reducible rfl
      rotate_left
      · simp only [Act.put, List.setIfInBounds_toArray, List.set_cons_zero, List.set_cons_succ, i64_w, i32_w]
        rfl
      refine take_ (i := 8) (N := some 44) (v := ?_) (a' := ?_) #[true, true, true, true, true, true, true, true, true, false, false, false, false, false, false, false] rfl rfl (take_ofW HT_.out HW_.out (by kernel_rfl)) (fun _ _ _ h => h) (Or.inl ⟨by rfl, ?_⟩) hHeld ?_ ?_
      rotate_left
      · rintro w' ⟨s0, s1, s2, s3, s4, s5, s6, s7⟩
        go_simp
        with_reducible rfl
      rotate_left
      · simp only [Act.put, List.setIfInBounds_toArray, List.set_cons_zero, List.set_cons_succ, i64_w, i32_w]
        rfl
      refine pure_ (i := 9) (N := some 45) (v := ?_) (a' := ?_) #[true, true, true, true, true, true, true, true, true, true, false, false, false, false, false, false] rfl rfl (any_of HT_.out (by kernel_rfl)) (fun _ _ _ h => h) (Or.inl ⟨by rfl, ?_⟩) ?_ ?_
      rotate_left
      · intro w'
        go_simp
        with_reducible rfl
      rotate_left
      · simp only [Act.put, List.setIfInBounds_toArray, List.set_cons_zero, List.set_cons_succ, i64_w, i32_w]
        rfl
      refine pure_ (i := 10) (N := some 46) (v := ?_) (a' := ?_) #[true, true, true, true, true, true, true, true, true, true, true, false, false, false, false, false] rfl rfl (any_of HT_.out (by kernel_rfl)) (fun _ _ _ h => h) (Or.inl ⟨by rfl, ?_⟩) ?_ ?_
      rotate_left
      · intro w'
        go_simp
        with_reducible rfl
      rotate_left
      · simp only [Act.put, List.setIfInBounds_toArray, List.set_cons_zero, List.set_cons_succ, i64_w, i32_w]
        rfl
      refine pure_ (i := 11) (N := some 47) (v := ?_) (a' := ?_) #[true, true, true, true, true, true, true, true, true, true, true, true, false, false, false, false] rfl rfl (any_of HT_.out (by kernel_rfl)) (fun _ _ _ h => h) (Or.inl ⟨by rfl, ?_⟩) ?_ ?_
      rotate_left
      · intro w'
        go_simp
        with_reducible rfl
      rotate_left
      · simp only [Act.put, List.setIfInBounds_toArray, List.set_cons_zero, List.set_cons_succ, i64_w, i32_w]
        rfl
      refine take_ (i := 12) (N := some 48) (v := ?_) (a' := ?_) #[true, true, true, true, true, true, true, true, true, true, true, true, true, false, false, false] rfl rfl (take_ofW HT_.out HW_.out (by kernel_rfl)) (fun _ _ _ h => h) (Or.inl ⟨by rfl, ?_⟩) hHeld ?_ ?_
      rotate_left
      · rintro w' ⟨s0, s1, s2, s3, s4, s5, s6, s7⟩
        go_simp
        with_reducible rfl
      rotate_left
      · simp only [Act.put, List.setIfInBounds_toArray, List.set_cons_zero, List.set_cons_succ, i64_w, i32_w]
        rfl
      refine pure_ (i := 13) (N := some 49) (v := ?_) (a' := ?_) #[true, true, true, true, true, true, true, true, true, true, true, true, true, true, false, false] rfl rfl (any_of HT_.out (by kernel_rfl)) (fun _ _ _ h => h) (Or.inl ⟨by rfl, ?_⟩) ?_ ?_
      rotate_left
      · intro w'
        go_simp
        with_reducible rfl
      rotate_left
      · simp only [Act.put, List.setIfInBounds_toArray, List.set_cons_zero, List.set_cons_succ, i64_w, i32_w]
        rfl
      refine one_ (i := 14) (N := some 50) #[true, true, true, true, true, true, true, true, true, true, true, true, true, true, true, false] rfl rfl (one_of HT_.out (by kernel_rfl)) (by decide) (fun K hK => ?_)
      refine goes_ Tryd.func41 (by kernel_rfl) rfl #[.pointer (some ⟨g, 0, none⟩), .agg #[.int .i64 0, .int .i64 32, .int .u8 1, .int .u8 q0, .int .u8 q1, .int .u8 q2, .int .u8 q3], .int .i64 tI] (by rfl) rfl rfl (by (try simp only [List.map_toArray, List.map_cons, List.map_nil]); first | done | rfl | (go_simp; done) | simp [Act.eval]) ?_
      refine HWE.out.mono ?_
      rintro e w7 ⟨rfl, hb7⟩
      have HB7 := Aside0.mk hb7
      have k6 := fun q => hb7.cell (p := ⟨b6, q, none⟩) hb6l
      have kg := fun q => hb7.cell (p := ⟨g, q, none⟩) hgl6
      have HS7 := Aside0.mk (And.intro ((k6 7).trans HS.out.1) (And.intro ((k6 8).trans HS.out.2.1) (And.intro ((k6 9).trans HS.out.2.2.1) (And.intro ((k6 10).trans HS.out.2.2.2.1) (And.intro ((k6 11).trans HS.out.2.2.2.2.1) (And.intro ((k6 12).trans HS.out.2.2.2.2.2.1) (And.intro ((k6 13).trans HS.out.2.2.2.2.2.2.1) ((kg 37).trans HS.out.2.2.2.2.2.2.2))))))))
      have hSP7 := HSP6.out.1.below hb7
      have had := add_calls hSP7.cell.2.1 (hSP7.neg 32 (by decide)) (hSP7.row 32 (by decide)).1 ((hb7.block O (blk_lt HSP6.out.2.2)).trans HSP6.out.2.2) HOn.out (hSP7.row 32 (by decide)).2 (by unfold one zeros; rw [List.length_set, List.length_replicate]) HN.out.2 bw (by have := HBW.out.2; omega)
      rw [HBI.out] at had
      have HAD := Aside0.mk had
      clear hb7 k6 kg hSP7 had
      refine ⟨_, rfl, ?_⟩
      refine hK.out _ _ HS7.out (fun hHeld => ?_)
      clear hK K
      refine norm_ (a' := ?_) ?_ ?_
      rotate_left
      · show Act.put _ (some 50) _ = _
        simp only [Act.put, List.setIfInBounds_toArray, List.set_cons_zero, List.set_cons_succ, i64_w, i32_w]
        rfl
      refine last_ (i := 15) (N := some 51) #[true, true, true, true, true, true, true, true, true, true, true, true, true, true, true, true] rfl rfl (one_of HT_.out (by kernel_rfl)) (by decide) (fun K hK => ?_)
      refine goes_ Tryd.func40 (by kernel_rfl) rfl #[.pointer (some ⟨g, 0, none⟩), .slice (some ⟨n1 + 32, 0, none⟩) N N, .slice (some ⟨O, 0, none⟩) N N, .int .i64 bI] (by rfl) rfl rfl (by (try simp only [List.map_toArray, List.map_cons, List.map_nil]); first | done | rfl | (go_simp; done) | simp [Act.eval]) ?_
      refine HAD.out.mono ?_
      rintro e w8 ⟨rfl, hx8, hp8⟩
      have HX8 := Aside0.mk (And.intro hx8 hp8)
      clear hx8 hp8
      refine ⟨_, rfl, ?_⟩
      refine hK.out _ _ ?_
      clear hK K
      refine norm_ (a' := ?_) ?_ ?_
      rotate_left
      · show Act.put _ (some 51) _ = _
        simp only [Act.put, List.setIfInBounds_toArray, List.set_cons_zero, List.set_cons_succ, i64_w, i32_w]
        rfl
      refine done_ (done_of HT_.out (by kernel_rfl)) ?_
      go_wp2
      go_ret
      have hSP7 := HSP6.out.1.below HB7.out
      have hSP8 := hSP7.put 32 (by decide) HX8.out.2 HX8.out.1 (by rw [addI_length]; exact (hSP7.row 32 (by decide)).2)
      have er : (fun u => if u = 32 then addI (zeros N) (one N) bw N else (fun _ => zeros N) u) = beginRows W N t := by
        funext u
        unfold beginRows
        rw [HBW.out.1]; rfl
      refine ⟨by simp, _, _, er ▸ hSP8, ?_, by have := HN1.out; omega⟩
      have hF7 := HSP6.out.2.1.trans (FG.of_below HB7.out)
      exact ⟨HX8.out.2.os.trans hF7.os, HX8.out.2.tape.trans hF7.tape, HX8.out.2.output.trans hF7.output, Nat.le_trans hF7.size (Nat.le_of_eq HX8.out.2.size.symm), fun k hk hkg => (HX8.out.2.block k (by show k ≠ n1 + 32; have := HN1.out; omega)).trans (hF7.block k hk hkg)⟩
end Go.Proofs.YtijpnlmejphfhaaDoor.P
