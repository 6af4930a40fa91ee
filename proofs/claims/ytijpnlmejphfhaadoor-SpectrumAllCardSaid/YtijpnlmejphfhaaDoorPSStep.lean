/- spectrum's counter: step by hand. No condition but bounds. -/
import Derived.Test.YtijpnlmejphfhaaDoorPSIdx
import Derived.Test.YtijpnlmejphfhaaDoorP15
namespace Go.Proofs.YtijpnlmejphfhaaDoor.P
open Go Go.Proofs Go.RowKit Go.Proofs.YtijpnlmejphfhaaDoorW.PrintWords Go.Proofs.YtijpnlmejphfhaaDoorW.PrintLast Go.Proofs.YtijpnlmejphfhaaDoorW.PrintMore
set_option linter.unusedVariables false
set_option linter.unusedSimpArgs false

variable {C : Array Value} {W : Nat → Int} {N : Nat} {A : Nat → Nat} {k : Nat}
/-- Where an edge leads. -/
def dst (s i : Nat) : Nat := 32 * i + s / 2
/-- What comes to a state, behind the first m edges (state m / 2, bit m mod 2). -/
def acc (W : Nat → Int) (N t : Nat) (rows : Nat → List Int) : Nat → Nat → List Int
  | 0, _ => zeros N
  | m + 1, u => if u = dst (m / 2) (m % 2) then addI (acc W N t rows m u) (rows (m / 2)) (ew W (m / 2) (m % 2) t).toNat N else acc W N t rows m u
theorem acc_succ (W : Nat → Int) (N t : Nat) (rows : Nat → List Int) (m u : Nat) : acc W N t rows (m + 1) u = if u = dst (m / 2) (m % 2) then addI (acc W N t rows m u) (rows (m / 2)) (ew W (m / 2) (m % 2) t).toNat N else acc W N t rows m u := rfl
theorem acc_length (W : Nat → Int) (N t : Nat) (rows : Nat → List Int) (u : Nat) : ∀ m, (acc W N t rows m u).length = N
  | 0 => List.length_replicate
  | m + 1 => by
    unfold acc
    split
    · rw [addI_length, acc_length W N t rows u m]
    · exact acc_length W N t rows u m
def stepRows (W : Nat → Int) (N t : Nat) (rows : Nat → List Int) (u : Nat) : List Int := if u = 0 then zeros N else acc W N t rows 128 u
def stepFound (W : Nat → Int) (N t : Nat) (rows : Nat → List Int) (fnd : List Int) : List Int := addI fnd (acc W N t rows 128 0) 0 N
/-- The next rows: an array of them in block X, of state s in block A s. -/
structure NX (w : World) (X N : Nat) (A : Nat → Nat) (k : Nat) (rows : Nat → List Int) : Prop where
  blk : ∃ C, w.heap[X]? = some (.cells C 50 (0, 0)) ∧ C.size = 64 ∧ ∀ s, s < k → C[s]? = some (sl (A s) N)
  row : ∀ s, s < k → w.heap[A s]? = some (.cells (ints (rows s)) 3 (0, 0)) ∧ (rows s).length = N
theorem NX.below {w w' : World} {X : Nat} {rows : Nat → List Int} (h : NX w X N A k rows) (hb : Below w.heap.size w w') : NX w' X N A k rows := by
  obtain ⟨C, hC, h2⟩ := h.blk
  exact ⟨⟨C, (hb.block X (blk_lt hC)).trans hC, h2⟩, fun s hs => ⟨(hb.block _ (blk_lt (h.row s hs).1)).trans (h.row s hs).1, (h.row s hs).2⟩⟩
theorem setCells_blk {b t : Nat} : ∀ (vs : List Value) (o : Nat) (w : World) (C : Array Value), w.heap[b]? = some (.cells C t (0, 0)) →
    ∃ C' : Array Value, (w.setCells b o vs).heap[b]? = some (.cells C' t (0, 0)) ∧ C'.size = C.size ∧ (∀ j, (j < o ∨ o + vs.length ≤ j) → C'[j]? = C[j]?) ∧ (∀ j v, vs[j]? = some v → o + j < C.size → C'[o + j]? = some v)
  | [], o, w, C, h => ⟨C, h, rfl, fun _ _ => rfl, fun j v hv => by simp at hv⟩
  | x :: r, o, w, C, h => by
    obtain ⟨C', h1, h2, h3, h4⟩ := setCells_blk r (o + 1) (w.setCell ⟨b, o, none⟩ x) (C.setIfInBounds o x) (blk_put h o x rfl)
    refine ⟨C', h1, by rw [h2]; simp, fun j hj => ?_, fun j v hv hb => ?_⟩
    · rw [h3 j (by simp only [List.length_cons] at hj; omega), Array.getElem?_setIfInBounds, if_neg (by simp only [List.length_cons] at hj; omega)]
    · cases j with
      | zero =>
        injection hv with hv
        subst hv
        rw [Nat.add_zero, h3 o (by omega), Array.getElem?_setIfInBounds, if_pos rfl, if_pos (by omega)]
      | succ j =>
        have e : o + (j + 1) = o + 1 + j := by omega
        rw [e]
        exact h4 j v hv (by simp; omega)
theorem Put1.cells_ (b : Nat) : ∀ (vs : List Value) (o : Nat) (w : World), Put1 b w (w.setCells b o vs)
  | [], _, w => Put1.refl b w
  | x :: r, o, w => (Put1.set b o w x).trans (Put1.cells_ b r (o + 1) _)
theorem SP.putF {w w' : World} {g F : Nat} {rows : Nat → List Int} {fnd x : List Int} (h : SP w g W N A F rows fnd) (hp : Put1 F w w') (hx : w'.heap[F]? = some (.cells (ints x) 3 (0, 0))) (hl : x.length = N) : SP w' g W N A F rows x := by
  obtain ⟨C, hC, hcc, hF⟩ := h.blk
  exact ⟨⟨C, (hp.block g h.negF).trans hC, hcc, hF⟩, fun u hu => ⟨(hp.block (A u) (h.ne u hu)).trans (h.row u hu).1, (h.row u hu).2⟩, ⟨hx, hl⟩, h.inj, h.ne⟩
theorem NX.apart {w w' : World} {X F : Nat} {rows : Nat → List Int} (h : NX w X N (fun s => X + 1 + s) k rows) (hF : F < X) (hp : Put1 F w w') : NX w' X N (fun s => X + 1 + s) k rows := by
  obtain ⟨C, hC, h2⟩ := h.blk
  exact ⟨⟨C, (hp.block X (by omega)).trans hC, h2⟩, fun s hs => ⟨(hp.block (X + 1 + s) (by omega)).trans (h.row s hs).1, (h.row s hs).2⟩⟩
theorem NX.put {w w' : World} {X : Nat} {rows : Nat → List Int} {x : List Int} (h : NX w X N (fun s => X + 1 + s) 64 rows) (s : Nat) (hs : s < 64) (hp : Put1 (X + 1 + s) w w') (hx : w'.heap[X + 1 + s]? = some (.cells (ints x) 3 (0, 0))) (hl : x.length = N) :
    NX w' X N (fun s => X + 1 + s) 64 (fun u => if u = s then x else rows u) := by
  obtain ⟨C, hC, h2⟩ := h.blk
  refine ⟨⟨C, (hp.block X (by omega)).trans hC, h2⟩, fun u hu => ?_⟩
  by_cases e : u = s
  · subst e
    rw [if_pos rfl]
    exact ⟨hx, hl⟩
  · rw [if_neg e]
    exact ⟨(hp.block (X + 1 + u) (by omega)).trans (h.row u hu).1, (h.row u hu).2⟩
theorem NX.cell {w : World} {X : Nat} {rows : Nat → List Int} (h : NX w X N A k rows) (s : Nat) (hs : s < k) : w.cell? ⟨X, s, none⟩ = some (sl (A s) N) := by
  obtain ⟨C, hC, _, hCw⟩ := h.blk
  exact (blk_cell hC s).trans (hCw s hs)
def step160.T : Bool × List (List Nat × List Nat) := (true, [([], []), ([], []), ([1], [1]), ([2], [2]), ([3], [3]), ([], []), ([], []), ([], []), ([], []), ([6, 7, 8], [6, 7, 8]), ([0, 4, 5, 9, 9], [0, 4, 5, 9])])
def step160.B : List Nat := [0, 0, 2, 6, 14, 0, 0, 0, 0, 448, 1023]
theorem step160.tab : rtab .any (opsOf Tryd.f28 16) = step160.T := by kernel_rfl
theorem step160.bits : waitsOk step160.T.2 step160.B = true := by kernel_rfl
def step161.T : Bool × List (List Nat × List Nat) := (true, [([], []), ([], []), ([1], [1]), ([2], [2]), ([3], [3]), ([], []), ([], []), ([], []), ([], []), ([6, 7, 8], [6, 7, 8]), ([0, 4, 5, 9, 9], [0, 4, 5, 9])])
def step161.B : List Nat := [0, 0, 2, 6, 14, 0, 0, 0, 0, 448, 1023]
theorem step161.tab : rtab .any (opsOf Tryd.f28 16) = step161.T := by kernel_rfl
theorem step161.bits : waitsOk step161.T.2 step161.B = true := by kernel_rfl
def step19.T : Bool × List (List Nat × List Nat) := (true, [([], []), ([], []), ([1], [1]), ([2], [2]), ([3], [3]), ([], []), ([5], [5]), ([0, 4, 6], [0, 4, 6])])
def step19.B : List Nat := [0, 0, 2, 6, 14, 0, 32, 127]
theorem step19.tab : rtab .any (opsOf Tryd.f28 19) = step19.T := by kernel_rfl
theorem step19.bits : waitsOk step19.T.2 step19.B = true := by kernel_rfl
set_option maxRecDepth 100000 in
set_option maxHeartbeats 16000000 in
theorem step_calls {w : World} {g F : Nat} {rows : Nat → List Int} {fnd : List Int} (hT : TP w) (hg0 : g ≠ 0) (h : SP w g W N A F rows fnd) (hN : 1 ≤ N ∧ N ≤ 1000) (hWb : ∀ v, v < 4 → 0 ≤ W v ∧ W v ≤ 7) (t : Nat) (ht : t ≤ 100000) :
    Calls Tryd.prog 28 #[.pointer (some ⟨g, 0, none⟩), .int .i64 (t : Int)] w fun e w' => e = .returned (.int .i64 0) ∧ ∃ A2, SP w' g W N A2 F (stepRows W N t rows) (stepFound W N t rows fnd) ∧ ∀ n₀, n₀ ≤ g → n₀ ≤ F → n₀ ≤ w.heap.size → Below n₀ w w' := by
  have HT := Aside0.mk hT
  have HG0 := Aside0.mk hg0
  have HWB := Aside0.mk hWb
  have HN := Aside0.mk hN
  have HSP := Aside0.mk h
  have hgl : g < w.heap.size := h.lt
  obtain ⟨tI, htI⟩ : ∃ tI : Int, (t : Int) = tI := ⟨_, rfl⟩
  rw [htI]
  have HTI := Aside0.mk htI
  clear hT hg0 hWb hN h htI
  go_enter Tryd.func28, Tryd.ntmps28
  go_wp2_with fail
  have hbx := blk_new w (.cells #[.slice none 0 0, .slice none 0 0, .slice none 0 0, .slice none 0 0, .slice none 0 0, .slice none 0 0, .slice none 0 0, .slice none 0 0, .slice none 0 0, .slice none 0 0, .slice none 0 0, .slice none 0 0, .slice none 0 0, .slice none 0 0, .slice none 0 0, .slice none 0 0, .slice none 0 0, .slice none 0 0, .slice none 0 0, .slice none 0 0, .slice none 0 0, .slice none 0 0, .slice none 0 0, .slice none 0 0, .slice none 0 0, .slice none 0 0, .slice none 0 0, .slice none 0 0, .slice none 0 0, .slice none 0 0, .slice none 0 0, .slice none 0 0, .slice none 0 0, .slice none 0 0, .slice none 0 0, .slice none 0 0, .slice none 0 0, .slice none 0 0, .slice none 0 0, .slice none 0 0, .slice none 0 0, .slice none 0 0, .slice none 0 0, .slice none 0 0, .slice none 0 0, .slice none 0 0, .slice none 0 0, .slice none 0 0, .slice none 0 0, .slice none 0 0, .slice none 0 0, .slice none 0 0, .slice none 0 0, .slice none 0 0, .slice none 0 0, .slice none 0 0, .slice none 0 0, .slice none 0 0, .slice none 0 0, .slice none 0 0, .slice none 0 0, .slice none 0 0, .slice none 0 0, .slice none 0 0] 50)
  have hba := below_alloc (Below.refl w.heap.size w) (.cells #[.slice none 0 0, .slice none 0 0, .slice none 0 0, .slice none 0 0, .slice none 0 0, .slice none 0 0, .slice none 0 0, .slice none 0 0, .slice none 0 0, .slice none 0 0, .slice none 0 0, .slice none 0 0, .slice none 0 0, .slice none 0 0, .slice none 0 0, .slice none 0 0, .slice none 0 0, .slice none 0 0, .slice none 0 0, .slice none 0 0, .slice none 0 0, .slice none 0 0, .slice none 0 0, .slice none 0 0, .slice none 0 0, .slice none 0 0, .slice none 0 0, .slice none 0 0, .slice none 0 0, .slice none 0 0, .slice none 0 0, .slice none 0 0, .slice none 0 0, .slice none 0 0, .slice none 0 0, .slice none 0 0, .slice none 0 0, .slice none 0 0, .slice none 0 0, .slice none 0 0, .slice none 0 0, .slice none 0 0, .slice none 0 0, .slice none 0 0, .slice none 0 0, .slice none 0 0, .slice none 0 0, .slice none 0 0, .slice none 0 0, .slice none 0 0, .slice none 0 0, .slice none 0 0, .slice none 0 0, .slice none 0 0, .slice none 0 0, .slice none 0 0, .slice none 0 0, .slice none 0 0, .slice none 0 0, .slice none 0 0, .slice none 0 0, .slice none 0 0, .slice none 0 0, .slice none 0 0] 50)
  obtain ⟨w1, hw1⟩ : ∃ w1, w1 = w.alloc (.cells #[.slice none 0 0, .slice none 0 0, .slice none 0 0, .slice none 0 0, .slice none 0 0, .slice none 0 0, .slice none 0 0, .slice none 0 0, .slice none 0 0, .slice none 0 0, .slice none 0 0, .slice none 0 0, .slice none 0 0, .slice none 0 0, .slice none 0 0, .slice none 0 0, .slice none 0 0, .slice none 0 0, .slice none 0 0, .slice none 0 0, .slice none 0 0, .slice none 0 0, .slice none 0 0, .slice none 0 0, .slice none 0 0, .slice none 0 0, .slice none 0 0, .slice none 0 0, .slice none 0 0, .slice none 0 0, .slice none 0 0, .slice none 0 0, .slice none 0 0, .slice none 0 0, .slice none 0 0, .slice none 0 0, .slice none 0 0, .slice none 0 0, .slice none 0 0, .slice none 0 0, .slice none 0 0, .slice none 0 0, .slice none 0 0, .slice none 0 0, .slice none 0 0, .slice none 0 0, .slice none 0 0, .slice none 0 0, .slice none 0 0, .slice none 0 0, .slice none 0 0, .slice none 0 0, .slice none 0 0, .slice none 0 0, .slice none 0 0, .slice none 0 0, .slice none 0 0, .slice none 0 0, .slice none 0 0, .slice none 0 0, .slice none 0 0, .slice none 0 0, .slice none 0 0, .slice none 0 0] 50) := ⟨_, rfl⟩
  obtain ⟨X, hX⟩ : ∃ X, X = w.heap.size := ⟨_, rfl⟩
  have hz1 : w1.heap.size = X + 1 + 0 := by rw [hw1, World.size_alloc, hX]
  rw [← hw1, ← hX] at hbx
  rw [← hw1] at hba
  rw [← hw1, ← hX]
  have HNX := Aside0.mk (show NX w1 X N (fun s => X + 1 + s) 0 (fun _ => zeros N) from ⟨⟨_, hbx, rfl, fun s hs => absurd hs (Nat.not_lt_zero _)⟩, fun s hs => absurd hs (Nat.not_lt_zero _)⟩)
  have HX := Aside0.mk hX
  have HBA := Aside0.mk hba
  have HZ1 := Aside0.mk hz1
  clear hbx hba hw1 hX hz1
  go_loopw [13] (fun v13 wr => ∃ (i : Nat), v13 = .int .i64 (i : Int) ∧ i ≤ 64 ∧ Aside0 (wr.heap.size = X + 1 + i) ∧ Aside0 (NX wr X N (fun s => X + 1 + s) i (fun _ => zeros N)) ∧ Aside0 (Below w.heap.size w wr)) (fun v13 _ => 64 - (intOf v13).toNat)
  case atStart => exact ⟨0, by simp, by omega, HZ1, HNX, HBA⟩
  case round =>
    clear HNX HBA HZ1
    obtain ⟨i, rfl, hi, HZ, HNX, HB⟩ := hrel
    have hem := empty_calls (w := wr) (g := g) (N := N) (HSP.out.below HB.out).cell.2.1 HN.out.2
    rw [HZ.out] at hem
    have HEM := Aside0.mk hem
    clear hem
    by_cases hlt : i < 64
    · have hlb : decide ((i : Int) < 64) = true := decide_eq_true (by omega)
      have hi64 : (i : Int) < 64 := by omega
      go_wp2_with (first
        | (go_at_call 38; refine HEM.out.mono ?_
           rintro e w2 ⟨rfl, hw2⟩
           have hb2 := below_alloc (Below.refl wr.heap.size wr) (.cells (ints (List.replicate N 0)) 3)
           have hn2 := blk_new wr (.cells (ints (List.replicate N 0)) 3)
           rw [← hw2] at hb2 hn2
           obtain ⟨C, hC, hCs, hCw⟩ := HNX.out.blk
           have hC2 := (hb2.block X (blk_lt hC)).trans hC
           have hcx : ∃ u, w2.cell? ⟨X, i, none⟩ = some u := ⟨C[i]'(by rw [hCs]; omega), (blk_cell hC2 i).trans (Array.getElem?_eq_getElem _)⟩
           obtain ⟨u, hcx⟩ := hcx
           have hfz := blk_frozen hC2 i
           have HW2 := Aside0.mk (And.intro hb2 (And.intro hn2 (And.intro hC2 (And.intro hCs (And.intro hCw hw2)))))
           clear hb2 hn2 hC hC2 hCs hCw hw2)
        | fail)
      have hbX : X = w.heap.size := HX.out
      have hz3 : (w2.setCell ⟨X, i, none⟩ (.slice (some ⟨X + 1 + i, 0, none⟩) N N)).heap.size = X + 1 + (i + 1) := by rw [HW2.out.2.2.2.2.2]; simp only [World.size_setCell, World.size_alloc, HZ.out]; omega
      have hn3 : NX (w2.setCell ⟨X, i, none⟩ (.slice (some ⟨X + 1 + i, 0, none⟩) N N)) X N (fun s => X + 1 + s) (i + 1) (fun _ => zeros N) := by
        refine ⟨⟨_, blk_put HW2.out.2.2.1 i _ rfl, by simp [HW2.out.2.2.2.1], fun s hs => ?_⟩, fun s hs => ⟨?_, List.length_replicate⟩⟩
        · rw [Array.getElem?_setIfInBounds]
          by_cases e : i = s
          · subst e
            rw [if_pos rfl, if_pos (by rw [HW2.out.2.2.2.1]; omega)]
            rfl
          · rw [if_neg e]; exact HW2.out.2.2.2.2.1 s (by omega)
        · refine (Below.heap_setCell w2 ⟨X, i, none⟩ _ (X + 1 + s) (by show X + 1 + s ≠ X; omega)).trans ?_
          by_cases e : s = i
          · subst e
            have hn2 := HW2.out.2.1
            rw [HZ.out] at hn2
            exact hn2
          · exact (HW2.out.1.block (X + 1 + s) (by rw [HZ.out]; omega)).trans (HNX.out.row s (by omega)).1
      have hb3 : Below w.heap.size w (w2.setCell ⟨X, i, none⟩ (.slice (some ⟨X + 1 + i, 0, none⟩) N N)) := (below_step HB.out HW2.out.1).trans ⟨rfl, rfl, rfl, by simp, fun k hk => Below.heap_setCell w2 ⟨X, i, none⟩ _ k (by show k ≠ X; omega)⟩
      have H3 := Aside0.mk (And.intro hz3 (And.intro hn3 hb3))
      clear hz3 hn3 hb3 HW2 HNX HB HZ HEM hcx hfz hbX
      generalize (w2.setCell ⟨X, i, none⟩ (.slice (some ⟨X + 1 + i, 0, none⟩) N N)) = w3 at H3 ⊢
      go_roundw
      case rel => exact ⟨i + 1, by simp, by omega, ⟨H3.out.1⟩, ⟨H3.out.2.1⟩, ⟨H3.out.2.2⟩⟩
      case measure => simp [intOf]; omega
    · obtain rfl : i = 64 := by omega
      have hlb : decide (((64 : Nat) : Int) < 64) = false := by decide
      go_wp2_with (first | ((with_reducible refine gate_ (.load 50 (.tmp 23)) rfl ?_); refine Aside0.out ?_) | fail)
      refine Aside0.mk ?_
      obtain ⟨cs, hcs⟩ : ∃ cs, cs = (List.range 64).map (fun s => sl (A s) N) := ⟨_, rfl⟩
      have hcl : cs.length = 64 := by rw [hcs]; simp
      have hcg : ∀ s, s < 64 → cs[s]? = some (sl (A s) N) := fun s hs => by rw [hcs, List.getElem?_map, List.getElem?_range hs]; rfl
      refine wpList_load_mid rfl 50 (.tmp 23) rfl g 5 (by first | rfl | (go_simp; done)) cs _ (fun j v hv => ?_) Tryd.underlying50 rfl (by rw [hcl]; kernel_rfl) ?_
      · have hj : j < 64 := by have := (List.getElem?_eq_some_iff.1 hv).1; omega
        rw [hcg j hj] at hv
        injection hv with hv
        subst hv
        exact (HSP.out.below HB.out).cell.2.2.1 j hj
      obtain ⟨WS, hWS⟩ : ∃ WS, WS = cs.toArray := ⟨_, rfl⟩
      rw [← hWS]
      have HWS := Aside0.mk (show WS.size = 64 ∧ ∀ s, s < 64 → WS[s]? = some (sl (A s) N) from ⟨by rw [hWS]; simpa using hcl, fun s hs => by rw [hWS]; simpa using hcg s hs⟩)
      clear hcs hcl hcg hWS HEM HZ
      go_wp2_with fail
      go_loopw [25] (fun v25 wr => ∃ (i : Nat), v25 = .int .i64 (i : Int) ∧ i ≤ 64 ∧ Aside0 (NX wr X N (fun s => X + 1 + s) 64 (acc W N t rows (2 * i))) ∧ Aside0 (Below w.heap.size w wr)) (fun v25 _ => 64 - (intOf v25).toNat)
      case atStart => exact ⟨0, by simp, by omega, HNX, HB⟩
      case round =>
        clear HNX HB
        obtain ⟨i, rfl, hi, HNX, HB⟩ := hrel
        by_cases hlt : i < 64
        · have hlb : decide ((i : Int) < 64) = true := decide_eq_true (by omega)
          have hi64 : (i : Int) < 64 := by omega
          have hix : ∀ w', (Instr.index 50 (.agg WS) (.int .i64 (i : Int))).run Tryd.prog w' = .ok (.slice (some ⟨A i, 0, none⟩) N N) w' := fun w' => idx50 hlt (HWS.out.2 i hlt) w'
          go_wp2_with (first | (go_at_call 39; refine Aside0.out ?_) | fail)
          refine Aside0.mk ?_
          have hfr := trellis_From.calls (i : Int) _ _ _ _ _ _ _ _ _ _ _ _ _ _ _ wr (from_f i hlt) (HT.out.fg HG0.out (FG.of_below HB.out))
          obtain ⟨p0, hp0⟩ : ∃ p0, p0 = ob i 0 0 := ⟨_, rfl⟩
          obtain ⟨p1, hp1⟩ : ∃ p1, p1 = ob i 0 1 := ⟨_, rfl⟩
          obtain ⟨p2, hp2⟩ : ∃ p2, p2 = ob i 0 2 := ⟨_, rfl⟩
          obtain ⟨p3, hp3⟩ : ∃ p3, p3 = ob i 0 3 := ⟨_, rfl⟩
          obtain ⟨q0, hq0⟩ : ∃ q0, q0 = ob i 1 0 := ⟨_, rfl⟩
          obtain ⟨q1, hq1⟩ : ∃ q1, q1 = ob i 1 1 := ⟨_, rfl⟩
          obtain ⟨q2, hq2⟩ : ∃ q2, q2 = ob i 1 2 := ⟨_, rfl⟩
          obtain ⟨q3, hq3⟩ : ∃ q3, q3 = ob i 1 3 := ⟨_, rfl⟩
          obtain ⟨dI, hdI⟩ : ∃ dI : Nat, dI = i / 2 := ⟨_, rfl⟩
          obtain ⟨dJ, hdJ⟩ : ∃ dJ : Nat, dJ = 32 + i / 2 := ⟨_, rfl⟩
          have hdI2 : (dI : Int) < 64 := by omega
          have hdJ2 : (dJ : Int) < 64 := by omega
          rw [← hp0, ← hp1, ← hp2, ← hp3, ← hq0, ← hq1, ← hq2, ← hq3, ← hdJ, ← hdI] at hfr
          have HP := Aside0.mk (And.intro hp0 (And.intro hp1 (And.intro hp2 hp3)))
          have HQ := Aside0.mk (And.intro hq0 (And.intro hq1 (And.intro hq2 hq3)))
          have HD := Aside0.mk (And.intro hdI hdJ)
          refine hfr.mono ?_
          rintro e w2 ⟨rfl, hb2⟩
          have HB2 := Aside0.mk hb2
          clear hfr hp0 hp1 hp2 hp3 hq0 hq1 hq2 hq3 hdI hdJ hix hb2
          go_wp2_with fail
          have hba := below_alloc (Below.refl w2.heap.size w2) (.cells #[.int .i64 (i : Int), .int .i64 (dI : Int), .int .u8 0, .int .u8 p0, .int .u8 p1, .int .u8 p2, .int .u8 p3, .int .i64 (i : Int), .int .i64 (dJ : Int), .int .u8 1, .int .u8 q0, .int .u8 q1, .int .u8 q2, .int .u8 q3] 78)
          obtain ⟨iI, hiI⟩ : ∃ iI : Int, (i : Int) = iI := ⟨_, rfl⟩
          have HII := Aside0.mk hiI
          obtain ⟨w3, hw3⟩ : ∃ w3, w3 = w2.alloc (.cells #[.int .i64 (i : Int), .int .i64 (dI : Int), .int .u8 0, .int .u8 p0, .int .u8 p1, .int .u8 p2, .int .u8 p3, .int .i64 (i : Int), .int .i64 (dJ : Int), .int .u8 1, .int .u8 q0, .int .u8 q1, .int .u8 q2, .int .u8 q3] 78) := ⟨_, rfl⟩
          rw [← hw3] at hba
          rw [← hw3]
          have HB3 := Aside0.mk (below_step HB.out (below_step HB2.out hba))
          have HN3 := Aside0.mk ((HNX.out.below HB2.out).below hba)
          clear hba hw3 hiI HNX HB HB2
          go_loopw [38] (fun v38 wr => ∃ (j : Nat), v38 = .int .i64 (j : Int) ∧ j ≤ 2 ∧ Aside0 (NX wr X N (fun s => X + 1 + s) 64 (acc W N t rows (2 * i + j))) ∧ Aside0 (Below w.heap.size w wr)) (fun v38 _ => 2 - (intOf v38).toNat)
          case atStart => exact ⟨0, by simp, by omega, HN3, HB3⟩
          case round =>
            clear HN3 HB3
            obtain ⟨j, rfl, hj, HNX, HB⟩ := hrel
            have hjc : j = 0 ∨ j = 1 ∨ j = 2 := by omega
            rcases hjc with rfl | rfl | rfl
            · skip
              have hix := fun w' => idx78_0 (.int .i64 (i : Int)) (.int .i64 (dI : Int)) (.int .u8 0) (.int .u8 p0) (.int .u8 p1) (.int .u8 p2) (.int .u8 p3) (.int .i64 (i : Int)) (.int .i64 (dJ : Int)) (.int .u8 1) (.int .u8 q0) (.int .u8 q1) (.int .u8 q2) (.int .u8 q3) w'
              go_wp2_with fail
              clear hix
              have hba := below_alloc (Below.refl wr.heap.size wr) (.cells #[.int .i64 (i : Int), .int .i64 (dI : Int), .int .u8 0, .int .u8 p0, .int .u8 p1, .int .u8 p2, .int .u8 p3] 77)
              have hbb := blk_new wr (.cells #[.int .i64 (i : Int), .int .i64 (dI : Int), .int .u8 0, .int .u8 p0, .int .u8 p1, .int .u8 p2, .int .u8 p3] 77)
              obtain ⟨w4, hw4⟩ : ∃ w4, w4 = wr.alloc (.cells #[.int .i64 (i : Int), .int .i64 (dI : Int), .int .u8 0, .int .u8 p0, .int .u8 p1, .int .u8 p2, .int .u8 p3] 77) := ⟨_, rfl⟩
              obtain ⟨b12, hb12⟩ : ∃ b12, b12 = wr.heap.size := ⟨_, rfl⟩
              rw [← hw4] at hba hbb
              rw [← hb12] at hbb
              rw [← hw4, ← hb12]
              have hbd := hba.trans (⟨rfl, rfl, rfl, Nat.le_refl _, fun _ _ => rfl⟩ : Below wr.heap.size w4 w4.drew)
              have hNX := HNX.out.below hbd
              have hSP := HSP.out.below (below_step HB.out hbd)
              have hbk : w4.drew.heap[b12]? = some (.cells #[.int .i64 (i : Int), .int .i64 (dI : Int), .int .u8 0, .int .u8 p0, .int .u8 p1, .int .u8 p2, .int .u8 p3] 77 (0, 0)) := hbb
              have hdl : dI < 64 := by omega
              obtain ⟨iI, hiI⟩ : ∃ iI : Int, (i : Int) = iI := ⟨_, rfl⟩
              have HS := Aside0.mk (show w4.drew.cell? ⟨b12, 0, none⟩ = some (.int .i64 iI) ∧ w4.drew.cell? ⟨b12, 1, none⟩ = some (.int .i64 (dI : Int)) ∧ w4.drew.cell? ⟨b12, 2, none⟩ = some (.int .u8 0) ∧ w4.drew.cell? ⟨b12, 3, none⟩ = some (.int .u8 p0) ∧ w4.drew.cell? ⟨b12, 4, none⟩ = some (.int .u8 p1) ∧ w4.drew.cell? ⟨b12, 5, none⟩ = some (.int .u8 p2) ∧ w4.drew.cell? ⟨b12, 6, none⟩ = some (.int .u8 p3) ∧ w4.drew.cell? ⟨X, dI, none⟩ = some (.slice (some ⟨X + 1 + dI, 0, none⟩) N N) from
                ⟨by rw [← hiI]; exact blk_cell hbk 0, blk_cell hbk 1, blk_cell hbk 2, blk_cell hbk 3, blk_cell hbk 4, blk_cell hbk 5, blk_cell hbk 6, hNX.cell dI hdl⟩)
              have hwe := weigh_calls hSP.lt hSP.cell.1 HWB.out iI (dI : Int) 0 p0 p1 p2 p3 (by rw [HP.out.1, HP.out.2.1, HP.out.2.2.1, HP.out.2.2.2]; exact o4_ob i 0) t ht
              have hewe : wsum W (o4 p0 p1 p2 p3) t 4 = ew W i 0 t := by rw [HP.out.1, HP.out.2.1, HP.out.2.2.1, HP.out.2.2.2]; rfl
              obtain ⟨bw, hbw⟩ := Int.eq_ofNat_of_zero_le (ew_in HWB.out i 0 t).1
              have hbw2 : bw ≤ 28 := by have := (ew_in HWB.out i 0 t).2; omega
              obtain ⟨bI, hbI⟩ : ∃ bI : Int, (bw : Int) = bI := ⟨_, rfl⟩
              rw [hewe, hbw, HTI.out, hbI] at hwe
              have HWE := Aside0.mk hwe
              have HST := Aside0.mk (And.intro hSP (And.intro hNX (And.intro hbk (And.intro hbw (And.intro hbw2 (And.intro hbI hbd))))))
              have HIK := Aside0.mk hiI
              have hgl4 : g < w4.drew.heap.size := hSP.lt
              have hbl4 : b12 < w4.drew.heap.size := blk_lt hbk
              have hXl4 : X < w4.drew.heap.size := by obtain ⟨C, hC, _⟩ := hNX.blk; exact blk_lt hC
              clear hba hbb hw4 hb12 hbd hNX hSP hbk hwe hewe hbw hbw2 hbI
              rw [hiI]
              clear hiI
              refine start_ (n := 11) (S := (fun w' => w'.cell? ⟨b12, 0, none⟩ = some (.int .i64 iI) ∧ w'.cell? ⟨b12, 1, none⟩ = some (.int .i64 (dI : Int)) ∧ w'.cell? ⟨b12, 2, none⟩ = some (.int .u8 0) ∧ w'.cell? ⟨b12, 3, none⟩ = some (.int .u8 p0) ∧ w'.cell? ⟨b12, 4, none⟩ = some (.int .u8 p1) ∧ w'.cell? ⟨b12, 5, none⟩ = some (.int .u8 p2) ∧ w'.cell? ⟨b12, 6, none⟩ = some (.int .u8 p3) ∧ w'.cell? ⟨X, dI, none⟩ = some (.slice (some ⟨X + 1 + dI, 0, none⟩) N N))) (ds := [10]) #[false, false, false, false, false, false, false, false, false, false, false] (by kernel_rfl) rfl rfl HS.out (fun hHeld => ?_)
              refine with_tabW step160.tab step160.bits (fun HT_ HW_ => ?_)
              refine pure_ (i := 0) (N := some 41) (v := ?_) (a' := ?_) #[true, false, false, false, false, false, false, false, false, false, false] rfl rfl (any_of HT_.out (by kernel_rfl)) (fun _ _ _ h => h) (Or.inl ⟨by rfl, ?_⟩) ?_ ?_
              rotate_left
              · intro w'
                go_simp
                with_reducible rfl
              rotate_left
              · simp only [Act.put, List.setIfInBounds_toArray, List.set_cons_zero, List.set_cons_succ, i64_w, i32_w]
                rfl
              refine pure_ (i := 1) (N := some 42) (v := ?_) (a' := ?_) #[true, true, false, false, false, false, false, false, false, false, false] rfl rfl (any_of HT_.out (by kernel_rfl)) (fun _ _ _ h => h) (Or.inl ⟨by rfl, ?_⟩) ?_ ?_
              rotate_left
              · intro w'
                go_simp
                with_reducible rfl
              rotate_left
              · simp only [Act.put, List.setIfInBounds_toArray, List.set_cons_zero, List.set_cons_succ, i64_w, i32_w]
                rfl
              refine take_ (i := 2) (N := some 43) (v := ?_) (a' := ?_) #[true, true, true, false, false, false, false, false, false, false, false] rfl rfl (take_ofW HT_.out HW_.out (by kernel_rfl)) (fun _ _ _ h => h) (Or.inl ⟨by rfl, ?_⟩) hHeld ?_ ?_
              rotate_left
              · rintro w' ⟨s0, s1, s2, s3, s4, s5, s6, s7⟩
                go_simp
                with_reducible rfl
              rotate_left
              · simp only [Act.put, List.setIfInBounds_toArray, List.set_cons_zero, List.set_cons_succ, i64_w, i32_w]
                rfl
              refine pure_ (i := 3) (N := some 44) (v := ?_) (a' := ?_) #[true, true, true, true, false, false, false, false, false, false, false] rfl rfl (any_of HT_.out (by kernel_rfl)) (fun _ _ _ h => h) (Or.inl ⟨by rfl, ?_⟩) ?_ ?_
              rotate_left
              · intro w'
                go_simp
                with_reducible rfl
              rotate_left
              · simp only [Act.put, List.setIfInBounds_toArray, List.set_cons_zero, List.set_cons_succ, i64_w, i32_w]
                rfl
              refine take_ (i := 4) (N := some 45) (v := ?_) (a' := ?_) #[true, true, true, true, true, false, false, false, false, false, false] rfl rfl (take_ofW HT_.out HW_.out (by kernel_rfl)) (fun _ _ _ h => h) (Or.inl ⟨by rfl, ?_⟩) hHeld ?_ ?_
              rotate_left
              · rintro w' ⟨s0, s1, s2, s3, s4, s5, s6, s7⟩
                go_simp
                with_reducible rfl
              rotate_left
              · simp only [Act.put, List.setIfInBounds_toArray, List.set_cons_zero, List.set_cons_succ, i64_w, i32_w]
                rfl
              refine pure_ (i := 5) (N := some 46) (v := ?_) (a' := ?_) #[true, true, true, true, true, true, false, false, false, false, false] rfl rfl (any_of HT_.out (by kernel_rfl)) (fun _ _ _ h => h) (Or.inl ⟨by rfl, ?_⟩) ?_ ?_
              rotate_left
              · intro w'
                go_simp
                with_reducible rfl
              rotate_left
              · simp only [Act.put, List.setIfInBounds_toArray, List.set_cons_zero, List.set_cons_succ, i64_w, i32_w]
                rfl
              refine pure_ (i := 6) (N := some 47) (v := ?_) (a' := ?_) #[true, true, true, true, true, true, true, false, false, false, false] rfl rfl (any_of HT_.out (by kernel_rfl)) (fun _ _ _ h => h) (Or.inl ⟨by rfl, ?_⟩) ?_ ?_
              rotate_left
              · intro w'
                go_simp
                with_reducible rfl
              rotate_left
              · simp only [Act.put, List.setIfInBounds_toArray, List.set_cons_zero, List.set_cons_succ, i64_w, i32_w]
                rfl
              refine take_ (i := 7) (N := some 48) (v := ?_) (a' := ?_) #[true, true, true, true, true, true, true, true, false, false, false] rfl rfl (take_ofW HT_.out HW_.out (by kernel_rfl)) (fun _ _ _ h => h) (Or.inl ⟨by rfl, ?_⟩) hHeld ?_ ?_
              rotate_left
              · rintro w' ⟨s0, s1, s2, s3, s4, s5, s6, s7⟩
                go_simp
                with_reducible rfl
              rotate_left
              · simp only [Act.put, List.setIfInBounds_toArray, List.set_cons_zero, List.set_cons_succ, i64_w, i32_w]
                rfl
              refine pure_ (i := 8) (N := some 49) (v := ?_) (a' := ?_) #[true, true, true, true, true, true, true, true, true, false, false] rfl rfl (any_of HT_.out (by kernel_rfl)) (fun _ _ _ h => h) (Or.inl ⟨by rfl, ?_⟩) ?_ ?_
              rotate_left
              · intro w'
                go_simp
                with_reducible rfl
              rotate_left
              · simp only [Act.put, List.setIfInBounds_toArray, List.set_cons_zero, List.set_cons_succ, i64_w, i32_w]
                rfl
              refine one_ (i := 9) (N := some 50) #[true, true, true, true, true, true, true, true, true, true, false] rfl rfl (one_of HT_.out (by kernel_rfl)) (by decide) (fun K hK => ?_)
              refine goes_ Tryd.func41 (by kernel_rfl) rfl #[.pointer (some ⟨g, 0, none⟩), .agg #[.int .i64 iI, .int .i64 ↑dI, .int .u8 0, .int .u8 p0, .int .u8 p1, .int .u8 p2, .int .u8 p3], .int .i64 tI] (by rfl) rfl rfl (by (try simp only [List.map_toArray, List.map_cons, List.map_nil]); first | done | rfl | (go_simp; done) | simp [Act.eval]) ?_
              refine HWE.out.mono ?_
              rintro e w7 ⟨rfl, hb7⟩
              have HB7 := Aside0.mk hb7
              have k6 := fun q => hb7.cell (p := ⟨b12, q, none⟩) hbl4
              have HS7 := Aside0.mk (And.intro ((k6 0).trans HS.out.1) (And.intro ((k6 1).trans HS.out.2.1) (And.intro ((k6 2).trans HS.out.2.2.1) (And.intro ((k6 3).trans HS.out.2.2.2.1) (And.intro ((k6 4).trans HS.out.2.2.2.2.1) (And.intro ((k6 5).trans HS.out.2.2.2.2.2.1) (And.intro ((k6 6).trans HS.out.2.2.2.2.2.2.1) ((hb7.cell (p := ⟨X, dI, none⟩) hXl4).trans HS.out.2.2.2.2.2.2.2))))))))
              have hSP7 := HST.out.1.below hb7
              have hNX7 := HST.out.2.1.below hb7
              have hAl : A i < w.heap.size := blk_lt (HSP.out.row i hlt).1
              have had := add_calls hSP7.cell.2.1 (by have := HX.out; omega) (hNX7.row dI hdl).1 (hSP7.row i hlt).1 (by show X + 1 + dI ≠ A i; have := HX.out; omega) (hNX7.row dI hdl).2 (hSP7.row i hlt).2 HN.out.2 bw (by have := HST.out.2.2.2.2.1; omega)
              rw [HST.out.2.2.2.2.2.1] at had
              have HAD := Aside0.mk had
              clear hb7 k6 hSP7 hNX7 had
              refine ⟨_, rfl, ?_⟩
              refine hK.out _ _ HS7.out (fun hHeld => ?_)
              clear hK K
              refine norm_ (a' := ?_) ?_ ?_
              rotate_left
              · show Act.put _ (some 50) _ = _
                simp only [Act.put, List.setIfInBounds_toArray, List.set_cons_zero, List.set_cons_succ, i64_w, i32_w]
                rfl
              refine last_ (i := 10) (N := some 51) #[true, true, true, true, true, true, true, true, true, true, true] rfl rfl (one_of HT_.out (by kernel_rfl)) (by decide) (fun K hK => ?_)
              refine goes_ Tryd.func40 (by kernel_rfl) rfl #[.pointer (some ⟨g, 0, none⟩), .slice (some ⟨X + 1 + dI, 0, none⟩) N N, .slice (some ⟨A i, 0, none⟩) N N, .int .i64 bI] (by rfl) rfl rfl (by (try simp only [List.map_toArray, List.map_cons, List.map_nil]); first | done | rfl | (go_simp; done) | simp [Act.eval]) ?_
              refine HAD.out.mono ?_
              rintro e w8 ⟨rfl, hx8, hp8⟩
              have HX8 := Aside0.mk (And.intro hx8 hp8)
              clear hx8 hp8
              refine ⟨_, rfl, ?_⟩
              refine hK.out _ _ ?_
              clear hK K
              refine norm_ (a' := ?_) ?_ ?_
              rotate_left
              · show Act.put _ (some 51) _ = _
                simp only [Act.put, List.setIfInBounds_toArray, List.set_cons_zero, List.set_cons_succ, i64_w, i32_w]
                rfl
              refine done_ (done_of HT_.out (by kernel_rfl)) ?_
              have hN8 := (HST.out.2.1.below HB7.out).put dI hdl HX8.out.2 HX8.out.1 (by rw [addI_length]; exact acc_length W N t rows dI (2 * i + 0))
              have hb8 : Below w.heap.size w w8 := (below_step (below_step HB.out HST.out.2.2.2.2.2.2) HB7.out).trans (HX8.out.2.below (by have := HX.out; omega))
              have er : (fun u => if u = dI then addI (acc W N t rows (2 * i + 0) dI) (rows i) bw N else acc W N t rows (2 * i + 0) u) = acc W N t rows (2 * i + (0 + 1)) := by
                funext u
                have e1 : (2 * i + 0) / 2 = i := by omega
                have e2 : (2 * i + 0) % 2 = 0 := by omega
                have e3 : dst i 0 = dI := by unfold dst; have := HD.out; omega
                have ea := acc_succ W N t rows (2 * i + 0) u
                rw [e1, e2, e3, HST.out.2.2.2.1, Int.toNat_natCast] at ea
                refine Eq.trans ?_ ea.symm
                by_cases q : u = dI
                · rw [if_pos q, if_pos q, q]
                · rw [if_neg q, if_neg q]
              rw [er] at hN8
              have HN8 := Aside0.mk hN8
              have HB8 := Aside0.mk hb8
              rw [← HIK.out]
              clear hN8 hb8 er HX8 HB7 HAD HWE HST HS HNX HB
              go_wp2_with fail
              go_roundw
              case rel => exact ⟨0 + 1, by simp, by omega, HN8, HB8⟩
              case measure => simp [intOf]
            · skip
              have hix := fun w' => idx78_1 (.int .i64 (i : Int)) (.int .i64 (dI : Int)) (.int .u8 0) (.int .u8 p0) (.int .u8 p1) (.int .u8 p2) (.int .u8 p3) (.int .i64 (i : Int)) (.int .i64 (dJ : Int)) (.int .u8 1) (.int .u8 q0) (.int .u8 q1) (.int .u8 q2) (.int .u8 q3) w'
              go_wp2_with fail
              clear hix
              have hba := below_alloc (Below.refl wr.heap.size wr) (.cells #[.int .i64 (i : Int), .int .i64 (dJ : Int), .int .u8 1, .int .u8 q0, .int .u8 q1, .int .u8 q2, .int .u8 q3] 77)
              have hbb := blk_new wr (.cells #[.int .i64 (i : Int), .int .i64 (dJ : Int), .int .u8 1, .int .u8 q0, .int .u8 q1, .int .u8 q2, .int .u8 q3] 77)
              obtain ⟨w4, hw4⟩ : ∃ w4, w4 = wr.alloc (.cells #[.int .i64 (i : Int), .int .i64 (dJ : Int), .int .u8 1, .int .u8 q0, .int .u8 q1, .int .u8 q2, .int .u8 q3] 77) := ⟨_, rfl⟩
              obtain ⟨b12, hb12⟩ : ∃ b12, b12 = wr.heap.size := ⟨_, rfl⟩
              rw [← hw4] at hba hbb
              rw [← hb12] at hbb
              rw [← hw4, ← hb12]
              have hbd := hba.trans (⟨rfl, rfl, rfl, Nat.le_refl _, fun _ _ => rfl⟩ : Below wr.heap.size w4 w4.drew)
              have hNX := HNX.out.below hbd
              have hSP := HSP.out.below (below_step HB.out hbd)
              have hbk : w4.drew.heap[b12]? = some (.cells #[.int .i64 (i : Int), .int .i64 (dJ : Int), .int .u8 1, .int .u8 q0, .int .u8 q1, .int .u8 q2, .int .u8 q3] 77 (0, 0)) := hbb
              have hdl : dJ < 64 := by omega
              obtain ⟨iI, hiI⟩ : ∃ iI : Int, (i : Int) = iI := ⟨_, rfl⟩
              have HS := Aside0.mk (show w4.drew.cell? ⟨b12, 0, none⟩ = some (.int .i64 iI) ∧ w4.drew.cell? ⟨b12, 1, none⟩ = some (.int .i64 (dJ : Int)) ∧ w4.drew.cell? ⟨b12, 2, none⟩ = some (.int .u8 1) ∧ w4.drew.cell? ⟨b12, 3, none⟩ = some (.int .u8 q0) ∧ w4.drew.cell? ⟨b12, 4, none⟩ = some (.int .u8 q1) ∧ w4.drew.cell? ⟨b12, 5, none⟩ = some (.int .u8 q2) ∧ w4.drew.cell? ⟨b12, 6, none⟩ = some (.int .u8 q3) ∧ w4.drew.cell? ⟨X, dJ, none⟩ = some (.slice (some ⟨X + 1 + dJ, 0, none⟩) N N) from
                ⟨by rw [← hiI]; exact blk_cell hbk 0, blk_cell hbk 1, blk_cell hbk 2, blk_cell hbk 3, blk_cell hbk 4, blk_cell hbk 5, blk_cell hbk 6, hNX.cell dJ hdl⟩)
              have hwe := weigh_calls hSP.lt hSP.cell.1 HWB.out iI (dJ : Int) 1 q0 q1 q2 q3 (by rw [HQ.out.1, HQ.out.2.1, HQ.out.2.2.1, HQ.out.2.2.2]; exact o4_ob i 1) t ht
              have hewe : wsum W (o4 q0 q1 q2 q3) t 4 = ew W i 1 t := by rw [HQ.out.1, HQ.out.2.1, HQ.out.2.2.1, HQ.out.2.2.2]; rfl
              obtain ⟨bw, hbw⟩ := Int.eq_ofNat_of_zero_le (ew_in HWB.out i 1 t).1
              have hbw2 : bw ≤ 28 := by have := (ew_in HWB.out i 1 t).2; omega
              obtain ⟨bI, hbI⟩ : ∃ bI : Int, (bw : Int) = bI := ⟨_, rfl⟩
              rw [hewe, hbw, HTI.out, hbI] at hwe
              have HWE := Aside0.mk hwe
              have HST := Aside0.mk (And.intro hSP (And.intro hNX (And.intro hbk (And.intro hbw (And.intro hbw2 (And.intro hbI hbd))))))
              have HIK := Aside0.mk hiI
              have hgl4 : g < w4.drew.heap.size := hSP.lt
              have hbl4 : b12 < w4.drew.heap.size := blk_lt hbk
              have hXl4 : X < w4.drew.heap.size := by obtain ⟨C, hC, _⟩ := hNX.blk; exact blk_lt hC
              clear hba hbb hw4 hb12 hbd hNX hSP hbk hwe hewe hbw hbw2 hbI
              rw [hiI]
              clear hiI
              refine start_ (n := 11) (S := (fun w' => w'.cell? ⟨b12, 0, none⟩ = some (.int .i64 iI) ∧ w'.cell? ⟨b12, 1, none⟩ = some (.int .i64 (dJ : Int)) ∧ w'.cell? ⟨b12, 2, none⟩ = some (.int .u8 1) ∧ w'.cell? ⟨b12, 3, none⟩ = some (.int .u8 q0) ∧ w'.cell? ⟨b12, 4, none⟩ = some (.int .u8 q1) ∧ w'.cell? ⟨b12, 5, none⟩ = some (.int .u8 q2) ∧ w'.cell? ⟨b12, 6, none⟩ = some (.int .u8 q3) ∧ w'.cell? ⟨X, dJ, none⟩ = some (.slice (some ⟨X + 1 + dJ, 0, none⟩) N N))) (ds := [10]) #[false, false, false, false, false, false, false, false, false, false, false] (by kernel_rfl) rfl rfl HS.out (fun hHeld => ?_)
              refine with_tabW step161.tab step161.bits (fun HT_ HW_ => ?_)
              refine pure_ (i := 0) (N := some 41) (v := ?_) (a' := ?_) #[true, false, false, false, false, false, false, false, false, false, false] rfl rfl (any_of HT_.out (by kernel_rfl)) (fun _ _ _ h => h) (Or.inl ⟨by rfl, ?_⟩) ?_ ?_
              rotate_left
              · intro w'
                go_simp
                with_reducible rfl
              rotate_left
              · simp only [Act.put, List.setIfInBounds_toArray, List.set_cons_zero, List.set_cons_succ, i64_w, i32_w]
                rfl
              refine pure_ (i := 1) (N := some 42) (v := ?_) (a' := ?_) #[true, true, false, false, false, false, false, false, false, false, false] rfl rfl (any_of HT_.out (by kernel_rfl)) (fun _ _ _ h => h) (Or.inl ⟨by rfl, ?_⟩) ?_ ?_
              rotate_left
              · intro w'
                go_simp
                with_reducible rfl
              rotate_left
              · simp only [Act.put, List.setIfInBounds_toArray, List.set_cons_zero, List.set_cons_succ, i64_w, i32_w]
                rfl
              refine take_ (i := 2) (N := some 43) (v := ?_) (a' := ?_) #[true, true, true, false, false, false, false, false, false, false, false] rfl rfl (take_ofW HT_.out HW_.out (by kernel_rfl)) (fun _ _ _ h => h) (Or.inl ⟨by rfl, ?_⟩) hHeld ?_ ?_
              rotate_left
              · rintro w' ⟨s0, s1, s2, s3, s4, s5, s6, s7⟩
                go_simp
                with_reducible rfl
              rotate_left
              · simp only [Act.put, List.setIfInBounds_toArray, List.set_cons_zero, List.set_cons_succ, i64_w, i32_w]
                rfl
              refine pure_ (i := 3) (N := some 44) (v := ?_) (a' := ?_) #[true, true, true, true, false, false, false, false, false, false, false] rfl rfl (any_of HT_.out (by kernel_rfl)) (fun _ _ _ h => h) (Or.inl ⟨by rfl, ?_⟩) ?_ ?_
              rotate_left
              · intro w'
                go_simp
                with_reducible rfl
              rotate_left
              · simp only [Act.put, List.setIfInBounds_toArray, List.set_cons_zero, List.set_cons_succ, i64_w, i32_w]
                rfl
              refine take_ (i := 4) (N := some 45) (v := ?_) (a' := ?_) #[true, true, true, true, true, false, false, false, false, false, false] rfl rfl (take_ofW HT_.out HW_.out (by kernel_rfl)) (fun _ _ _ h => h) (Or.inl ⟨by rfl, ?_⟩) hHeld ?_ ?_
              rotate_left
              · rintro w' ⟨s0, s1, s2, s3, s4, s5, s6, s7⟩
                go_simp
                with_reducible rfl
              rotate_left
              · simp only [Act.put, List.setIfInBounds_toArray, List.set_cons_zero, List.set_cons_succ, i64_w, i32_w]
                rfl
              refine pure_ (i := 5) (N := some 46) (v := ?_) (a' := ?_) #[true, true, true, true, true, true, false, false, false, false, false] rfl rfl (any_of HT_.out (by kernel_rfl)) (fun _ _ _ h => h) (Or.inl ⟨by rfl, ?_⟩) ?_ ?_
              rotate_left
              · intro w'
                go_simp
                with_reducible rfl
              rotate_left
              · simp only [Act.put, List.setIfInBounds_toArray, List.set_cons_zero, List.set_cons_succ, i64_w, i32_w]
                rfl
              refine pure_ (i := 6) (N := some 47) (v := ?_) (a' := ?_) #[true, true, true, true, true, true, true, false, false, false, false] rfl rfl (any_of HT_.out (by kernel_rfl)) (fun _ _ _ h => h) (Or.inl ⟨by rfl, ?_⟩) ?_ ?_
              rotate_left
              · intro w'
                go_simp
                with_reducible rfl
              rotate_left
              · simp only [Act.put, List.setIfInBounds_toArray, List.set_cons_zero, List.set_cons_succ, i64_w, i32_w]
                rfl
              refine take_ (i := 7) (N := some 48) (v := ?_) (a' := ?_) #[true, true, true, true, true, true, true, true, false, false, false] rfl rfl (take_ofW HT_.out HW_.out (by kernel_rfl)) (fun _ _ _ h => h) (Or.inl ⟨by rfl, ?_⟩) hHeld ?_ ?_
              rotate_left
              · rintro w' ⟨s0, s1, s2, s3, s4, s5, s6, s7⟩
                go_simp
                with_reducible rfl
              rotate_left
              · simp only [Act.put, List.setIfInBounds_toArray, List.set_cons_zero, List.set_cons_succ, i64_w, i32_w]
                rfl
              refine pure_ (i := 8) (N := some 49) (v := ?_) (a' := ?_) #[true, true, true, true, true, true, true, true, true, false, false] rfl rfl (any_of HT_.out (by kernel_rfl)) (fun _ _ _ h => h) (Or.inl ⟨by rfl, ?_⟩) ?_ ?_
              rotate_left
              · intro w'
                go_simp
                with_reducible rfl
              rotate_left
              · simp only [Act.put, List.setIfInBounds_toArray, List.set_cons_zero, List.set_cons_succ, i64_w, i32_w]
                rfl
              refine one_ (i := 9) (N := some 50) #[true, true, true, true, true, true, true, true, true, true, false] rfl rfl (one_of HT_.out (by kernel_rfl)) (by decide) (fun K hK => ?_)
              refine goes_ Tryd.func41 (by kernel_rfl) rfl #[.pointer (some ⟨g, 0, none⟩), .agg #[.int .i64 iI, .int .i64 ↑dJ, .int .u8 1, .int .u8 q0, .int .u8 q1, .int .u8 q2, .int .u8 q3], .int .i64 tI] (by rfl) rfl rfl (by (try simp only [List.map_toArray, List.map_cons, List.map_nil]); first | done | rfl | (go_simp; done) | simp [Act.eval]) ?_
              refine HWE.out.mono ?_
              rintro e w7 ⟨rfl, hb7⟩
              have HB7 := Aside0.mk hb7
              have k6 := fun q => hb7.cell (p := ⟨b12, q, none⟩) hbl4
              have HS7 := Aside0.mk (And.intro ((k6 0).trans HS.out.1) (And.intro ((k6 1).trans HS.out.2.1) (And.intro ((k6 2).trans HS.out.2.2.1) (And.intro ((k6 3).trans HS.out.2.2.2.1) (And.intro ((k6 4).trans HS.out.2.2.2.2.1) (And.intro ((k6 5).trans HS.out.2.2.2.2.2.1) (And.intro ((k6 6).trans HS.out.2.2.2.2.2.2.1) ((hb7.cell (p := ⟨X, dJ, none⟩) hXl4).trans HS.out.2.2.2.2.2.2.2))))))))
              have hSP7 := HST.out.1.below hb7
              have hNX7 := HST.out.2.1.below hb7
              have hAl : A i < w.heap.size := blk_lt (HSP.out.row i hlt).1
              have had := add_calls hSP7.cell.2.1 (by have := HX.out; omega) (hNX7.row dJ hdl).1 (hSP7.row i hlt).1 (by show X + 1 + dJ ≠ A i; have := HX.out; omega) (hNX7.row dJ hdl).2 (hSP7.row i hlt).2 HN.out.2 bw (by have := HST.out.2.2.2.2.1; omega)
              rw [HST.out.2.2.2.2.2.1] at had
              have HAD := Aside0.mk had
              clear hb7 k6 hSP7 hNX7 had
              refine ⟨_, rfl, ?_⟩
              refine hK.out _ _ HS7.out (fun hHeld => ?_)
              clear hK K
              refine norm_ (a' := ?_) ?_ ?_
              rotate_left
              · show Act.put _ (some 50) _ = _
                simp only [Act.put, List.setIfInBounds_toArray, List.set_cons_zero, List.set_cons_succ, i64_w, i32_w]
                rfl
              refine last_ (i := 10) (N := some 51) #[true, true, true, true, true, true, true, true, true, true, true] rfl rfl (one_of HT_.out (by kernel_rfl)) (by decide) (fun K hK => ?_)
              refine goes_ Tryd.func40 (by kernel_rfl) rfl #[.pointer (some ⟨g, 0, none⟩), .slice (some ⟨X + 1 + dJ, 0, none⟩) N N, .slice (some ⟨A i, 0, none⟩) N N, .int .i64 bI] (by rfl) rfl rfl (by (try simp only [List.map_toArray, List.map_cons, List.map_nil]); first | done | rfl | (go_simp; done) | simp [Act.eval]) ?_
              refine HAD.out.mono ?_
              rintro e w8 ⟨rfl, hx8, hp8⟩
              have HX8 := Aside0.mk (And.intro hx8 hp8)
              clear hx8 hp8
              refine ⟨_, rfl, ?_⟩
              refine hK.out _ _ ?_
              clear hK K
              refine norm_ (a' := ?_) ?_ ?_
              rotate_left
              · show Act.put _ (some 51) _ = _
                simp only [Act.put, List.setIfInBounds_toArray, List.set_cons_zero, List.set_cons_succ, i64_w, i32_w]
                rfl
              refine done_ (done_of HT_.out (by kernel_rfl)) ?_
              have hN8 := (HST.out.2.1.below HB7.out).put dJ hdl HX8.out.2 HX8.out.1 (by rw [addI_length]; exact acc_length W N t rows dJ (2 * i + 1))
              have hb8 : Below w.heap.size w w8 := (below_step (below_step HB.out HST.out.2.2.2.2.2.2) HB7.out).trans (HX8.out.2.below (by have := HX.out; omega))
              have er : (fun u => if u = dJ then addI (acc W N t rows (2 * i + 1) dJ) (rows i) bw N else acc W N t rows (2 * i + 1) u) = acc W N t rows (2 * i + (1 + 1)) := by
                funext u
                have e1 : (2 * i + 1) / 2 = i := by omega
                have e2 : (2 * i + 1) % 2 = 1 := by omega
                have e3 : dst i 1 = dJ := by unfold dst; have := HD.out; omega
                have ea := acc_succ W N t rows (2 * i + 1) u
                rw [e1, e2, e3, HST.out.2.2.2.1, Int.toNat_natCast] at ea
                refine Eq.trans ?_ ea.symm
                by_cases q : u = dJ
                · rw [if_pos q, if_pos q, q]
                · rw [if_neg q, if_neg q]
              rw [er] at hN8
              have HN8 := Aside0.mk hN8
              have HB8 := Aside0.mk hb8
              rw [← HIK.out]
              clear hN8 hb8 er HX8 HB7 HAD HWE HST HS HNX HB
              go_wp2_with fail
              go_roundw
              case rel => exact ⟨1 + 1, by simp, by omega, HN8, HB8⟩
              case measure => simp [intOf]
            · go_wp2_with fail
              go_roundw
              case rel => exact ⟨i + 1, by simp, by omega, HNX, HB⟩
              case measure => simp [intOf]; omega
        · obtain rfl : i = 64 := by omega
          have hlb : decide (((64 : Nat) : Int) < 64) = false := by decide
          go_wp2_with fail
          have hbd := below_drew1 (Below.refl wr.heap.size wr)
          have hSPd := HSP.out.below (below_step HB.out hbd)
          have hNXd := HNX.out.below hbd
          have HS := Aside0.mk (show wr.drew.cell? ⟨g, 69, none⟩ = some (.slice (some ⟨F, 0, none⟩) N N) ∧ wr.drew.cell? ⟨X, 0, none⟩ = some (.slice (some ⟨X + 1, 0, none⟩) N N) from ⟨hSPd.cell.2.2.2, hNXd.cell 0 (by decide)⟩)
          have hFl : F < w.heap.size := blk_lt HSP.out.fnd.1
          have had := add_calls hSPd.cell.2.1 hSPd.negF hSPd.fnd.1 (hNXd.row 0 (by decide)).1 (by show F ≠ X + 1 + 0; have := HX.out; omega) hSPd.fnd.2 (hNXd.row 0 (by decide)).2 HN.out.2 0 (by decide)
          have HAD := Aside0.mk had
          have HSD := Aside0.mk (And.intro hSPd (And.intro hNXd hbd))
          clear hbd hSPd hNXd had
          refine start_ (n := 8) (S := (fun w' => w'.cell? ⟨g, 69, none⟩ = some (.slice (some ⟨F, 0, none⟩) N N) ∧ w'.cell? ⟨X, 0, none⟩ = some (.slice (some ⟨X + 1, 0, none⟩) N N))) (ds := [7]) #[false, false, false, false, false, false, false, false] (by kernel_rfl) rfl rfl HS.out (fun hHeld => ?_)
          refine with_tabW step19.tab step19.bits (fun HT_ HW_ => ?_)
          refine pure_ (i := 0) (N := some 54) (v := ?_) (a' := ?_) #[true, false, false, false, false, false, false, false] rfl rfl (any_of HT_.out (by kernel_rfl)) (fun _ _ _ h => h) (Or.inl ⟨by rfl, ?_⟩) ?_ ?_
          rotate_left
          · intro w'
            go_simp
            with_reducible rfl
          rotate_left
          · simp only [Act.put, List.setIfInBounds_toArray, List.set_cons_zero, List.set_cons_succ, i64_w, i32_w]
            rfl
          refine pure_ (i := 1) (N := some 55) (v := ?_) (a' := ?_) #[true, true, false, false, false, false, false, false] rfl rfl (any_of HT_.out (by kernel_rfl)) (fun _ _ _ h => h) (Or.inl ⟨by rfl, ?_⟩) ?_ ?_
          rotate_left
          · intro w'
            go_simp
            with_reducible rfl
          rotate_left
          · simp only [Act.put, List.setIfInBounds_toArray, List.set_cons_zero, List.set_cons_succ, i64_w, i32_w]
            rfl
          refine pure_ (i := 2) (N := some 56) (v := ?_) (a' := ?_) #[true, true, true, false, false, false, false, false] rfl rfl (any_of HT_.out (by kernel_rfl)) (fun _ _ _ h => h) (Or.inl ⟨by rfl, ?_⟩) ?_ ?_
          rotate_left
          · intro w'
            go_simp
            with_reducible rfl
          rotate_left
          · simp only [Act.put, List.setIfInBounds_toArray, List.set_cons_zero, List.set_cons_succ, i64_w, i32_w]
            rfl
          refine pure_ (i := 3) (N := some 57) (v := ?_) (a' := ?_) #[true, true, true, true, false, false, false, false] rfl rfl (any_of HT_.out (by kernel_rfl)) (fun _ _ _ h => h) (Or.inl ⟨by rfl, ?_⟩) ?_ ?_
          rotate_left
          · intro w'
            go_simp
            with_reducible rfl
          rotate_left
          · simp only [Act.put, List.setIfInBounds_toArray, List.set_cons_zero, List.set_cons_succ, i64_w, i32_w]
            rfl
          refine take_ (i := 4) (N := some 58) (v := ?_) (a' := ?_) #[true, true, true, true, true, false, false, false] rfl rfl (take_ofW HT_.out HW_.out (by kernel_rfl)) (fun _ _ _ h => h) (Or.inl ⟨by rfl, ?_⟩) hHeld ?_ ?_
          rotate_left
          · rintro w' ⟨s0, s1⟩
            go_simp
            with_reducible rfl
          rotate_left
          · simp only [Act.put, List.setIfInBounds_toArray, List.set_cons_zero, List.set_cons_succ, i64_w, i32_w]
            rfl
          refine pure_ (i := 5) (N := some 59) (v := ?_) (a' := ?_) #[true, true, true, true, true, true, false, false] rfl rfl (any_of HT_.out (by kernel_rfl)) (fun _ _ _ h => h) (Or.inl ⟨by rfl, ?_⟩) ?_ ?_
          rotate_left
          · intro w'
            go_simp
            with_reducible rfl
          rotate_left
          · simp only [Act.put, List.setIfInBounds_toArray, List.set_cons_zero, List.set_cons_succ, i64_w, i32_w]
            rfl
          refine take_ (i := 6) (N := some 60) (v := ?_) (a' := ?_) #[true, true, true, true, true, true, true, false] rfl rfl (take_ofW HT_.out HW_.out (by kernel_rfl)) (fun _ _ _ h => h) (Or.inl ⟨by rfl, ?_⟩) hHeld ?_ ?_
          rotate_left
          · rintro w' ⟨s0, s1⟩
            go_simp
            with_reducible rfl
          rotate_left
          · simp only [Act.put, List.setIfInBounds_toArray, List.set_cons_zero, List.set_cons_succ, i64_w, i32_w]
            rfl
          refine last_ (i := 7) (N := some 61) #[true, true, true, true, true, true, true, true] rfl rfl (one_of HT_.out (by kernel_rfl)) (by decide) (fun K hK => ?_)
          refine goes_ Tryd.func40 (by kernel_rfl) rfl #[.pointer (some ⟨g, 0, none⟩), .slice (some ⟨F, 0, none⟩) N N, .slice (some ⟨X + 1, 0, none⟩) N N, .int .i64 0] (by rfl) rfl rfl (by (try simp only [List.map_toArray, List.map_cons, List.map_nil]); first | done | rfl | (go_simp; done) | simp [Act.eval]) ?_
          refine HAD.out.mono ?_
          rintro e w8 ⟨rfl, hx8, hp8⟩
          have HX8 := Aside0.mk (And.intro hx8 hp8)
          clear hx8 hp8
          refine ⟨_, rfl, ?_⟩
          refine hK.out _ _ ?_
          clear hK K
          refine norm_ (a' := ?_) ?_ ?_
          rotate_left
          · show Act.put _ (some 61) _ = _
            simp only [Act.put, List.setIfInBounds_toArray, List.set_cons_zero, List.set_cons_succ, i64_w, i32_w]
            rfl
          refine done_ (done_of HT_.out (by kernel_rfl)) ?_
          have hSP8 := HSD.out.1.putF HX8.out.2 HX8.out.1 (by rw [addI_length]; exact HSD.out.1.fnd.2)
          have hNX8 := HSD.out.2.1.apart (by have := HX.out; omega) HX8.out.2
          have hem := empty_calls (w := w8) (g := g) (N := N) hSP8.cell.2.1 HN.out.2
          have HEM := Aside0.mk hem
          have H8 := Aside0.mk (And.intro hSP8 hNX8)
          clear hSP8 hNX8 hem
          go_wp2_with (first
            | (go_at_call 38; refine HEM.out.mono ?_
               rintro e w9 ⟨rfl, hw9⟩
               have hb9 := below_alloc (Below.refl w8.heap.size w8) (.cells (ints (List.replicate N 0)) 3)
               have hn9 := blk_new w8 (.cells (ints (List.replicate N 0)) 3)
               rw [← hw9] at hb9 hn9
               have hc9 := (H8.out.2.below hb9).cell 0 (by decide)
               have hfz : w9.frozen? ⟨X, 0, none⟩ = false := by obtain ⟨C, hC, _⟩ := (H8.out.2.below hb9).blk; exact blk_frozen hC 0
               have H9 := Aside0.mk (And.intro hb9 hn9)
               clear hb9 hn9 hw9)
            | ((with_reducible refine gate_ (.load 50 (.tmp 5)) rfl ?_); refine Aside0.out ?_)
            | fail)
          refine Aside0.mk ?_
          obtain ⟨C, hC, hCs, hCw⟩ := (H8.out.2.below H9.out.1).blk
          obtain ⟨Y, hY⟩ : ∃ Y, Y = w8.heap.size := ⟨_, rfl⟩
          rw [← hY]
          have hXw : X < w8.heap.size := by obtain ⟨C, hC, _⟩ := H8.out.2.blk; exact blk_lt hC
          have hgX : g < X := by have := HX.out; omega
          have hCX := blk_put hC 0 (sl Y N) rfl
          obtain ⟨cs, hcs⟩ : ∃ cs, cs = (C.setIfInBounds 0 (sl Y N)).toList := ⟨_, rfl⟩
          have hcl : cs.length = 64 := by rw [hcs]; simpa using hCs
          have hcg : ∀ s, s < 64 → cs[s]? = some (sl (if s = 0 then Y else X + 1 + s) N) := fun s hs => by
            rw [hcs, Array.getElem?_toList, Array.getElem?_setIfInBounds]
            by_cases e : s = 0
            · subst e; rw [if_pos rfl, if_pos (by omega), if_pos rfl]
            · rw [if_neg (fun q => e q.symm), if_neg e]; exact hCw s hs
          refine wpList_load_mid rfl 50 (.tmp 5) rfl X 0 (by first | rfl | (go_simp; done)) cs _ (fun j v hv => ?_) Tryd.underlying50 rfl (by rw [hcl]; kernel_rfl) ?_
          · rw [hcs, Array.getElem?_toList] at hv
            rw [Nat.zero_add]
            exact (blk_cell hCX j).trans hv
          have hSP9 := H8.out.1.below H9.out.1
          have hbA : Put1 X w9 (w9.setCell ⟨X, 0, none⟩ (.slice (some ⟨Y, 0, none⟩) N N)) := Put1.set X 0 w9 _
          obtain ⟨Cg, hCg, hcc, hCF⟩ := hSP9.blk
          have hCgA := (hbA.block g (by omega)).trans hCg
          obtain ⟨VS, hVS⟩ : ∃ VS, VS = cs.toArray := ⟨_, rfl⟩
          have hVs : VS.size = 64 := by rw [hVS]; simpa using hcl
          have hVl : VS.toList = cs := by rw [hVS]
          rw [← hVS]
          obtain ⟨wA, hwA⟩ : ∃ wA, wA = w9.setCell ⟨X, 0, none⟩ (.slice (some ⟨Y, 0, none⟩) N N) := ⟨_, rfl⟩
          rw [← hwA] at hbA hCgA
          rw [← hwA]
          have HALL := Aside0.mk (And.intro hbA (And.intro hCgA (And.intro hVs (And.intro hVl (And.intro hcg (And.intro hcl (And.intro hcc (And.intro hCF (And.intro hSP9 hY)))))))))
          clear hbA hCgA hVs hVl hcg hcl hcc hCF hSP9 hY hcs hVS hwA hCX hC hCs hCw hCg hc9 hfz
          go_wp2_with (first
            | ((with_reducible refine gate_ (.store 50 (.tmp 68) (.tmp 66)) rfl ?_); refine Aside0.out ?_)
            | fail)
          refine Aside0.mk ?_
          obtain ⟨hbA, hCgA, hVs, hVl, hcg, hcl, hcc, hCF, hSP9, hY⟩ := HALL.out
          refine wpList_store_mid rfl 50 (.tmp 68) (.tmp 66) rfl g 5 VS (by first | rfl | (go_simp; done)) (by first | rfl | (go_simp; done)) (fun j hj => ?_) (by rw [hVs]; kernel_rfl) (by rw [show VS = cs.toArray from by rw [← hVl]]; exact all_oneCell_toArray (fun v hv => by obtain ⟨j, hj, rfl⟩ := List.getElem_of_mem hv; have e := hcg j (by omega); rw [List.getElem?_eq_getElem hj] at e; injection e with e; rw [e]; rfl)) ?_
          · rw [hVs] at hj
            exact ⟨by rw [blk_cell hCgA (5 + j), hcc.ways j hj]; rfl, blk_frozen hCgA (5 + j)⟩
          rw [hVl]
          obtain ⟨C2, hC2, hz2, ho2, hi2⟩ := setCells_blk cs 5 wA Cg hCgA
          have hpg := Put1.cells_ g cs 5 wA
          generalize (wA.setCells g 5 cs) = wF at hC2 hpg ⊢
          have HFIN := Aside0.mk (And.intro hC2 (And.intro hz2 (And.intro ho2 (And.intro hi2 hpg))))
          have hN9 := H8.out.2.below H9.out.1
          have HN9 := Aside0.mk hN9
          clear hC2 hz2 ho2 hi2 hpg hbA hCgA hVs hVl hcg hcl hcc hCF hSP9 hY hN9
          go_wp2_with fail
          go_ret
          obtain ⟨hC2, hz2, ho2, hi2, hpg⟩ := HFIN.out
          obtain ⟨hbA, hCgA, hVs, hVl, hcg, hcl, hcc, hCF, hSP9, hY⟩ := HALL.out
          have hXe := HX.out
          have hblk : ∀ k, k ≠ g → k ≠ X → wF.heap[k]? = w9.heap[k]? := fun k h1 h2 => (hpg.block k h1).trans (hbA.block k h2)
          refine ⟨by simp, fun s => if s = 0 then Y else X + 1 + s, ⟨⟨C2, hC2, ⟨hz2.trans hcc.size, fun v hv => (ho2 v (.inl (by omega))).trans (hcc.ws v hv), (ho2 4 (.inl (by omega))).trans hcc.top, fun s hs => hi2 s _ (hcg s hs) (by rw [hcc.size]; omega)⟩, (ho2 69 (.inr (by omega))).trans hCF⟩, fun s hs => ?_, ?_, fun s u hs hu e => ?_, fun s hs => ?_⟩, ?_⟩
          · by_cases e : s = 0
            · subst e
              show wF.heap[if 0 = 0 then Y else X + 1 + 0]? = some (.cells (ints (stepRows W N t rows 0)) 3 (0, 0)) ∧ (stepRows W N t rows 0).length = N
              have e0 : stepRows W N t rows 0 = zeros N := by unfold stepRows; rw [if_pos rfl]
              rw [if_pos rfl, e0]
              have hg8 := H8.out.1.lt
              have hX8 : X < w8.heap.size := by obtain ⟨C, hC, _⟩ := H8.out.2.blk; exact blk_lt hC
              exact ⟨(hblk Y (by omega) (by omega)).trans (by rw [hY]; exact H9.out.2), List.length_replicate⟩
            · show wF.heap[if s = 0 then Y else X + 1 + s]? = some (.cells (ints (stepRows W N t rows s)) 3 (0, 0)) ∧ (stepRows W N t rows s).length = N
              have e0 : stepRows W N t rows s = acc W N t rows 128 s := by unfold stepRows; rw [if_neg e]
              rw [if_neg e, e0]
              exact ⟨(hblk (X + 1 + s) (by omega) (by omega)).trans (HN9.out.row s hs).1, (HN9.out.row s hs).2⟩
          · exact ⟨(hblk F hSP9.negF.symm (by omega)).trans hSP9.fnd.1, hSP9.fnd.2⟩
          · have hr := fun q (hq : q < 64) => blk_lt (H8.out.2.row q hq).1
            have hs1 := hr s hs
            have hu1 := hr u hu
            have e : (if s = 0 then Y else X + 1 + s) = (if u = 0 then Y else X + 1 + u) := e
            split at e <;> split at e <;> omega
          · have hr := blk_lt (H8.out.2.row s hs).1
            show (if s = 0 then Y else X + 1 + s) ≠ F
            split <;> omega
          · intro n₀ h1 h2 h3
            have b1 : Below n₀ w wr := ⟨HB.out.os, HB.out.tape, HB.out.output, HB.out.size, fun k hk => HB.out.block k (by omega)⟩
            have b2 : Below n₀ wr wr.drew := below_drew1 (Below.refl _ _)
            have b3 := HX8.out.2.below h2
            have b4 : Below n₀ w8 w9 := ⟨H9.out.1.os, H9.out.1.tape, H9.out.1.output, H9.out.1.size, fun k hk => H9.out.1.block k (by have := H8.out.1.lt; omega)⟩
            exact ((((b1.trans b2).trans b3).trans b4).trans (hbA.below (by omega))).trans (hpg.below h1)
end Go.Proofs.YtijpnlmejphfhaaDoor.P
