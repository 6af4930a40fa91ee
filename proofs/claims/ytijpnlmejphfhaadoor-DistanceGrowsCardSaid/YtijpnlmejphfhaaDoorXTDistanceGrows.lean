/- DistanceGrows by hand (draft: stops at region 5, which draws its order). No condition. -/
import Derived.Test.YtijpnlmejphfhaaDoorXMDistanceLeast3
namespace Go.Proofs.YtijpnlmejphfhaaDoor.P
open Go Go.Proofs Go.RowKit Go.Proofs.YtijpnlmejphfhaaDoorW.PrintWords Go.Proofs.YtijpnlmejphfhaaDoorW.PrintLast Go.Proofs.YtijpnlmejphfhaaDoorW.PrintMore
set_option linter.unusedVariables false
set_option linter.unusedSimpArgs false

def grows5.T : Bool × List (List Nat × List Nat) := (true, [([], []), ([], []), ([], []), ([], []), ([2, 0, 0, 2, 3], [0, 2]), ([3, 1, 4, 0, 1, 2, 3, 4], [1, 3])])
def grows5.B : List Nat := [0, 0, 0, 0, 13, 31]
theorem grows5.tab : rtab .any (opsOf Tryd.f8 5) = grows5.T := by kernel_rfl
theorem grows5.bits : waitsOk grows5.T.2 grows5.B = true := by kernel_rfl
theorem wsum_grow {W U : Nat → Int} (h : ∀ v, v < 4 → W v ≤ U v) {o : Nat → Int} (ho : ∀ s, o s = 0 ∨ o s = 1) (t : Nat) : ∀ j, wsum W o t j ≤ wsum U o t j
  | 0 => Int.le_refl _
  | j + 1 => by
    have h1 := wsum_grow h ho t j
    have h2 := h _ (ver_lt j t)
    unfold wsum
    rcases ho j with e | e <;> rw [e] <;> omega
theorem en_grow {W U : Nat → Int} (h : ∀ v, v < 4 → W v ≤ U v) (s i t : Nat) : en W s i t ≤ en U s i t := by
  have := wsum_grow h (o4_ob s i) t 4
  unfold en ew
  omega
theorem way_grow {W U : Nat → Int} (h : ∀ v, v < 4 → W v ≤ U v) {s t x : Nat} (w : Way U s t x) : ∃ y, y ≤ x ∧ Way W s t y := by
  induction w with
  | first t ht => exact ⟨_, en_grow h 0 1 t, Way.first t ht⟩
  | next s t x i hw hs hi ih =>
    obtain ⟨y, hy, hv⟩ := ih
    exact ⟨_, by have := en_grow h s i t; omega, Way.next _ _ _ i hv hs hi⟩
/-- No weight less: the least way weighs no less. -/
theorem least_grow {W U : Nat → Int} (h : ∀ v, v < 4 → W v ≤ U v) {n m : Nat} (hn : IsLeast W n) (hm : IsLeast U m) : n ≤ m := by
  obtain ⟨t, hw⟩ := hm.1
  obtain ⟨y, hy, hv⟩ := way_grow h hw
  have := hn.2 t y hv
  omega
theorem wsum_two {W U : Nat → Int} (h : ∀ v, v < 4 → U v = 2 * W v) (o : Nat → Int) (t : Nat) : ∀ j, wsum U o t j = 2 * wsum W o t j
  | 0 => rfl
  | j + 1 => by
    unfold wsum
    rw [wsum_two h o t j, h _ (ver_lt j t), Int.mul_add, Int.mul_left_comm]
theorem en_two {W U : Nat → Int} (h : ∀ v, v < 4 → U v = 2 * W v) (s i t : Nat) : en U s i t = 2 * en W s i t := by
  have := wsum_two h (o4 (ob s i 0) (ob s i 1) (ob s i 2) (ob s i 3)) t 4
  unfold en ew
  omega
theorem way_two {W U : Nat → Int} (h : ∀ v, v < 4 → U v = 2 * W v) {s t x : Nat} (w : Way W s t x) : Way U s t (2 * x) := by
  induction w with
  | first t ht => rw [← en_two h]; exact Way.first t ht
  | next s t x i hw hs hi ih => rw [Nat.mul_add, ← en_two h]; exact Way.next _ _ _ i ih hs hi
theorem way_half {W U : Nat → Int} (h : ∀ v, v < 4 → U v = 2 * W v) {s t x : Nat} (w : Way U s t x) : ∃ y, x = 2 * y ∧ Way W s t y := by
  induction w with
  | first t ht => exact ⟨_, en_two h 0 1 t, Way.first t ht⟩
  | next s t x i hw hs hi ih =>
    obtain ⟨y, rfl, hv⟩ := ih
    exact ⟨_, by rw [en_two h, ← Nat.mul_add], Way.next _ _ _ i hv hs hi⟩
/-- Every weight twice: the least way weighs twice. -/
theorem least_two {W U : Nat → Int} (h : ∀ v, v < 4 → U v = 2 * W v) {n : Nat} (hn : IsLeast W n) : IsLeast U (2 * n) := by
  obtain ⟨t, hw⟩ := hn.1
  refine ⟨⟨t, way_two h hw⟩, fun t' x hx => ?_⟩
  obtain ⟨y, rfl, hv⟩ := way_half h hx
  have := hn.2 t' y hv
  omega
theorem modT (m : Int) (hm : 0 < m) (hm2 : m ≤ 100000) (a : Int) : ∃ N : Nat, IntKind.i64.wrap (Int.tmod (IntKind.u64.wrap a) m) = (N : Int) ∧ (N : Int) < m := by
  have h1 : 0 ≤ IntKind.u64.wrap a := by rw [IntKind.wrap_u64]; omega
  have h2 : 0 ≤ (IntKind.u64.wrap a).tmod m := Int.tmod_nonneg _ h1
  have h3 : (IntKind.u64.wrap a).tmod m < m := Int.tmod_lt_of_pos _ hm
  refine ⟨((IntKind.u64.wrap a).tmod m).toNat, ?_, by omega⟩
  rw [IntKind.wrap_i64]; omega
def wAt (a b c d n0 n1 n2 n3 : Int) : Nat → Array Value
  | 0 => #[.int .i64 a, .int .i64 b, .int .i64 c, .int .i64 d]
  | 1 => #[.int .i64 n0, .int .i64 b, .int .i64 c, .int .i64 d]
  | 2 => #[.int .i64 n0, .int .i64 n1, .int .i64 c, .int .i64 d]
  | 3 => #[.int .i64 n0, .int .i64 n1, .int .i64 n2, .int .i64 d]
  | _ => #[.int .i64 n0, .int .i64 n1, .int .i64 n2, .int .i64 n3]
def tAt (n0 n1 n2 n3 : Int) : Nat → Array Value
  | 0 => #[.int .i64 n0, .int .i64 n1, .int .i64 n2, .int .i64 n3]
  | 1 => #[.int .i64 (2 * n0), .int .i64 n1, .int .i64 n2, .int .i64 n3]
  | 2 => #[.int .i64 (2 * n0), .int .i64 (2 * n1), .int .i64 n2, .int .i64 n3]
  | 3 => #[.int .i64 (2 * n0), .int .i64 (2 * n1), .int .i64 (2 * n2), .int .i64 n3]
  | _ => #[.int .i64 (2 * n0), .int .i64 (2 * n1), .int .i64 (2 * n2), .int .i64 (2 * n3)]
theorem at6 {F : Exit → Act → World → Prop} {a : Act} {w : World} (b : Nat) (h : a.tmps.getD 6 undef = .pointer (some ⟨b, 0, none⟩)) (k : F .normal a w) : F .normal a w := k
theorem st_of {w : World} {x0 : Nat} {N0 N1 N2 N3 : Int} (h : w.heap[x0]? = some (.cells #[.int .i64 N0, .int .i64 N1, .int .i64 N2, .int .i64 N3] 22 (0, 0))) :
    w.cell? ⟨x0, 0, none⟩ = some (.int .i64 N0) ∧ w.cell? ⟨x0, 1, none⟩ = some (.int .i64 N1) ∧ w.cell? ⟨x0, 2, none⟩ = some (.int .i64 N2) ∧ w.cell? ⟨x0, 3, none⟩ = some (.int .i64 N3) := ⟨blk_cell h 0, blk_cell h 1, blk_cell h 2, blk_cell h 3⟩
theorem al_ {w : World} {x : Nat} {B : Obj} (h : w.heap[x]? = some B) (O : Obj) : (w.alloc O).heap[x]? = some B := ((below_alloc (Below.refl w.heap.size w) O).block x (blk_lt h)).trans h
set_option maxRecDepth 100000 in
set_option maxHeartbeats 8000000 in
theorem lawDGrows.walk (a b c d k0 : Int) (w : World) (hT : TP w := by assumption) :
    Calls Tryd.prog 8 #[.agg #[.int .i64 a, .int .i64 b, .int .i64 c, .int .i64 d], .int .i64 k0] w fun e w' => e = .returned (.bool true) ∧ Below w.heap.size w w' := by
  have HT := Aside0.mk hT
  clear hT
  obtain ⟨n0, hn0, hl0⟩ := modT 4 (by decide) (by decide) a
  obtain ⟨n1, hn1, hl1⟩ := modT 4 (by decide) (by decide) b
  obtain ⟨n2, hn2, hl2⟩ := modT 4 (by decide) (by decide) c
  obtain ⟨n3, hn3, hl3⟩ := modT 4 (by decide) (by decide) d
  obtain ⟨k, hk, hk4⟩ := modT 4 (by decide) (by decide) k0
  obtain ⟨KK, hK⟩ : ∃ KK : Int, KK = (k : Int) := ⟨_, rfl⟩
  have hkc : KK = 0 ∨ KK = 1 ∨ KK = 2 ∨ KK = 3 := by omega
  rw [← hK] at hk
  clear hk4 hK
  go_enter Tryd.func8, Tryd.ntmps8
  go_wp2_with fail
  have hba := below_alloc (Below.refl w.heap.size w) (.cells #[.int .i64 a, .int .i64 b, .int .i64 c, .int .i64 d] 22)
  have hbb := blk_new w (.cells #[.int .i64 a, .int .i64 b, .int .i64 c, .int .i64 d] 22)
  obtain ⟨w1, hw1⟩ : ∃ w1, w1 = w.alloc (.cells #[.int .i64 a, .int .i64 b, .int .i64 c, .int .i64 d] 22) := ⟨_, rfl⟩
  obtain ⟨x0, hx0⟩ : ∃ x0, x0 = w.heap.size := ⟨_, rfl⟩
  rw [← hw1] at hba hbb
  rw [← hx0] at hbb
  rw [← hw1, ← hx0]
  have HX0 := Aside0.mk (show w.heap.size ≤ x0 by rw [hx0]; exact Nat.le_refl _)
  have HX1 := Aside0.mk (show w1.heap[x0]? = some (.cells (wAt a b c d n0 n1 n2 n3 0) 22 (0, 0)) from hbb)
  have HB1 := Aside0.mk hba
  clear hba hbb hw1 hx0
  go_loopw [5] (fun v5 wr => ∃ v : Nat, v5 = .int .i64 (v : Int) ∧ v ≤ 4 ∧ Aside0 (wr.heap[x0]? = some (.cells (wAt a b c d n0 n1 n2 n3 v) 22 (0, 0))) ∧ Aside0 (Below w.heap.size w wr)) (fun v5 _ => 4 - (intOf v5).toNat)
  case atStart => exact ⟨0, by simp, by omega, HX1, HB1⟩
  case round =>
    clear HX1 HB1
    obtain ⟨v, rfl, hv, HX, HB⟩ := hrel
    have hc : v = 0 ∨ v = 1 ∨ v = 2 ∨ v = 3 ∨ v = 4 := by omega
    rcases hc with rfl | rfl | rfl | rfl | rfl
    · skip
      have hfz := blk_frozen HX.out 0
      have hc : wr.cell? ⟨x0, 0, none⟩ = some (.int .i64 a) := blk_cell HX.out 0
      go_wp2_with fail
      have HX2 := Aside0.mk (show (wr.setCell ⟨x0, 0, none⟩ (.int .i64 n0)).heap[x0]? = some (.cells (wAt a b c d n0 n1 n2 n3 (0 + 1)) 22 (0, 0)) from blk_put HX.out 0 _ rfl)
      have HB2 := Aside0.mk (show Below w.heap.size w (wr.setCell ⟨x0, 0, none⟩ (.int .i64 n0)) from HB.out.trans ((Put1.set x0 0 wr _).below HX0.out))
      clear hc hfz HX HB
      go_roundw
      case rel => exact ⟨0 + 1, by simp, by omega, HX2, HB2⟩
      case measure => simp [intOf]
    · skip
      have hfz := blk_frozen HX.out 1
      have hc : wr.cell? ⟨x0, 1, none⟩ = some (.int .i64 b) := blk_cell HX.out 1
      go_wp2_with fail
      have HX2 := Aside0.mk (show (wr.setCell ⟨x0, 1, none⟩ (.int .i64 n1)).heap[x0]? = some (.cells (wAt a b c d n0 n1 n2 n3 (1 + 1)) 22 (0, 0)) from blk_put HX.out 1 _ rfl)
      have HB2 := Aside0.mk (show Below w.heap.size w (wr.setCell ⟨x0, 1, none⟩ (.int .i64 n1)) from HB.out.trans ((Put1.set x0 1 wr _).below HX0.out))
      clear hc hfz HX HB
      go_roundw
      case rel => exact ⟨1 + 1, by simp, by omega, HX2, HB2⟩
      case measure => simp [intOf]
    · skip
      have hfz := blk_frozen HX.out 2
      have hc : wr.cell? ⟨x0, 2, none⟩ = some (.int .i64 c) := blk_cell HX.out 2
      go_wp2_with fail
      have HX2 := Aside0.mk (show (wr.setCell ⟨x0, 2, none⟩ (.int .i64 n2)).heap[x0]? = some (.cells (wAt a b c d n0 n1 n2 n3 (2 + 1)) 22 (0, 0)) from blk_put HX.out 2 _ rfl)
      have HB2 := Aside0.mk (show Below w.heap.size w (wr.setCell ⟨x0, 2, none⟩ (.int .i64 n2)) from HB.out.trans ((Put1.set x0 2 wr _).below HX0.out))
      clear hc hfz HX HB
      go_roundw
      case rel => exact ⟨2 + 1, by simp, by omega, HX2, HB2⟩
      case measure => simp [intOf]
    · skip
      have hfz := blk_frozen HX.out 3
      have hc : wr.cell? ⟨x0, 3, none⟩ = some (.int .i64 d) := blk_cell HX.out 3
      go_wp2_with fail
      have HX2 := Aside0.mk (show (wr.setCell ⟨x0, 3, none⟩ (.int .i64 n3)).heap[x0]? = some (.cells (wAt a b c d n0 n1 n2 n3 (3 + 1)) 22 (0, 0)) from blk_put HX.out 3 _ rfl)
      have HB2 := Aside0.mk (show Below w.heap.size w (wr.setCell ⟨x0, 3, none⟩ (.int .i64 n3)) from HB.out.trans ((Put1.set x0 3 wr _).below HX0.out))
      clear hc hfz HX HB
      go_roundw
      case rel => exact ⟨3 + 1, by simp, by omega, HX2, HB2⟩
      case measure => simp [intOf]
    · clear hn0 hn1 hn2 hn3
      obtain ⟨N0, hN0⟩ : ∃ N0 : Int, N0 = (n0 : Int) := ⟨_, rfl⟩
      obtain ⟨N1, hN1⟩ : ∃ N1 : Int, N1 = (n1 : Int) := ⟨_, rfl⟩
      obtain ⟨N2, hN2⟩ : ∃ N2 : Int, N2 = (n2 : Int) := ⟨_, rfl⟩
      obtain ⟨N3, hN3⟩ : ∃ N3 : Int, N3 = (n3 : Int) := ⟨_, rfl⟩
      rw [← hN0, ← hN1, ← hN2, ← hN3] at HX
      have HR := Aside0.mk (show (0 ≤ N0 ∧ N0 ≤ 3) ∧ (0 ≤ N1 ∧ N1 ≤ 3) ∧ (0 ≤ N2 ∧ N2 ≤ 3) ∧ (0 ≤ N3 ∧ N3 ≤ 3) by omega)
      clear hN0 hN1 hN2 hN3 hl0 hl1 hl2 hl3
      have HX : Aside0 (wr.heap[x0]? = some (.cells #[.int .i64 N0, .int .i64 N1, .int .i64 N2, .int .i64 N3] 22 (0, 0))) := HX
      have hlb : decide (((4 : Nat) : Int) < 4) = false := by decide
      go_wp2_with fail
      have HZ := Aside0.mk (st_of HX.out)
      refine start_ (n := 6) (S := (fun w' => w'.cell? ⟨x0, 0, none⟩ = some (.int .i64 N0) ∧ w'.cell? ⟨x0, 1, none⟩ = some (.int .i64 N1) ∧ w'.cell? ⟨x0, 2, none⟩ = some (.int .i64 N2) ∧ w'.cell? ⟨x0, 3, none⟩ = some (.int .i64 N3))) (ds := []) #[false, false, false, false, false, false] (by kernel_rfl) rfl rfl HZ.out (fun hHeld => ?_)
      refine with_tabW grows5.tab grows5.bits (fun HT_ HW_ => ?_)
      refine take_ (i := 0) (N := some 27) (v := ?_) (a' := ?_) #[true, false, false, false, false, false] rfl rfl (take_ofW HT_.out HW_.out (by kernel_rfl)) (fun _ _ _ h => h) (Or.inl ⟨by rfl, ?_⟩) hHeld ?_ ?_
      rotate_left
      · rintro w' ⟨s0, s1, s2, s3⟩
        go_simp
        with_reducible rfl
      rotate_left
      · simp only [Act.put, List.setIfInBounds_toArray, List.set_cons_zero, List.set_cons_succ, i64_w, i32_w]
        rfl
      refine take_ (i := 1) (N := some 28) (v := ?_) (a' := ?_) #[true, true, false, false, false, false] rfl rfl (take_ofW HT_.out HW_.out (by kernel_rfl)) (fun _ _ _ h => h) (Or.inl ⟨by rfl, ?_⟩) hHeld ?_ ?_
      rotate_left
      · rintro w' ⟨s0, s1, s2, s3⟩
        go_simp
        with_reducible rfl
      rotate_left
      · simp only [Act.put, List.setIfInBounds_toArray, List.set_cons_zero, List.set_cons_succ, i64_w, i32_w]
        rfl
      refine two_ (i := 2) (j := 3) (Ni := some 6) (Nj := some 7) #[true, true, true, false, false, false] #[true, true, false, true, false, false] rfl rfl rfl rfl (two_of HT_.out (by kernel_rfl)) (by decide) (by decide) (fun K hK => ?_) (fun K hK => ?_)
      · skip
        skip
        refine value_ (w1 := ?_) (v := ?_) (by rfl) rfl ?_ ?_
        rotate_left 2
        · go_simp
          constructor
          · rfl
          · rfl
        refine hK.out _ _ (by first | exact st_of (al_ HX.out _) | exact st_of (al_ (al_ HX.out _) _)) (fun hHeld => ?_)
        clear hK K
        refine norm_ (a' := ?_) ?_ ?_
        rotate_left
        · show Act.put _ (some 6) _ = _
          simp only [Act.put, List.setIfInBounds_toArray, List.set_cons_zero, List.set_cons_succ, i64_w, i32_w]
          rfl
        refine one_ (i := 3) (N := some 7) #[true, true, true, true, false, false] rfl rfl (one_of HT_.out (by kernel_rfl)) (by decide) (fun K hK => ?_)
        skip
        refine value_ (w1 := ?_) (v := ?_) (by rfl) rfl ?_ ?_
        rotate_left 2
        · go_simp
          constructor
          · rfl
          · rfl
        refine hK.out _ _ (by first | exact st_of (al_ HX.out _) | exact st_of (al_ (al_ HX.out _) _)) (fun hHeld => ?_)
        clear hK K
        refine norm_ (a' := ?_) ?_ ?_
        rotate_left
        · show Act.put _ (some 7) _ = _
          simp only [Act.put, List.setIfInBounds_toArray, List.set_cons_zero, List.set_cons_succ, i64_w, i32_w]
          rfl
        refine one_ (i := 4) (N := none) #[true, true, true, true, true, false] rfl rfl (one_of HT_.out (by kernel_rfl)) (by decide) (fun K hK => ?_)
        refine skip_ (w1 := ?_) (by rfl) rfl ?_ ?_
        rotate_left 1
        · go_simp
          rfl
        refine hK.out _ _ (by first | exact st_of (al_ (al_ HX.out _) _) | exact HZ.out) (fun hHeld => ?_)
        clear hK K
        refine one_ (i := 5) (N := none) #[true, true, true, true, true, true] rfl rfl (one_of HT_.out (by kernel_rfl)) (by decide) (fun K hK => ?_)
        refine skip_ (w1 := ?_) (by rfl) rfl ?_ ?_
        rotate_left 1
        · go_simp
          rfl
        refine hK.out _ _ (by first | exact st_of (al_ (al_ HX.out _) _) | exact HZ.out) (fun hHeld => ?_)
        clear hK K
        refine done_ (done_of HT_.out (by kernel_rfl)) ?_
        clear hHeld HZ
        first
        | (refine at6 wr.heap.size (by rfl) ?_; obtain ⟨g6, hg6⟩ : ∃ g, g = wr.heap.size := ⟨_, rfl⟩; obtain ⟨g7, hg7⟩ : ∃ g, g = wr.heap.size + 1 := ⟨_, rfl⟩; rw [← hg7, ← hg6])
        | (obtain ⟨g6, hg6⟩ : ∃ g, g = wr.heap.size + 1 := ⟨_, rfl⟩; obtain ⟨g7, hg7⟩ : ∃ g, g = wr.heap.size := ⟨_, rfl⟩; rw [← hg6, ← hg7])
        have hA0 : (((wr.alloc (.cells #[.int .i64 N0, .int .i64 N1, .int .i64 N2, .int .i64 N3] 22)).alloc (.cells #[.int .i64 N0, .int .i64 N1, .int .i64 N2, .int .i64 N3] 22)).drew).heap[wr.heap.size]? = some (.cells #[.int .i64 N0, .int .i64 N1, .int .i64 N2, .int .i64 N3] 22) := al_ (blk_new wr (.cells #[.int .i64 N0, .int .i64 N1, .int .i64 N2, .int .i64 N3] 22)) (.cells #[.int .i64 N0, .int .i64 N1, .int .i64 N2, .int .i64 N3] 22)
        have hA1 : (((wr.alloc (.cells #[.int .i64 N0, .int .i64 N1, .int .i64 N2, .int .i64 N3] 22)).alloc (.cells #[.int .i64 N0, .int .i64 N1, .int .i64 N2, .int .i64 N3] 22)).drew).heap[wr.heap.size + 1]? = some (.cells #[.int .i64 N0, .int .i64 N1, .int .i64 N2, .int .i64 N3] 22) := by
          have := blk_new (wr.alloc (.cells #[.int .i64 N0, .int .i64 N1, .int .i64 N2, .int .i64 N3] 22)) (.cells #[.int .i64 N0, .int .i64 N1, .int .i64 N2, .int .i64 N3] 22)
          rwa [World.size_alloc] at this
        have hXA : (((wr.alloc (.cells #[.int .i64 N0, .int .i64 N1, .int .i64 N2, .int .i64 N3] 22)).alloc (.cells #[.int .i64 N0, .int .i64 N1, .int .i64 N2, .int .i64 N3] 22)).drew).heap[x0]? = some (.cells #[.int .i64 N0, .int .i64 N1, .int .i64 N2, .int .i64 N3] 22) := al_ (al_ HX.out (.cells #[.int .i64 N0, .int .i64 N1, .int .i64 N2, .int .i64 N3] 22)) (.cells #[.int .i64 N0, .int .i64 N1, .int .i64 N2, .int .i64 N3] 22)
        have hBA : Below w.heap.size w (((wr.alloc (.cells #[.int .i64 N0, .int .i64 N1, .int .i64 N2, .int .i64 N3] 22)).alloc (.cells #[.int .i64 N0, .int .i64 N1, .int .i64 N2, .int .i64 N3] 22)).drew) := below_drew1 (below_step (below_step HB.out (below_alloc (Below.refl wr.heap.size wr) (.cells #[.int .i64 N0, .int .i64 N1, .int .i64 N2, .int .i64 N3] 22))) (below_alloc (Below.refl (wr.alloc (.cells #[.int .i64 N0, .int .i64 N1, .int .i64 N2, .int .i64 N3] 22)).heap.size (wr.alloc (.cells #[.int .i64 N0, .int .i64 N1, .int .i64 N2, .int .i64 N3] 22))) (.cells #[.int .i64 N0, .int .i64 N1, .int .i64 N2, .int .i64 N3] 22)))
        have hxl : x0 < wr.heap.size := blk_lt HX.out
        have hwl : w.heap.size ≤ wr.heap.size := HB.out.size
        obtain ⟨w2, hw2⟩ : ∃ w2, w2 = ((wr.alloc (.cells #[.int .i64 N0, .int .i64 N1, .int .i64 N2, .int .i64 N3] 22)).alloc (.cells #[.int .i64 N0, .int .i64 N1, .int .i64 N2, .int .i64 N3] 22)).drew := ⟨_, rfl⟩
        rw [← hw2] at hA0 hA1 hXA hBA ⊢
        have Hg6 := Aside0.mk (show w2.heap[g6]? = some (.cells #[.int .i64 N0, .int .i64 N1, .int .i64 N2, .int .i64 N3] 22) by rw [hg6]; first | exact hA0 | exact hA1)
        have Hg7 := Aside0.mk (show w2.heap[g7]? = some (.cells #[.int .i64 N0, .int .i64 N1, .int .i64 N2, .int .i64 N3] 22) by rw [hg7]; first | exact hA0 | exact hA1)
        have HXW := Aside0.mk hXA
        have HBW := Aside0.mk hBA
        have HNE := Aside0.mk (show g6 ≠ g7 ∧ g7 ≠ g6 ∧ x0 ≠ g6 ∧ x0 ≠ g7 ∧ w.heap.size ≤ g6 ∧ w.heap.size ≤ g7 by omega)
        clear hA0 hA1 hXA hBA hxl hwl hg6 hg7 hw2 HX HB
        rcases hkc with rfl | rfl | rfl | rfl
        · skip
          have h6c : w2.cell? ⟨g6, 0, none⟩ = some (.int .i64 N0) := blk_cell Hg6.out 0; have h6f := blk_frozen Hg6.out 0; obtain ⟨hr0, hr1, hr2, hr3⟩ := HR.out; go_wp2_with fail; have H6 := Aside0.mk (show (w2.setCell ⟨g6, 0, none⟩ (.int .i64 (N0 + 1))).heap[g6]? = some (.cells #[.int .i64 (N0 + 1), .int .i64 N1, .int .i64 N2, .int .i64 N3] 22 (0, 0)) from blk_put Hg6.out 0 _ rfl); have H7 := Aside0.mk (show (w2.setCell ⟨g6, 0, none⟩ (.int .i64 (N0 + 1))).heap[g7]? = some (.cells (tAt N0 N1 N2 N3 0) 22 (0, 0)) from ((Put1.set g6 0 w2 _).block g7 HNE.out.2.1).trans Hg7.out); have HX3 := Aside0.mk (show (w2.setCell ⟨g6, 0, none⟩ (.int .i64 (N0 + 1))).heap[x0]? = some (.cells #[.int .i64 N0, .int .i64 N1, .int .i64 N2, .int .i64 N3] 22) from ((Put1.set g6 0 w2 _).block x0 HNE.out.2.2.1).trans HXW.out); have HB3 := Aside0.mk (show Below w.heap.size w (w2.setCell ⟨g6, 0, none⟩ (.int .i64 (N0 + 1))) from HBW.out.trans ((Put1.set g6 0 w2 _).below HNE.out.2.2.2.2.1)); obtain ⟨w3, hw3⟩ : ∃ w3, w3 = w2.setCell ⟨g6, 0, none⟩ (.int .i64 (N0 + 1)) := ⟨_, rfl⟩; rw [← hw3] at H6 H7 HX3 HB3 ⊢; clear hw3 h6c h6f Hg6 Hg7 HXW HBW hk hr0 hr1 hr2 hr3; go_loopw [8] (fun v8 wq => ∃ v : Nat, v8 = .int .i64 (v : Int) ∧ v ≤ 4 ∧ Aside0 (wq.heap[x0]? = some (.cells #[.int .i64 N0, .int .i64 N1, .int .i64 N2, .int .i64 N3] 22)) ∧ Aside0 (wq.heap[g6]? = some (.cells #[.int .i64 (N0 + 1), .int .i64 N1, .int .i64 N2, .int .i64 N3] 22 (0, 0))) ∧ Aside0 (wq.heap[g7]? = some (.cells (tAt N0 N1 N2 N3 v) 22 (0, 0))) ∧ Aside0 (Below w.heap.size w wq)) (fun v8 _ => 4 - (intOf v8).toNat)
          case atStart => exact ⟨0, by simp, by omega, HX3, H6, H7, HB3⟩
          case round =>
            clear HX3 H6 H7 HB3
            obtain ⟨v, rfl, hv, HX, H6, H7, HB⟩ := hrel
            have hc : v = 0 ∨ v = 1 ∨ v = 2 ∨ v = 3 ∨ v = 4 := by omega
            rcases hc with rfl | rfl | rfl | rfl | rfl
            · skip
              have hc : wr.cell? ⟨x0, 0, none⟩ = some (.int .i64 N0) := blk_cell HX.out 0; have hc7 : wr.cell? ⟨g7, 0, none⟩ = some (.int .i64 N0) := blk_cell H7.out 0; have hfz := blk_frozen H7.out 0; have hr := HR.out.1; go_wp2_with fail; have H7b := Aside0.mk (show (wr.setCell ⟨g7, 0, none⟩ (.int .i64 (2 * N0))).heap[g7]? = some (.cells (tAt N0 N1 N2 N3 (0 + 1)) 22 (0, 0)) from blk_put H7.out 0 _ rfl); have H6b := Aside0.mk (((Put1.set g7 0 wr (.int .i64 (2 * N0))).block g6 HNE.out.1).trans H6.out); have HXb := Aside0.mk (((Put1.set g7 0 wr (.int .i64 (2 * N0))).block x0 HNE.out.2.2.2.1).trans HX.out); have HBb := Aside0.mk (HB.out.trans ((Put1.set g7 0 wr (.int .i64 (2 * N0))).below HNE.out.2.2.2.2.2)); clear hc hc7 hfz hr HX H6 H7 HB; go_roundw
              case rel => exact ⟨0 + 1, by simp, by omega, HXb, H6b, H7b, HBb⟩
              case measure => simp [intOf]
            · skip
              have hc : wr.cell? ⟨x0, 1, none⟩ = some (.int .i64 N1) := blk_cell HX.out 1; have hc7 : wr.cell? ⟨g7, 1, none⟩ = some (.int .i64 N1) := blk_cell H7.out 1; have hfz := blk_frozen H7.out 1; have hr := HR.out.2.1; go_wp2_with fail; have H7b := Aside0.mk (show (wr.setCell ⟨g7, 1, none⟩ (.int .i64 (2 * N1))).heap[g7]? = some (.cells (tAt N0 N1 N2 N3 (1 + 1)) 22 (0, 0)) from blk_put H7.out 1 _ rfl); have H6b := Aside0.mk (((Put1.set g7 1 wr (.int .i64 (2 * N1))).block g6 HNE.out.1).trans H6.out); have HXb := Aside0.mk (((Put1.set g7 1 wr (.int .i64 (2 * N1))).block x0 HNE.out.2.2.2.1).trans HX.out); have HBb := Aside0.mk (HB.out.trans ((Put1.set g7 1 wr (.int .i64 (2 * N1))).below HNE.out.2.2.2.2.2)); clear hc hc7 hfz hr HX H6 H7 HB; go_roundw
              case rel => exact ⟨1 + 1, by simp, by omega, HXb, H6b, H7b, HBb⟩
              case measure => simp [intOf]
            · skip
              have hc : wr.cell? ⟨x0, 2, none⟩ = some (.int .i64 N2) := blk_cell HX.out 2; have hc7 : wr.cell? ⟨g7, 2, none⟩ = some (.int .i64 N2) := blk_cell H7.out 2; have hfz := blk_frozen H7.out 2; have hr := HR.out.2.2.1; go_wp2_with fail; have H7b := Aside0.mk (show (wr.setCell ⟨g7, 2, none⟩ (.int .i64 (2 * N2))).heap[g7]? = some (.cells (tAt N0 N1 N2 N3 (2 + 1)) 22 (0, 0)) from blk_put H7.out 2 _ rfl); have H6b := Aside0.mk (((Put1.set g7 2 wr (.int .i64 (2 * N2))).block g6 HNE.out.1).trans H6.out); have HXb := Aside0.mk (((Put1.set g7 2 wr (.int .i64 (2 * N2))).block x0 HNE.out.2.2.2.1).trans HX.out); have HBb := Aside0.mk (HB.out.trans ((Put1.set g7 2 wr (.int .i64 (2 * N2))).below HNE.out.2.2.2.2.2)); clear hc hc7 hfz hr HX H6 H7 HB; go_roundw
              case rel => exact ⟨2 + 1, by simp, by omega, HXb, H6b, H7b, HBb⟩
              case measure => simp [intOf]
            · skip
              have hc : wr.cell? ⟨x0, 3, none⟩ = some (.int .i64 N3) := blk_cell HX.out 3; have hc7 : wr.cell? ⟨g7, 3, none⟩ = some (.int .i64 N3) := blk_cell H7.out 3; have hfz := blk_frozen H7.out 3; have hr := HR.out.2.2.2; go_wp2_with fail; have H7b := Aside0.mk (show (wr.setCell ⟨g7, 3, none⟩ (.int .i64 (2 * N3))).heap[g7]? = some (.cells (tAt N0 N1 N2 N3 (3 + 1)) 22 (0, 0)) from blk_put H7.out 3 _ rfl); have H6b := Aside0.mk (((Put1.set g7 3 wr (.int .i64 (2 * N3))).block g6 HNE.out.1).trans H6.out); have HXb := Aside0.mk (((Put1.set g7 3 wr (.int .i64 (2 * N3))).block x0 HNE.out.2.2.2.1).trans HX.out); have HBb := Aside0.mk (HB.out.trans ((Put1.set g7 3 wr (.int .i64 (2 * N3))).below HNE.out.2.2.2.2.2)); clear hc hc7 hfz hr HX H6 H7 HB; go_roundw
              case rel => exact ⟨3 + 1, by simp, by omega, HXb, H6b, H7b, HBb⟩
              case measure => simp [intOf]
            · skip
              have H7 : Aside0 (wr.heap[g7]? = some (.cells #[.int .i64 (2 * N0), .int .i64 (2 * N1), .int .i64 (2 * N2), .int .i64 (2 * N3)] 22 (0, 0))) := H7; have hlb : decide (((4 : Nat) : Int) < 4) = false := by decide
              have hc0 := blk_cell HX.out 0; have hc1 := blk_cell HX.out 1; have hc2 := blk_cell HX.out 2; have hc3 := blk_cell HX.out 3
              have HA := Aside0.mk (dleast_calls N0 N1 N2 N3 (TP_of HT.out HB.out) (by have := HR.out; unfold wok; simp only [Bool.and_eq_true, inW_iff]; omega))
              go_wp2_with (first
                | (go_at_call 18; refine Aside0.out ?_)
                | fail)
              refine Aside0.mk ?_; refine HA.out.mono ?_; rintro e wa ⟨n, rfl, hl, hb⟩
              have hn : n ≤ 196 := by
                obtain ⟨t, x, hw, hx⟩ := some_way (wOf N0 N1 N2 N3) (fun v hv => by have := HR.out; rcases (show v = 0 ∨ v = 1 ∨ v = 2 ∨ v = 3 by omega) with rfl | rfl | rfl | rfl <;> simp only [wOf] <;> omega)
                have := hl.2 t x hw
                omega
              have HL := Aside0.mk hl; have HN := Aside0.mk hn; have H6a := Aside0.mk ((hb.block g6 (blk_lt H6.out)).trans H6.out); have H7a := Aside0.mk ((hb.block g7 (blk_lt H7.out)).trans H7.out); have HBa := Aside0.mk (below_step HB.out hb); have HA2 := Aside0.mk (dleast_calls (N0 + 1) N1 N2 N3 (TP_of HT.out HBa.out) (by have := HR.out; unfold wok; simp only [Bool.and_eq_true, inW_iff]; omega)); clear hl hb hn HX H6 H7 HB HA hc0 hc1 hc2 hc3
              have hc0 := blk_cell H6a.out 0; have hc1 := blk_cell H6a.out 1; have hc2 := blk_cell H6a.out 2; have hc3 := blk_cell H6a.out 3
              go_wp2_with (first
                | (go_at_call 18; refine Aside0.out ?_)
                | fail)
              refine Aside0.mk ?_; refine HA2.out.mono ?_; rintro e wb ⟨n', rfl, hl, hb⟩; have hge : n ≤ n' := least_grow (fun v hv => by rcases (show v = 0 ∨ v = 1 ∨ v = 2 ∨ v = 3 by omega) with rfl | rfl | rfl | rfl <;> simp only [wOf] <;> omega) HL.out hl; have HGE := Aside0.mk hge; have H7b := Aside0.mk ((hb.block g7 (blk_lt H7a.out)).trans H7a.out); have HBb := Aside0.mk (below_step HBa.out hb); have HA3 := Aside0.mk (dleast_calls (2 * N0) (2 * N1) (2 * N2) (2 * N3) (TP_of HT.out HBb.out) (by have := HR.out; unfold wok; simp only [Bool.and_eq_true, inW_iff]; omega)); clear hl hb hge H6a H7a HBa HA2 hc0 hc1 hc2 hc3
              have hc0 := blk_cell H7b.out 0; have hc1 := blk_cell H7b.out 1; have hc2 := blk_cell H7b.out 2; have hc3 := blk_cell H7b.out 3
              go_wp2_with (first
                | (go_at_call 18; refine Aside0.out ?_)
                | fail)
              refine Aside0.mk ?_; refine HA3.out.mono ?_; rintro e wc ⟨n'', rfl, hl, hb⟩; have htw : n'' = 2 * n := IsLeast.same hl (least_two (fun v hv => by rcases (show v = 0 ∨ v = 1 ∨ v = 2 ∨ v = 3 by omega) with rfl | rfl | rfl | rfl <;> rfl) HL.out); subst htw; have HBc := Aside0.mk (below_step HBb.out hb); have HAP := Aside0.mk (apart_calls (TP_of HT.out HBc.out)); clear hl hb H7b HBb HA3 HL HR hc0 hc1 hc2 hc3
              go_wp2_with (first
                | (go_at_call 19; refine Aside0.out ?_)
                | fail)
              refine Aside0.mk ?_; refine HAP.out.mono ?_; rintro e wd ⟨rfl, hb⟩; have HBd := Aside0.mk (below_step HBc.out hb); clear hb HAP HBc; obtain ⟨z, hz⟩ : ∃ z : Int, z = (n : Int) := ⟨_, rfl⟩; obtain ⟨y, hy⟩ : ∃ y : Int, y = (n' : Int) := ⟨_, rfl⟩; have hzb : 0 ≤ z ∧ z ≤ 196 := by have := HN.out; omega
              have hzy : z ≤ y := by have := HGE.out; omega
              have hge1 : decide (y ≥ z) = true := decide_eq_true hzy; have hge2 : decide (z ≤ y) = true := decide_eq_true hzy; (try rw [show ((2 * n : Nat) : Int) = 2 * (n : Int) by omega]); rw [← hz, ← hy]; clear hz hy HN HGE; go_wp2_with fail; have hrs : (Tryd.f8).results = #[.tmp 4] := by kernel_rfl
              refine bodyPost_ret (results_tmp hrs _ _ _) rfl ?_; exact ⟨by simp, HBd.out⟩
        · skip
          have h6c : w2.cell? ⟨g6, 1, none⟩ = some (.int .i64 N1) := blk_cell Hg6.out 1; have h6f := blk_frozen Hg6.out 1; obtain ⟨hr0, hr1, hr2, hr3⟩ := HR.out; go_wp2_with fail; have H6 := Aside0.mk (show (w2.setCell ⟨g6, 1, none⟩ (.int .i64 (N1 + 1))).heap[g6]? = some (.cells #[.int .i64 N0, .int .i64 (N1 + 1), .int .i64 N2, .int .i64 N3] 22 (0, 0)) from blk_put Hg6.out 1 _ rfl); have H7 := Aside0.mk (show (w2.setCell ⟨g6, 1, none⟩ (.int .i64 (N1 + 1))).heap[g7]? = some (.cells (tAt N0 N1 N2 N3 0) 22 (0, 0)) from ((Put1.set g6 1 w2 _).block g7 HNE.out.2.1).trans Hg7.out); have HX3 := Aside0.mk (show (w2.setCell ⟨g6, 1, none⟩ (.int .i64 (N1 + 1))).heap[x0]? = some (.cells #[.int .i64 N0, .int .i64 N1, .int .i64 N2, .int .i64 N3] 22) from ((Put1.set g6 1 w2 _).block x0 HNE.out.2.2.1).trans HXW.out); have HB3 := Aside0.mk (show Below w.heap.size w (w2.setCell ⟨g6, 1, none⟩ (.int .i64 (N1 + 1))) from HBW.out.trans ((Put1.set g6 1 w2 _).below HNE.out.2.2.2.2.1)); obtain ⟨w3, hw3⟩ : ∃ w3, w3 = w2.setCell ⟨g6, 1, none⟩ (.int .i64 (N1 + 1)) := ⟨_, rfl⟩; rw [← hw3] at H6 H7 HX3 HB3 ⊢; clear hw3 h6c h6f Hg6 Hg7 HXW HBW hk hr0 hr1 hr2 hr3; go_loopw [8] (fun v8 wq => ∃ v : Nat, v8 = .int .i64 (v : Int) ∧ v ≤ 4 ∧ Aside0 (wq.heap[x0]? = some (.cells #[.int .i64 N0, .int .i64 N1, .int .i64 N2, .int .i64 N3] 22)) ∧ Aside0 (wq.heap[g6]? = some (.cells #[.int .i64 N0, .int .i64 (N1 + 1), .int .i64 N2, .int .i64 N3] 22 (0, 0))) ∧ Aside0 (wq.heap[g7]? = some (.cells (tAt N0 N1 N2 N3 v) 22 (0, 0))) ∧ Aside0 (Below w.heap.size w wq)) (fun v8 _ => 4 - (intOf v8).toNat)
          case atStart => exact ⟨0, by simp, by omega, HX3, H6, H7, HB3⟩
          case round =>
            clear HX3 H6 H7 HB3
            obtain ⟨v, rfl, hv, HX, H6, H7, HB⟩ := hrel
            have hc : v = 0 ∨ v = 1 ∨ v = 2 ∨ v = 3 ∨ v = 4 := by omega
            rcases hc with rfl | rfl | rfl | rfl | rfl
            · skip
              have hc : wr.cell? ⟨x0, 0, none⟩ = some (.int .i64 N0) := blk_cell HX.out 0; have hc7 : wr.cell? ⟨g7, 0, none⟩ = some (.int .i64 N0) := blk_cell H7.out 0; have hfz := blk_frozen H7.out 0; have hr := HR.out.1; go_wp2_with fail; have H7b := Aside0.mk (show (wr.setCell ⟨g7, 0, none⟩ (.int .i64 (2 * N0))).heap[g7]? = some (.cells (tAt N0 N1 N2 N3 (0 + 1)) 22 (0, 0)) from blk_put H7.out 0 _ rfl); have H6b := Aside0.mk (((Put1.set g7 0 wr (.int .i64 (2 * N0))).block g6 HNE.out.1).trans H6.out); have HXb := Aside0.mk (((Put1.set g7 0 wr (.int .i64 (2 * N0))).block x0 HNE.out.2.2.2.1).trans HX.out); have HBb := Aside0.mk (HB.out.trans ((Put1.set g7 0 wr (.int .i64 (2 * N0))).below HNE.out.2.2.2.2.2)); clear hc hc7 hfz hr HX H6 H7 HB; go_roundw
              case rel => exact ⟨0 + 1, by simp, by omega, HXb, H6b, H7b, HBb⟩
              case measure => simp [intOf]
            · skip
              have hc : wr.cell? ⟨x0, 1, none⟩ = some (.int .i64 N1) := blk_cell HX.out 1; have hc7 : wr.cell? ⟨g7, 1, none⟩ = some (.int .i64 N1) := blk_cell H7.out 1; have hfz := blk_frozen H7.out 1; have hr := HR.out.2.1; go_wp2_with fail; have H7b := Aside0.mk (show (wr.setCell ⟨g7, 1, none⟩ (.int .i64 (2 * N1))).heap[g7]? = some (.cells (tAt N0 N1 N2 N3 (1 + 1)) 22 (0, 0)) from blk_put H7.out 1 _ rfl); have H6b := Aside0.mk (((Put1.set g7 1 wr (.int .i64 (2 * N1))).block g6 HNE.out.1).trans H6.out); have HXb := Aside0.mk (((Put1.set g7 1 wr (.int .i64 (2 * N1))).block x0 HNE.out.2.2.2.1).trans HX.out); have HBb := Aside0.mk (HB.out.trans ((Put1.set g7 1 wr (.int .i64 (2 * N1))).below HNE.out.2.2.2.2.2)); clear hc hc7 hfz hr HX H6 H7 HB; go_roundw
              case rel => exact ⟨1 + 1, by simp, by omega, HXb, H6b, H7b, HBb⟩
              case measure => simp [intOf]
            · skip
              have hc : wr.cell? ⟨x0, 2, none⟩ = some (.int .i64 N2) := blk_cell HX.out 2; have hc7 : wr.cell? ⟨g7, 2, none⟩ = some (.int .i64 N2) := blk_cell H7.out 2; have hfz := blk_frozen H7.out 2; have hr := HR.out.2.2.1; go_wp2_with fail; have H7b := Aside0.mk (show (wr.setCell ⟨g7, 2, none⟩ (.int .i64 (2 * N2))).heap[g7]? = some (.cells (tAt N0 N1 N2 N3 (2 + 1)) 22 (0, 0)) from blk_put H7.out 2 _ rfl); have H6b := Aside0.mk (((Put1.set g7 2 wr (.int .i64 (2 * N2))).block g6 HNE.out.1).trans H6.out); have HXb := Aside0.mk (((Put1.set g7 2 wr (.int .i64 (2 * N2))).block x0 HNE.out.2.2.2.1).trans HX.out); have HBb := Aside0.mk (HB.out.trans ((Put1.set g7 2 wr (.int .i64 (2 * N2))).below HNE.out.2.2.2.2.2)); clear hc hc7 hfz hr HX H6 H7 HB; go_roundw
              case rel => exact ⟨2 + 1, by simp, by omega, HXb, H6b, H7b, HBb⟩
              case measure => simp [intOf]
            · skip
              have hc : wr.cell? ⟨x0, 3, none⟩ = some (.int .i64 N3) := blk_cell HX.out 3; have hc7 : wr.cell? ⟨g7, 3, none⟩ = some (.int .i64 N3) := blk_cell H7.out 3; have hfz := blk_frozen H7.out 3; have hr := HR.out.2.2.2; go_wp2_with fail; have H7b := Aside0.mk (show (wr.setCell ⟨g7, 3, none⟩ (.int .i64 (2 * N3))).heap[g7]? = some (.cells (tAt N0 N1 N2 N3 (3 + 1)) 22 (0, 0)) from blk_put H7.out 3 _ rfl); have H6b := Aside0.mk (((Put1.set g7 3 wr (.int .i64 (2 * N3))).block g6 HNE.out.1).trans H6.out); have HXb := Aside0.mk (((Put1.set g7 3 wr (.int .i64 (2 * N3))).block x0 HNE.out.2.2.2.1).trans HX.out); have HBb := Aside0.mk (HB.out.trans ((Put1.set g7 3 wr (.int .i64 (2 * N3))).below HNE.out.2.2.2.2.2)); clear hc hc7 hfz hr HX H6 H7 HB; go_roundw
              case rel => exact ⟨3 + 1, by simp, by omega, HXb, H6b, H7b, HBb⟩
              case measure => simp [intOf]
            · skip
              have H7 : Aside0 (wr.heap[g7]? = some (.cells #[.int .i64 (2 * N0), .int .i64 (2 * N1), .int .i64 (2 * N2), .int .i64 (2 * N3)] 22 (0, 0))) := H7; have hlb : decide (((4 : Nat) : Int) < 4) = false := by decide
              have hc0 := blk_cell HX.out 0; have hc1 := blk_cell HX.out 1; have hc2 := blk_cell HX.out 2; have hc3 := blk_cell HX.out 3
              have HA := Aside0.mk (dleast_calls N0 N1 N2 N3 (TP_of HT.out HB.out) (by have := HR.out; unfold wok; simp only [Bool.and_eq_true, inW_iff]; omega))
              go_wp2_with (first
                | (go_at_call 18; refine Aside0.out ?_)
                | fail)
              refine Aside0.mk ?_; refine HA.out.mono ?_; rintro e wa ⟨n, rfl, hl, hb⟩
              have hn : n ≤ 196 := by
                obtain ⟨t, x, hw, hx⟩ := some_way (wOf N0 N1 N2 N3) (fun v hv => by have := HR.out; rcases (show v = 0 ∨ v = 1 ∨ v = 2 ∨ v = 3 by omega) with rfl | rfl | rfl | rfl <;> simp only [wOf] <;> omega)
                have := hl.2 t x hw
                omega
              have HL := Aside0.mk hl; have HN := Aside0.mk hn; have H6a := Aside0.mk ((hb.block g6 (blk_lt H6.out)).trans H6.out); have H7a := Aside0.mk ((hb.block g7 (blk_lt H7.out)).trans H7.out); have HBa := Aside0.mk (below_step HB.out hb); have HA2 := Aside0.mk (dleast_calls N0 (N1 + 1) N2 N3 (TP_of HT.out HBa.out) (by have := HR.out; unfold wok; simp only [Bool.and_eq_true, inW_iff]; omega)); clear hl hb hn HX H6 H7 HB HA hc0 hc1 hc2 hc3
              have hc0 := blk_cell H6a.out 0; have hc1 := blk_cell H6a.out 1; have hc2 := blk_cell H6a.out 2; have hc3 := blk_cell H6a.out 3
              go_wp2_with (first
                | (go_at_call 18; refine Aside0.out ?_)
                | fail)
              refine Aside0.mk ?_; refine HA2.out.mono ?_; rintro e wb ⟨n', rfl, hl, hb⟩; have hge : n ≤ n' := least_grow (fun v hv => by rcases (show v = 0 ∨ v = 1 ∨ v = 2 ∨ v = 3 by omega) with rfl | rfl | rfl | rfl <;> simp only [wOf] <;> omega) HL.out hl; have HGE := Aside0.mk hge; have H7b := Aside0.mk ((hb.block g7 (blk_lt H7a.out)).trans H7a.out); have HBb := Aside0.mk (below_step HBa.out hb); have HA3 := Aside0.mk (dleast_calls (2 * N0) (2 * N1) (2 * N2) (2 * N3) (TP_of HT.out HBb.out) (by have := HR.out; unfold wok; simp only [Bool.and_eq_true, inW_iff]; omega)); clear hl hb hge H6a H7a HBa HA2 hc0 hc1 hc2 hc3
              have hc0 := blk_cell H7b.out 0; have hc1 := blk_cell H7b.out 1; have hc2 := blk_cell H7b.out 2; have hc3 := blk_cell H7b.out 3
              go_wp2_with (first
                | (go_at_call 18; refine Aside0.out ?_)
                | fail)
              refine Aside0.mk ?_; refine HA3.out.mono ?_; rintro e wc ⟨n'', rfl, hl, hb⟩; have htw : n'' = 2 * n := IsLeast.same hl (least_two (fun v hv => by rcases (show v = 0 ∨ v = 1 ∨ v = 2 ∨ v = 3 by omega) with rfl | rfl | rfl | rfl <;> rfl) HL.out); subst htw; have HBc := Aside0.mk (below_step HBb.out hb); have HAP := Aside0.mk (apart_calls (TP_of HT.out HBc.out)); clear hl hb H7b HBb HA3 HL HR hc0 hc1 hc2 hc3
              go_wp2_with (first
                | (go_at_call 19; refine Aside0.out ?_)
                | fail)
              refine Aside0.mk ?_; refine HAP.out.mono ?_; rintro e wd ⟨rfl, hb⟩; have HBd := Aside0.mk (below_step HBc.out hb); clear hb HAP HBc; obtain ⟨z, hz⟩ : ∃ z : Int, z = (n : Int) := ⟨_, rfl⟩; obtain ⟨y, hy⟩ : ∃ y : Int, y = (n' : Int) := ⟨_, rfl⟩; have hzb : 0 ≤ z ∧ z ≤ 196 := by have := HN.out; omega
              have hzy : z ≤ y := by have := HGE.out; omega
              have hge1 : decide (y ≥ z) = true := decide_eq_true hzy; have hge2 : decide (z ≤ y) = true := decide_eq_true hzy; (try rw [show ((2 * n : Nat) : Int) = 2 * (n : Int) by omega]); rw [← hz, ← hy]; clear hz hy HN HGE; go_wp2_with fail; have hrs : (Tryd.f8).results = #[.tmp 4] := by kernel_rfl
              refine bodyPost_ret (results_tmp hrs _ _ _) rfl ?_; exact ⟨by simp, HBd.out⟩
        · skip
          have h6c : w2.cell? ⟨g6, 2, none⟩ = some (.int .i64 N2) := blk_cell Hg6.out 2; have h6f := blk_frozen Hg6.out 2; obtain ⟨hr0, hr1, hr2, hr3⟩ := HR.out; go_wp2_with fail; have H6 := Aside0.mk (show (w2.setCell ⟨g6, 2, none⟩ (.int .i64 (N2 + 1))).heap[g6]? = some (.cells #[.int .i64 N0, .int .i64 N1, .int .i64 (N2 + 1), .int .i64 N3] 22 (0, 0)) from blk_put Hg6.out 2 _ rfl); have H7 := Aside0.mk (show (w2.setCell ⟨g6, 2, none⟩ (.int .i64 (N2 + 1))).heap[g7]? = some (.cells (tAt N0 N1 N2 N3 0) 22 (0, 0)) from ((Put1.set g6 2 w2 _).block g7 HNE.out.2.1).trans Hg7.out); have HX3 := Aside0.mk (show (w2.setCell ⟨g6, 2, none⟩ (.int .i64 (N2 + 1))).heap[x0]? = some (.cells #[.int .i64 N0, .int .i64 N1, .int .i64 N2, .int .i64 N3] 22) from ((Put1.set g6 2 w2 _).block x0 HNE.out.2.2.1).trans HXW.out); have HB3 := Aside0.mk (show Below w.heap.size w (w2.setCell ⟨g6, 2, none⟩ (.int .i64 (N2 + 1))) from HBW.out.trans ((Put1.set g6 2 w2 _).below HNE.out.2.2.2.2.1)); obtain ⟨w3, hw3⟩ : ∃ w3, w3 = w2.setCell ⟨g6, 2, none⟩ (.int .i64 (N2 + 1)) := ⟨_, rfl⟩; rw [← hw3] at H6 H7 HX3 HB3 ⊢; clear hw3 h6c h6f Hg6 Hg7 HXW HBW hk hr0 hr1 hr2 hr3; go_loopw [8] (fun v8 wq => ∃ v : Nat, v8 = .int .i64 (v : Int) ∧ v ≤ 4 ∧ Aside0 (wq.heap[x0]? = some (.cells #[.int .i64 N0, .int .i64 N1, .int .i64 N2, .int .i64 N3] 22)) ∧ Aside0 (wq.heap[g6]? = some (.cells #[.int .i64 N0, .int .i64 N1, .int .i64 (N2 + 1), .int .i64 N3] 22 (0, 0))) ∧ Aside0 (wq.heap[g7]? = some (.cells (tAt N0 N1 N2 N3 v) 22 (0, 0))) ∧ Aside0 (Below w.heap.size w wq)) (fun v8 _ => 4 - (intOf v8).toNat)
          case atStart => exact ⟨0, by simp, by omega, HX3, H6, H7, HB3⟩
          case round =>
            clear HX3 H6 H7 HB3
            obtain ⟨v, rfl, hv, HX, H6, H7, HB⟩ := hrel
            have hc : v = 0 ∨ v = 1 ∨ v = 2 ∨ v = 3 ∨ v = 4 := by omega
            rcases hc with rfl | rfl | rfl | rfl | rfl
            · skip
              have hc : wr.cell? ⟨x0, 0, none⟩ = some (.int .i64 N0) := blk_cell HX.out 0; have hc7 : wr.cell? ⟨g7, 0, none⟩ = some (.int .i64 N0) := blk_cell H7.out 0; have hfz := blk_frozen H7.out 0; have hr := HR.out.1; go_wp2_with fail; have H7b := Aside0.mk (show (wr.setCell ⟨g7, 0, none⟩ (.int .i64 (2 * N0))).heap[g7]? = some (.cells (tAt N0 N1 N2 N3 (0 + 1)) 22 (0, 0)) from blk_put H7.out 0 _ rfl); have H6b := Aside0.mk (((Put1.set g7 0 wr (.int .i64 (2 * N0))).block g6 HNE.out.1).trans H6.out); have HXb := Aside0.mk (((Put1.set g7 0 wr (.int .i64 (2 * N0))).block x0 HNE.out.2.2.2.1).trans HX.out); have HBb := Aside0.mk (HB.out.trans ((Put1.set g7 0 wr (.int .i64 (2 * N0))).below HNE.out.2.2.2.2.2)); clear hc hc7 hfz hr HX H6 H7 HB; go_roundw
              case rel => exact ⟨0 + 1, by simp, by omega, HXb, H6b, H7b, HBb⟩
              case measure => simp [intOf]
            · skip
              have hc : wr.cell? ⟨x0, 1, none⟩ = some (.int .i64 N1) := blk_cell HX.out 1; have hc7 : wr.cell? ⟨g7, 1, none⟩ = some (.int .i64 N1) := blk_cell H7.out 1; have hfz := blk_frozen H7.out 1; have hr := HR.out.2.1; go_wp2_with fail; have H7b := Aside0.mk (show (wr.setCell ⟨g7, 1, none⟩ (.int .i64 (2 * N1))).heap[g7]? = some (.cells (tAt N0 N1 N2 N3 (1 + 1)) 22 (0, 0)) from blk_put H7.out 1 _ rfl); have H6b := Aside0.mk (((Put1.set g7 1 wr (.int .i64 (2 * N1))).block g6 HNE.out.1).trans H6.out); have HXb := Aside0.mk (((Put1.set g7 1 wr (.int .i64 (2 * N1))).block x0 HNE.out.2.2.2.1).trans HX.out); have HBb := Aside0.mk (HB.out.trans ((Put1.set g7 1 wr (.int .i64 (2 * N1))).below HNE.out.2.2.2.2.2)); clear hc hc7 hfz hr HX H6 H7 HB; go_roundw
              case rel => exact ⟨1 + 1, by simp, by omega, HXb, H6b, H7b, HBb⟩
              case measure => simp [intOf]
            · skip
              have hc : wr.cell? ⟨x0, 2, none⟩ = some (.int .i64 N2) := blk_cell HX.out 2; have hc7 : wr.cell? ⟨g7, 2, none⟩ = some (.int .i64 N2) := blk_cell H7.out 2; have hfz := blk_frozen H7.out 2; have hr := HR.out.2.2.1; go_wp2_with fail; have H7b := Aside0.mk (show (wr.setCell ⟨g7, 2, none⟩ (.int .i64 (2 * N2))).heap[g7]? = some (.cells (tAt N0 N1 N2 N3 (2 + 1)) 22 (0, 0)) from blk_put H7.out 2 _ rfl); have H6b := Aside0.mk (((Put1.set g7 2 wr (.int .i64 (2 * N2))).block g6 HNE.out.1).trans H6.out); have HXb := Aside0.mk (((Put1.set g7 2 wr (.int .i64 (2 * N2))).block x0 HNE.out.2.2.2.1).trans HX.out); have HBb := Aside0.mk (HB.out.trans ((Put1.set g7 2 wr (.int .i64 (2 * N2))).below HNE.out.2.2.2.2.2)); clear hc hc7 hfz hr HX H6 H7 HB; go_roundw
              case rel => exact ⟨2 + 1, by simp, by omega, HXb, H6b, H7b, HBb⟩
              case measure => simp [intOf]
            · skip
              have hc : wr.cell? ⟨x0, 3, none⟩ = some (.int .i64 N3) := blk_cell HX.out 3; have hc7 : wr.cell? ⟨g7, 3, none⟩ = some (.int .i64 N3) := blk_cell H7.out 3; have hfz := blk_frozen H7.out 3; have hr := HR.out.2.2.2; go_wp2_with fail; have H7b := Aside0.mk (show (wr.setCell ⟨g7, 3, none⟩ (.int .i64 (2 * N3))).heap[g7]? = some (.cells (tAt N0 N1 N2 N3 (3 + 1)) 22 (0, 0)) from blk_put H7.out 3 _ rfl); have H6b := Aside0.mk (((Put1.set g7 3 wr (.int .i64 (2 * N3))).block g6 HNE.out.1).trans H6.out); have HXb := Aside0.mk (((Put1.set g7 3 wr (.int .i64 (2 * N3))).block x0 HNE.out.2.2.2.1).trans HX.out); have HBb := Aside0.mk (HB.out.trans ((Put1.set g7 3 wr (.int .i64 (2 * N3))).below HNE.out.2.2.2.2.2)); clear hc hc7 hfz hr HX H6 H7 HB; go_roundw
              case rel => exact ⟨3 + 1, by simp, by omega, HXb, H6b, H7b, HBb⟩
              case measure => simp [intOf]
            · skip
              have H7 : Aside0 (wr.heap[g7]? = some (.cells #[.int .i64 (2 * N0), .int .i64 (2 * N1), .int .i64 (2 * N2), .int .i64 (2 * N3)] 22 (0, 0))) := H7; have hlb : decide (((4 : Nat) : Int) < 4) = false := by decide
              have hc0 := blk_cell HX.out 0; have hc1 := blk_cell HX.out 1; have hc2 := blk_cell HX.out 2; have hc3 := blk_cell HX.out 3
              have HA := Aside0.mk (dleast_calls N0 N1 N2 N3 (TP_of HT.out HB.out) (by have := HR.out; unfold wok; simp only [Bool.and_eq_true, inW_iff]; omega))
              go_wp2_with (first
                | (go_at_call 18; refine Aside0.out ?_)
                | fail)
              refine Aside0.mk ?_; refine HA.out.mono ?_; rintro e wa ⟨n, rfl, hl, hb⟩
              have hn : n ≤ 196 := by
                obtain ⟨t, x, hw, hx⟩ := some_way (wOf N0 N1 N2 N3) (fun v hv => by have := HR.out; rcases (show v = 0 ∨ v = 1 ∨ v = 2 ∨ v = 3 by omega) with rfl | rfl | rfl | rfl <;> simp only [wOf] <;> omega)
                have := hl.2 t x hw
                omega
              have HL := Aside0.mk hl; have HN := Aside0.mk hn; have H6a := Aside0.mk ((hb.block g6 (blk_lt H6.out)).trans H6.out); have H7a := Aside0.mk ((hb.block g7 (blk_lt H7.out)).trans H7.out); have HBa := Aside0.mk (below_step HB.out hb); have HA2 := Aside0.mk (dleast_calls N0 N1 (N2 + 1) N3 (TP_of HT.out HBa.out) (by have := HR.out; unfold wok; simp only [Bool.and_eq_true, inW_iff]; omega)); clear hl hb hn HX H6 H7 HB HA hc0 hc1 hc2 hc3
              have hc0 := blk_cell H6a.out 0; have hc1 := blk_cell H6a.out 1; have hc2 := blk_cell H6a.out 2; have hc3 := blk_cell H6a.out 3
              go_wp2_with (first
                | (go_at_call 18; refine Aside0.out ?_)
                | fail)
              refine Aside0.mk ?_; refine HA2.out.mono ?_; rintro e wb ⟨n', rfl, hl, hb⟩; have hge : n ≤ n' := least_grow (fun v hv => by rcases (show v = 0 ∨ v = 1 ∨ v = 2 ∨ v = 3 by omega) with rfl | rfl | rfl | rfl <;> simp only [wOf] <;> omega) HL.out hl; have HGE := Aside0.mk hge; have H7b := Aside0.mk ((hb.block g7 (blk_lt H7a.out)).trans H7a.out); have HBb := Aside0.mk (below_step HBa.out hb); have HA3 := Aside0.mk (dleast_calls (2 * N0) (2 * N1) (2 * N2) (2 * N3) (TP_of HT.out HBb.out) (by have := HR.out; unfold wok; simp only [Bool.and_eq_true, inW_iff]; omega)); clear hl hb hge H6a H7a HBa HA2 hc0 hc1 hc2 hc3
              have hc0 := blk_cell H7b.out 0; have hc1 := blk_cell H7b.out 1; have hc2 := blk_cell H7b.out 2; have hc3 := blk_cell H7b.out 3
              go_wp2_with (first
                | (go_at_call 18; refine Aside0.out ?_)
                | fail)
              refine Aside0.mk ?_; refine HA3.out.mono ?_; rintro e wc ⟨n'', rfl, hl, hb⟩; have htw : n'' = 2 * n := IsLeast.same hl (least_two (fun v hv => by rcases (show v = 0 ∨ v = 1 ∨ v = 2 ∨ v = 3 by omega) with rfl | rfl | rfl | rfl <;> rfl) HL.out); subst htw; have HBc := Aside0.mk (below_step HBb.out hb); have HAP := Aside0.mk (apart_calls (TP_of HT.out HBc.out)); clear hl hb H7b HBb HA3 HL HR hc0 hc1 hc2 hc3
              go_wp2_with (first
                | (go_at_call 19; refine Aside0.out ?_)
                | fail)
              refine Aside0.mk ?_; refine HAP.out.mono ?_; rintro e wd ⟨rfl, hb⟩; have HBd := Aside0.mk (below_step HBc.out hb); clear hb HAP HBc; obtain ⟨z, hz⟩ : ∃ z : Int, z = (n : Int) := ⟨_, rfl⟩; obtain ⟨y, hy⟩ : ∃ y : Int, y = (n' : Int) := ⟨_, rfl⟩; have hzb : 0 ≤ z ∧ z ≤ 196 := by have := HN.out; omega
              have hzy : z ≤ y := by have := HGE.out; omega
              have hge1 : decide (y ≥ z) = true := decide_eq_true hzy; have hge2 : decide (z ≤ y) = true := decide_eq_true hzy; (try rw [show ((2 * n : Nat) : Int) = 2 * (n : Int) by omega]); rw [← hz, ← hy]; clear hz hy HN HGE; go_wp2_with fail; have hrs : (Tryd.f8).results = #[.tmp 4] := by kernel_rfl
              refine bodyPost_ret (results_tmp hrs _ _ _) rfl ?_; exact ⟨by simp, HBd.out⟩
        · skip
          have h6c : w2.cell? ⟨g6, 3, none⟩ = some (.int .i64 N3) := blk_cell Hg6.out 3; have h6f := blk_frozen Hg6.out 3; obtain ⟨hr0, hr1, hr2, hr3⟩ := HR.out; go_wp2_with fail; have H6 := Aside0.mk (show (w2.setCell ⟨g6, 3, none⟩ (.int .i64 (N3 + 1))).heap[g6]? = some (.cells #[.int .i64 N0, .int .i64 N1, .int .i64 N2, .int .i64 (N3 + 1)] 22 (0, 0)) from blk_put Hg6.out 3 _ rfl); have H7 := Aside0.mk (show (w2.setCell ⟨g6, 3, none⟩ (.int .i64 (N3 + 1))).heap[g7]? = some (.cells (tAt N0 N1 N2 N3 0) 22 (0, 0)) from ((Put1.set g6 3 w2 _).block g7 HNE.out.2.1).trans Hg7.out); have HX3 := Aside0.mk (show (w2.setCell ⟨g6, 3, none⟩ (.int .i64 (N3 + 1))).heap[x0]? = some (.cells #[.int .i64 N0, .int .i64 N1, .int .i64 N2, .int .i64 N3] 22) from ((Put1.set g6 3 w2 _).block x0 HNE.out.2.2.1).trans HXW.out); have HB3 := Aside0.mk (show Below w.heap.size w (w2.setCell ⟨g6, 3, none⟩ (.int .i64 (N3 + 1))) from HBW.out.trans ((Put1.set g6 3 w2 _).below HNE.out.2.2.2.2.1)); obtain ⟨w3, hw3⟩ : ∃ w3, w3 = w2.setCell ⟨g6, 3, none⟩ (.int .i64 (N3 + 1)) := ⟨_, rfl⟩; rw [← hw3] at H6 H7 HX3 HB3 ⊢; clear hw3 h6c h6f Hg6 Hg7 HXW HBW hk hr0 hr1 hr2 hr3; go_loopw [8] (fun v8 wq => ∃ v : Nat, v8 = .int .i64 (v : Int) ∧ v ≤ 4 ∧ Aside0 (wq.heap[x0]? = some (.cells #[.int .i64 N0, .int .i64 N1, .int .i64 N2, .int .i64 N3] 22)) ∧ Aside0 (wq.heap[g6]? = some (.cells #[.int .i64 N0, .int .i64 N1, .int .i64 N2, .int .i64 (N3 + 1)] 22 (0, 0))) ∧ Aside0 (wq.heap[g7]? = some (.cells (tAt N0 N1 N2 N3 v) 22 (0, 0))) ∧ Aside0 (Below w.heap.size w wq)) (fun v8 _ => 4 - (intOf v8).toNat)
          case atStart => exact ⟨0, by simp, by omega, HX3, H6, H7, HB3⟩
          case round =>
            clear HX3 H6 H7 HB3
            obtain ⟨v, rfl, hv, HX, H6, H7, HB⟩ := hrel
            have hc : v = 0 ∨ v = 1 ∨ v = 2 ∨ v = 3 ∨ v = 4 := by omega
            rcases hc with rfl | rfl | rfl | rfl | rfl
            · skip
              have hc : wr.cell? ⟨x0, 0, none⟩ = some (.int .i64 N0) := blk_cell HX.out 0; have hc7 : wr.cell? ⟨g7, 0, none⟩ = some (.int .i64 N0) := blk_cell H7.out 0; have hfz := blk_frozen H7.out 0; have hr := HR.out.1; go_wp2_with fail; have H7b := Aside0.mk (show (wr.setCell ⟨g7, 0, none⟩ (.int .i64 (2 * N0))).heap[g7]? = some (.cells (tAt N0 N1 N2 N3 (0 + 1)) 22 (0, 0)) from blk_put H7.out 0 _ rfl); have H6b := Aside0.mk (((Put1.set g7 0 wr (.int .i64 (2 * N0))).block g6 HNE.out.1).trans H6.out); have HXb := Aside0.mk (((Put1.set g7 0 wr (.int .i64 (2 * N0))).block x0 HNE.out.2.2.2.1).trans HX.out); have HBb := Aside0.mk (HB.out.trans ((Put1.set g7 0 wr (.int .i64 (2 * N0))).below HNE.out.2.2.2.2.2)); clear hc hc7 hfz hr HX H6 H7 HB; go_roundw
              case rel => exact ⟨0 + 1, by simp, by omega, HXb, H6b, H7b, HBb⟩
              case measure => simp [intOf]
            · skip
              have hc : wr.cell? ⟨x0, 1, none⟩ = some (.int .i64 N1) := blk_cell HX.out 1; have hc7 : wr.cell? ⟨g7, 1, none⟩ = some (.int .i64 N1) := blk_cell H7.out 1; have hfz := blk_frozen H7.out 1; have hr := HR.out.2.1; go_wp2_with fail; have H7b := Aside0.mk (show (wr.setCell ⟨g7, 1, none⟩ (.int .i64 (2 * N1))).heap[g7]? = some (.cells (tAt N0 N1 N2 N3 (1 + 1)) 22 (0, 0)) from blk_put H7.out 1 _ rfl); have H6b := Aside0.mk (((Put1.set g7 1 wr (.int .i64 (2 * N1))).block g6 HNE.out.1).trans H6.out); have HXb := Aside0.mk (((Put1.set g7 1 wr (.int .i64 (2 * N1))).block x0 HNE.out.2.2.2.1).trans HX.out); have HBb := Aside0.mk (HB.out.trans ((Put1.set g7 1 wr (.int .i64 (2 * N1))).below HNE.out.2.2.2.2.2)); clear hc hc7 hfz hr HX H6 H7 HB; go_roundw
              case rel => exact ⟨1 + 1, by simp, by omega, HXb, H6b, H7b, HBb⟩
              case measure => simp [intOf]
            · skip
              have hc : wr.cell? ⟨x0, 2, none⟩ = some (.int .i64 N2) := blk_cell HX.out 2; have hc7 : wr.cell? ⟨g7, 2, none⟩ = some (.int .i64 N2) := blk_cell H7.out 2; have hfz := blk_frozen H7.out 2; have hr := HR.out.2.2.1; go_wp2_with fail; have H7b := Aside0.mk (show (wr.setCell ⟨g7, 2, none⟩ (.int .i64 (2 * N2))).heap[g7]? = some (.cells (tAt N0 N1 N2 N3 (2 + 1)) 22 (0, 0)) from blk_put H7.out 2 _ rfl); have H6b := Aside0.mk (((Put1.set g7 2 wr (.int .i64 (2 * N2))).block g6 HNE.out.1).trans H6.out); have HXb := Aside0.mk (((Put1.set g7 2 wr (.int .i64 (2 * N2))).block x0 HNE.out.2.2.2.1).trans HX.out); have HBb := Aside0.mk (HB.out.trans ((Put1.set g7 2 wr (.int .i64 (2 * N2))).below HNE.out.2.2.2.2.2)); clear hc hc7 hfz hr HX H6 H7 HB; go_roundw
              case rel => exact ⟨2 + 1, by simp, by omega, HXb, H6b, H7b, HBb⟩
              case measure => simp [intOf]
            · skip
              have hc : wr.cell? ⟨x0, 3, none⟩ = some (.int .i64 N3) := blk_cell HX.out 3; have hc7 : wr.cell? ⟨g7, 3, none⟩ = some (.int .i64 N3) := blk_cell H7.out 3; have hfz := blk_frozen H7.out 3; have hr := HR.out.2.2.2; go_wp2_with fail; have H7b := Aside0.mk (show (wr.setCell ⟨g7, 3, none⟩ (.int .i64 (2 * N3))).heap[g7]? = some (.cells (tAt N0 N1 N2 N3 (3 + 1)) 22 (0, 0)) from blk_put H7.out 3 _ rfl); have H6b := Aside0.mk (((Put1.set g7 3 wr (.int .i64 (2 * N3))).block g6 HNE.out.1).trans H6.out); have HXb := Aside0.mk (((Put1.set g7 3 wr (.int .i64 (2 * N3))).block x0 HNE.out.2.2.2.1).trans HX.out); have HBb := Aside0.mk (HB.out.trans ((Put1.set g7 3 wr (.int .i64 (2 * N3))).below HNE.out.2.2.2.2.2)); clear hc hc7 hfz hr HX H6 H7 HB; go_roundw
              case rel => exact ⟨3 + 1, by simp, by omega, HXb, H6b, H7b, HBb⟩
              case measure => simp [intOf]
            · skip
              have H7 : Aside0 (wr.heap[g7]? = some (.cells #[.int .i64 (2 * N0), .int .i64 (2 * N1), .int .i64 (2 * N2), .int .i64 (2 * N3)] 22 (0, 0))) := H7; have hlb : decide (((4 : Nat) : Int) < 4) = false := by decide
              have hc0 := blk_cell HX.out 0; have hc1 := blk_cell HX.out 1; have hc2 := blk_cell HX.out 2; have hc3 := blk_cell HX.out 3
              have HA := Aside0.mk (dleast_calls N0 N1 N2 N3 (TP_of HT.out HB.out) (by have := HR.out; unfold wok; simp only [Bool.and_eq_true, inW_iff]; omega))
              go_wp2_with (first
                | (go_at_call 18; refine Aside0.out ?_)
                | fail)
              refine Aside0.mk ?_; refine HA.out.mono ?_; rintro e wa ⟨n, rfl, hl, hb⟩
              have hn : n ≤ 196 := by
                obtain ⟨t, x, hw, hx⟩ := some_way (wOf N0 N1 N2 N3) (fun v hv => by have := HR.out; rcases (show v = 0 ∨ v = 1 ∨ v = 2 ∨ v = 3 by omega) with rfl | rfl | rfl | rfl <;> simp only [wOf] <;> omega)
                have := hl.2 t x hw
                omega
              have HL := Aside0.mk hl; have HN := Aside0.mk hn; have H6a := Aside0.mk ((hb.block g6 (blk_lt H6.out)).trans H6.out); have H7a := Aside0.mk ((hb.block g7 (blk_lt H7.out)).trans H7.out); have HBa := Aside0.mk (below_step HB.out hb); have HA2 := Aside0.mk (dleast_calls N0 N1 N2 (N3 + 1) (TP_of HT.out HBa.out) (by have := HR.out; unfold wok; simp only [Bool.and_eq_true, inW_iff]; omega)); clear hl hb hn HX H6 H7 HB HA hc0 hc1 hc2 hc3
              have hc0 := blk_cell H6a.out 0; have hc1 := blk_cell H6a.out 1; have hc2 := blk_cell H6a.out 2; have hc3 := blk_cell H6a.out 3
              go_wp2_with (first
                | (go_at_call 18; refine Aside0.out ?_)
                | fail)
              refine Aside0.mk ?_; refine HA2.out.mono ?_; rintro e wb ⟨n', rfl, hl, hb⟩; have hge : n ≤ n' := least_grow (fun v hv => by rcases (show v = 0 ∨ v = 1 ∨ v = 2 ∨ v = 3 by omega) with rfl | rfl | rfl | rfl <;> simp only [wOf] <;> omega) HL.out hl; have HGE := Aside0.mk hge; have H7b := Aside0.mk ((hb.block g7 (blk_lt H7a.out)).trans H7a.out); have HBb := Aside0.mk (below_step HBa.out hb); have HA3 := Aside0.mk (dleast_calls (2 * N0) (2 * N1) (2 * N2) (2 * N3) (TP_of HT.out HBb.out) (by have := HR.out; unfold wok; simp only [Bool.and_eq_true, inW_iff]; omega)); clear hl hb hge H6a H7a HBa HA2 hc0 hc1 hc2 hc3
              have hc0 := blk_cell H7b.out 0; have hc1 := blk_cell H7b.out 1; have hc2 := blk_cell H7b.out 2; have hc3 := blk_cell H7b.out 3
              go_wp2_with (first
                | (go_at_call 18; refine Aside0.out ?_)
                | fail)
              refine Aside0.mk ?_; refine HA3.out.mono ?_; rintro e wc ⟨n'', rfl, hl, hb⟩; have htw : n'' = 2 * n := IsLeast.same hl (least_two (fun v hv => by rcases (show v = 0 ∨ v = 1 ∨ v = 2 ∨ v = 3 by omega) with rfl | rfl | rfl | rfl <;> rfl) HL.out); subst htw; have HBc := Aside0.mk (below_step HBb.out hb); have HAP := Aside0.mk (apart_calls (TP_of HT.out HBc.out)); clear hl hb H7b HBb HA3 HL HR hc0 hc1 hc2 hc3
              go_wp2_with (first
                | (go_at_call 19; refine Aside0.out ?_)
                | fail)
              refine Aside0.mk ?_; refine HAP.out.mono ?_; rintro e wd ⟨rfl, hb⟩; have HBd := Aside0.mk (below_step HBc.out hb); clear hb HAP HBc; obtain ⟨z, hz⟩ : ∃ z : Int, z = (n : Int) := ⟨_, rfl⟩; obtain ⟨y, hy⟩ : ∃ y : Int, y = (n' : Int) := ⟨_, rfl⟩; have hzb : 0 ≤ z ∧ z ≤ 196 := by have := HN.out; omega
              have hzy : z ≤ y := by have := HGE.out; omega
              have hge1 : decide (y ≥ z) = true := decide_eq_true hzy; have hge2 : decide (z ≤ y) = true := decide_eq_true hzy; (try rw [show ((2 * n : Nat) : Int) = 2 * (n : Int) by omega]); rw [← hz, ← hy]; clear hz hy HN HGE; go_wp2_with fail; have hrs : (Tryd.f8).results = #[.tmp 4] := by kernel_rfl
              refine bodyPost_ret (results_tmp hrs _ _ _) rfl ?_; exact ⟨by simp, HBd.out⟩
      · skip
        skip
        refine value_ (w1 := ?_) (v := ?_) (by rfl) rfl ?_ ?_
        rotate_left 2
        · go_simp
          constructor
          · rfl
          · rfl
        refine hK.out _ _ (by first | exact st_of (al_ HX.out _) | exact st_of (al_ (al_ HX.out _) _)) (fun hHeld => ?_)
        clear hK K
        refine norm_ (a' := ?_) ?_ ?_
        rotate_left
        · show Act.put _ (some 7) _ = _
          simp only [Act.put, List.setIfInBounds_toArray, List.set_cons_zero, List.set_cons_succ, i64_w, i32_w]
          rfl
        refine one_ (i := 2) (N := some 6) #[true, true, true, true, false, false] rfl rfl (one_of HT_.out (by kernel_rfl)) (by decide) (fun K hK => ?_)
        skip
        refine value_ (w1 := ?_) (v := ?_) (by rfl) rfl ?_ ?_
        rotate_left 2
        · go_simp
          constructor
          · rfl
          · rfl
        refine hK.out _ _ (by first | exact st_of (al_ HX.out _) | exact st_of (al_ (al_ HX.out _) _)) (fun hHeld => ?_)
        clear hK K
        refine norm_ (a' := ?_) ?_ ?_
        rotate_left
        · show Act.put _ (some 6) _ = _
          simp only [Act.put, List.setIfInBounds_toArray, List.set_cons_zero, List.set_cons_succ, i64_w, i32_w]
          rfl
        refine one_ (i := 4) (N := none) #[true, true, true, true, true, false] rfl rfl (one_of HT_.out (by kernel_rfl)) (by decide) (fun K hK => ?_)
        refine skip_ (w1 := ?_) (by rfl) rfl ?_ ?_
        rotate_left 1
        · go_simp
          rfl
        refine hK.out _ _ (by first | exact st_of (al_ (al_ HX.out _) _) | exact HZ.out) (fun hHeld => ?_)
        clear hK K
        refine one_ (i := 5) (N := none) #[true, true, true, true, true, true] rfl rfl (one_of HT_.out (by kernel_rfl)) (by decide) (fun K hK => ?_)
        refine skip_ (w1 := ?_) (by rfl) rfl ?_ ?_
        rotate_left 1
        · go_simp
          rfl
        refine hK.out _ _ (by first | exact st_of (al_ (al_ HX.out _) _) | exact HZ.out) (fun hHeld => ?_)
        clear hK K
        refine done_ (done_of HT_.out (by kernel_rfl)) ?_
        clear hHeld HZ
        first
        | (refine at6 wr.heap.size (by rfl) ?_; obtain ⟨g6, hg6⟩ : ∃ g, g = wr.heap.size := ⟨_, rfl⟩; obtain ⟨g7, hg7⟩ : ∃ g, g = wr.heap.size + 1 := ⟨_, rfl⟩; rw [← hg7, ← hg6])
        | (obtain ⟨g6, hg6⟩ : ∃ g, g = wr.heap.size + 1 := ⟨_, rfl⟩; obtain ⟨g7, hg7⟩ : ∃ g, g = wr.heap.size := ⟨_, rfl⟩; rw [← hg6, ← hg7])
        have hA0 : (((wr.alloc (.cells #[.int .i64 N0, .int .i64 N1, .int .i64 N2, .int .i64 N3] 22)).alloc (.cells #[.int .i64 N0, .int .i64 N1, .int .i64 N2, .int .i64 N3] 22)).drew).heap[wr.heap.size]? = some (.cells #[.int .i64 N0, .int .i64 N1, .int .i64 N2, .int .i64 N3] 22) := al_ (blk_new wr (.cells #[.int .i64 N0, .int .i64 N1, .int .i64 N2, .int .i64 N3] 22)) (.cells #[.int .i64 N0, .int .i64 N1, .int .i64 N2, .int .i64 N3] 22)
        have hA1 : (((wr.alloc (.cells #[.int .i64 N0, .int .i64 N1, .int .i64 N2, .int .i64 N3] 22)).alloc (.cells #[.int .i64 N0, .int .i64 N1, .int .i64 N2, .int .i64 N3] 22)).drew).heap[wr.heap.size + 1]? = some (.cells #[.int .i64 N0, .int .i64 N1, .int .i64 N2, .int .i64 N3] 22) := by
          have := blk_new (wr.alloc (.cells #[.int .i64 N0, .int .i64 N1, .int .i64 N2, .int .i64 N3] 22)) (.cells #[.int .i64 N0, .int .i64 N1, .int .i64 N2, .int .i64 N3] 22)
          rwa [World.size_alloc] at this
        have hXA : (((wr.alloc (.cells #[.int .i64 N0, .int .i64 N1, .int .i64 N2, .int .i64 N3] 22)).alloc (.cells #[.int .i64 N0, .int .i64 N1, .int .i64 N2, .int .i64 N3] 22)).drew).heap[x0]? = some (.cells #[.int .i64 N0, .int .i64 N1, .int .i64 N2, .int .i64 N3] 22) := al_ (al_ HX.out (.cells #[.int .i64 N0, .int .i64 N1, .int .i64 N2, .int .i64 N3] 22)) (.cells #[.int .i64 N0, .int .i64 N1, .int .i64 N2, .int .i64 N3] 22)
        have hBA : Below w.heap.size w (((wr.alloc (.cells #[.int .i64 N0, .int .i64 N1, .int .i64 N2, .int .i64 N3] 22)).alloc (.cells #[.int .i64 N0, .int .i64 N1, .int .i64 N2, .int .i64 N3] 22)).drew) := below_drew1 (below_step (below_step HB.out (below_alloc (Below.refl wr.heap.size wr) (.cells #[.int .i64 N0, .int .i64 N1, .int .i64 N2, .int .i64 N3] 22))) (below_alloc (Below.refl (wr.alloc (.cells #[.int .i64 N0, .int .i64 N1, .int .i64 N2, .int .i64 N3] 22)).heap.size (wr.alloc (.cells #[.int .i64 N0, .int .i64 N1, .int .i64 N2, .int .i64 N3] 22))) (.cells #[.int .i64 N0, .int .i64 N1, .int .i64 N2, .int .i64 N3] 22)))
        have hxl : x0 < wr.heap.size := blk_lt HX.out
        have hwl : w.heap.size ≤ wr.heap.size := HB.out.size
        obtain ⟨w2, hw2⟩ : ∃ w2, w2 = ((wr.alloc (.cells #[.int .i64 N0, .int .i64 N1, .int .i64 N2, .int .i64 N3] 22)).alloc (.cells #[.int .i64 N0, .int .i64 N1, .int .i64 N2, .int .i64 N3] 22)).drew := ⟨_, rfl⟩
        rw [← hw2] at hA0 hA1 hXA hBA ⊢
        have Hg6 := Aside0.mk (show w2.heap[g6]? = some (.cells #[.int .i64 N0, .int .i64 N1, .int .i64 N2, .int .i64 N3] 22) by rw [hg6]; first | exact hA0 | exact hA1)
        have Hg7 := Aside0.mk (show w2.heap[g7]? = some (.cells #[.int .i64 N0, .int .i64 N1, .int .i64 N2, .int .i64 N3] 22) by rw [hg7]; first | exact hA0 | exact hA1)
        have HXW := Aside0.mk hXA
        have HBW := Aside0.mk hBA
        have HNE := Aside0.mk (show g6 ≠ g7 ∧ g7 ≠ g6 ∧ x0 ≠ g6 ∧ x0 ≠ g7 ∧ w.heap.size ≤ g6 ∧ w.heap.size ≤ g7 by omega)
        clear hA0 hA1 hXA hBA hxl hwl hg6 hg7 hw2 HX HB
        rcases hkc with rfl | rfl | rfl | rfl
        · skip
          have h6c : w2.cell? ⟨g6, 0, none⟩ = some (.int .i64 N0) := blk_cell Hg6.out 0; have h6f := blk_frozen Hg6.out 0; obtain ⟨hr0, hr1, hr2, hr3⟩ := HR.out; go_wp2_with fail; have H6 := Aside0.mk (show (w2.setCell ⟨g6, 0, none⟩ (.int .i64 (N0 + 1))).heap[g6]? = some (.cells #[.int .i64 (N0 + 1), .int .i64 N1, .int .i64 N2, .int .i64 N3] 22 (0, 0)) from blk_put Hg6.out 0 _ rfl); have H7 := Aside0.mk (show (w2.setCell ⟨g6, 0, none⟩ (.int .i64 (N0 + 1))).heap[g7]? = some (.cells (tAt N0 N1 N2 N3 0) 22 (0, 0)) from ((Put1.set g6 0 w2 _).block g7 HNE.out.2.1).trans Hg7.out); have HX3 := Aside0.mk (show (w2.setCell ⟨g6, 0, none⟩ (.int .i64 (N0 + 1))).heap[x0]? = some (.cells #[.int .i64 N0, .int .i64 N1, .int .i64 N2, .int .i64 N3] 22) from ((Put1.set g6 0 w2 _).block x0 HNE.out.2.2.1).trans HXW.out); have HB3 := Aside0.mk (show Below w.heap.size w (w2.setCell ⟨g6, 0, none⟩ (.int .i64 (N0 + 1))) from HBW.out.trans ((Put1.set g6 0 w2 _).below HNE.out.2.2.2.2.1)); obtain ⟨w3, hw3⟩ : ∃ w3, w3 = w2.setCell ⟨g6, 0, none⟩ (.int .i64 (N0 + 1)) := ⟨_, rfl⟩; rw [← hw3] at H6 H7 HX3 HB3 ⊢; clear hw3 h6c h6f Hg6 Hg7 HXW HBW hk hr0 hr1 hr2 hr3; go_loopw [8] (fun v8 wq => ∃ v : Nat, v8 = .int .i64 (v : Int) ∧ v ≤ 4 ∧ Aside0 (wq.heap[x0]? = some (.cells #[.int .i64 N0, .int .i64 N1, .int .i64 N2, .int .i64 N3] 22)) ∧ Aside0 (wq.heap[g6]? = some (.cells #[.int .i64 (N0 + 1), .int .i64 N1, .int .i64 N2, .int .i64 N3] 22 (0, 0))) ∧ Aside0 (wq.heap[g7]? = some (.cells (tAt N0 N1 N2 N3 v) 22 (0, 0))) ∧ Aside0 (Below w.heap.size w wq)) (fun v8 _ => 4 - (intOf v8).toNat)
          case atStart => exact ⟨0, by simp, by omega, HX3, H6, H7, HB3⟩
          case round =>
            clear HX3 H6 H7 HB3
            obtain ⟨v, rfl, hv, HX, H6, H7, HB⟩ := hrel
            have hc : v = 0 ∨ v = 1 ∨ v = 2 ∨ v = 3 ∨ v = 4 := by omega
            rcases hc with rfl | rfl | rfl | rfl | rfl
            · skip
              have hc : wr.cell? ⟨x0, 0, none⟩ = some (.int .i64 N0) := blk_cell HX.out 0; have hc7 : wr.cell? ⟨g7, 0, none⟩ = some (.int .i64 N0) := blk_cell H7.out 0; have hfz := blk_frozen H7.out 0; have hr := HR.out.1; go_wp2_with fail; have H7b := Aside0.mk (show (wr.setCell ⟨g7, 0, none⟩ (.int .i64 (2 * N0))).heap[g7]? = some (.cells (tAt N0 N1 N2 N3 (0 + 1)) 22 (0, 0)) from blk_put H7.out 0 _ rfl); have H6b := Aside0.mk (((Put1.set g7 0 wr (.int .i64 (2 * N0))).block g6 HNE.out.1).trans H6.out); have HXb := Aside0.mk (((Put1.set g7 0 wr (.int .i64 (2 * N0))).block x0 HNE.out.2.2.2.1).trans HX.out); have HBb := Aside0.mk (HB.out.trans ((Put1.set g7 0 wr (.int .i64 (2 * N0))).below HNE.out.2.2.2.2.2)); clear hc hc7 hfz hr HX H6 H7 HB; go_roundw
              case rel => exact ⟨0 + 1, by simp, by omega, HXb, H6b, H7b, HBb⟩
              case measure => simp [intOf]
            · skip
              have hc : wr.cell? ⟨x0, 1, none⟩ = some (.int .i64 N1) := blk_cell HX.out 1; have hc7 : wr.cell? ⟨g7, 1, none⟩ = some (.int .i64 N1) := blk_cell H7.out 1; have hfz := blk_frozen H7.out 1; have hr := HR.out.2.1; go_wp2_with fail; have H7b := Aside0.mk (show (wr.setCell ⟨g7, 1, none⟩ (.int .i64 (2 * N1))).heap[g7]? = some (.cells (tAt N0 N1 N2 N3 (1 + 1)) 22 (0, 0)) from blk_put H7.out 1 _ rfl); have H6b := Aside0.mk (((Put1.set g7 1 wr (.int .i64 (2 * N1))).block g6 HNE.out.1).trans H6.out); have HXb := Aside0.mk (((Put1.set g7 1 wr (.int .i64 (2 * N1))).block x0 HNE.out.2.2.2.1).trans HX.out); have HBb := Aside0.mk (HB.out.trans ((Put1.set g7 1 wr (.int .i64 (2 * N1))).below HNE.out.2.2.2.2.2)); clear hc hc7 hfz hr HX H6 H7 HB; go_roundw
              case rel => exact ⟨1 + 1, by simp, by omega, HXb, H6b, H7b, HBb⟩
              case measure => simp [intOf]
            · skip
              have hc : wr.cell? ⟨x0, 2, none⟩ = some (.int .i64 N2) := blk_cell HX.out 2; have hc7 : wr.cell? ⟨g7, 2, none⟩ = some (.int .i64 N2) := blk_cell H7.out 2; have hfz := blk_frozen H7.out 2; have hr := HR.out.2.2.1; go_wp2_with fail; have H7b := Aside0.mk (show (wr.setCell ⟨g7, 2, none⟩ (.int .i64 (2 * N2))).heap[g7]? = some (.cells (tAt N0 N1 N2 N3 (2 + 1)) 22 (0, 0)) from blk_put H7.out 2 _ rfl); have H6b := Aside0.mk (((Put1.set g7 2 wr (.int .i64 (2 * N2))).block g6 HNE.out.1).trans H6.out); have HXb := Aside0.mk (((Put1.set g7 2 wr (.int .i64 (2 * N2))).block x0 HNE.out.2.2.2.1).trans HX.out); have HBb := Aside0.mk (HB.out.trans ((Put1.set g7 2 wr (.int .i64 (2 * N2))).below HNE.out.2.2.2.2.2)); clear hc hc7 hfz hr HX H6 H7 HB; go_roundw
              case rel => exact ⟨2 + 1, by simp, by omega, HXb, H6b, H7b, HBb⟩
              case measure => simp [intOf]
            · skip
              have hc : wr.cell? ⟨x0, 3, none⟩ = some (.int .i64 N3) := blk_cell HX.out 3; have hc7 : wr.cell? ⟨g7, 3, none⟩ = some (.int .i64 N3) := blk_cell H7.out 3; have hfz := blk_frozen H7.out 3; have hr := HR.out.2.2.2; go_wp2_with fail; have H7b := Aside0.mk (show (wr.setCell ⟨g7, 3, none⟩ (.int .i64 (2 * N3))).heap[g7]? = some (.cells (tAt N0 N1 N2 N3 (3 + 1)) 22 (0, 0)) from blk_put H7.out 3 _ rfl); have H6b := Aside0.mk (((Put1.set g7 3 wr (.int .i64 (2 * N3))).block g6 HNE.out.1).trans H6.out); have HXb := Aside0.mk (((Put1.set g7 3 wr (.int .i64 (2 * N3))).block x0 HNE.out.2.2.2.1).trans HX.out); have HBb := Aside0.mk (HB.out.trans ((Put1.set g7 3 wr (.int .i64 (2 * N3))).below HNE.out.2.2.2.2.2)); clear hc hc7 hfz hr HX H6 H7 HB; go_roundw
              case rel => exact ⟨3 + 1, by simp, by omega, HXb, H6b, H7b, HBb⟩
              case measure => simp [intOf]
            · skip
              have H7 : Aside0 (wr.heap[g7]? = some (.cells #[.int .i64 (2 * N0), .int .i64 (2 * N1), .int .i64 (2 * N2), .int .i64 (2 * N3)] 22 (0, 0))) := H7; have hlb : decide (((4 : Nat) : Int) < 4) = false := by decide
              have hc0 := blk_cell HX.out 0; have hc1 := blk_cell HX.out 1; have hc2 := blk_cell HX.out 2; have hc3 := blk_cell HX.out 3
              have HA := Aside0.mk (dleast_calls N0 N1 N2 N3 (TP_of HT.out HB.out) (by have := HR.out; unfold wok; simp only [Bool.and_eq_true, inW_iff]; omega))
              go_wp2_with (first
                | (go_at_call 18; refine Aside0.out ?_)
                | fail)
              refine Aside0.mk ?_; refine HA.out.mono ?_; rintro e wa ⟨n, rfl, hl, hb⟩
              have hn : n ≤ 196 := by
                obtain ⟨t, x, hw, hx⟩ := some_way (wOf N0 N1 N2 N3) (fun v hv => by have := HR.out; rcases (show v = 0 ∨ v = 1 ∨ v = 2 ∨ v = 3 by omega) with rfl | rfl | rfl | rfl <;> simp only [wOf] <;> omega)
                have := hl.2 t x hw
                omega
              have HL := Aside0.mk hl; have HN := Aside0.mk hn; have H6a := Aside0.mk ((hb.block g6 (blk_lt H6.out)).trans H6.out); have H7a := Aside0.mk ((hb.block g7 (blk_lt H7.out)).trans H7.out); have HBa := Aside0.mk (below_step HB.out hb); have HA2 := Aside0.mk (dleast_calls (N0 + 1) N1 N2 N3 (TP_of HT.out HBa.out) (by have := HR.out; unfold wok; simp only [Bool.and_eq_true, inW_iff]; omega)); clear hl hb hn HX H6 H7 HB HA hc0 hc1 hc2 hc3
              have hc0 := blk_cell H6a.out 0; have hc1 := blk_cell H6a.out 1; have hc2 := blk_cell H6a.out 2; have hc3 := blk_cell H6a.out 3
              go_wp2_with (first
                | (go_at_call 18; refine Aside0.out ?_)
                | fail)
              refine Aside0.mk ?_; refine HA2.out.mono ?_; rintro e wb ⟨n', rfl, hl, hb⟩; have hge : n ≤ n' := least_grow (fun v hv => by rcases (show v = 0 ∨ v = 1 ∨ v = 2 ∨ v = 3 by omega) with rfl | rfl | rfl | rfl <;> simp only [wOf] <;> omega) HL.out hl; have HGE := Aside0.mk hge; have H7b := Aside0.mk ((hb.block g7 (blk_lt H7a.out)).trans H7a.out); have HBb := Aside0.mk (below_step HBa.out hb); have HA3 := Aside0.mk (dleast_calls (2 * N0) (2 * N1) (2 * N2) (2 * N3) (TP_of HT.out HBb.out) (by have := HR.out; unfold wok; simp only [Bool.and_eq_true, inW_iff]; omega)); clear hl hb hge H6a H7a HBa HA2 hc0 hc1 hc2 hc3
              have hc0 := blk_cell H7b.out 0; have hc1 := blk_cell H7b.out 1; have hc2 := blk_cell H7b.out 2; have hc3 := blk_cell H7b.out 3
              go_wp2_with (first
                | (go_at_call 18; refine Aside0.out ?_)
                | fail)
              refine Aside0.mk ?_; refine HA3.out.mono ?_; rintro e wc ⟨n'', rfl, hl, hb⟩; have htw : n'' = 2 * n := IsLeast.same hl (least_two (fun v hv => by rcases (show v = 0 ∨ v = 1 ∨ v = 2 ∨ v = 3 by omega) with rfl | rfl | rfl | rfl <;> rfl) HL.out); subst htw; have HBc := Aside0.mk (below_step HBb.out hb); have HAP := Aside0.mk (apart_calls (TP_of HT.out HBc.out)); clear hl hb H7b HBb HA3 HL HR hc0 hc1 hc2 hc3
              go_wp2_with (first
                | (go_at_call 19; refine Aside0.out ?_)
                | fail)
              refine Aside0.mk ?_; refine HAP.out.mono ?_; rintro e wd ⟨rfl, hb⟩; have HBd := Aside0.mk (below_step HBc.out hb); clear hb HAP HBc; obtain ⟨z, hz⟩ : ∃ z : Int, z = (n : Int) := ⟨_, rfl⟩; obtain ⟨y, hy⟩ : ∃ y : Int, y = (n' : Int) := ⟨_, rfl⟩; have hzb : 0 ≤ z ∧ z ≤ 196 := by have := HN.out; omega
              have hzy : z ≤ y := by have := HGE.out; omega
              have hge1 : decide (y ≥ z) = true := decide_eq_true hzy; have hge2 : decide (z ≤ y) = true := decide_eq_true hzy; (try rw [show ((2 * n : Nat) : Int) = 2 * (n : Int) by omega]); rw [← hz, ← hy]; clear hz hy HN HGE; go_wp2_with fail; have hrs : (Tryd.f8).results = #[.tmp 4] := by kernel_rfl
              refine bodyPost_ret (results_tmp hrs _ _ _) rfl ?_; exact ⟨by simp, HBd.out⟩
        · skip
          have h6c : w2.cell? ⟨g6, 1, none⟩ = some (.int .i64 N1) := blk_cell Hg6.out 1; have h6f := blk_frozen Hg6.out 1; obtain ⟨hr0, hr1, hr2, hr3⟩ := HR.out; go_wp2_with fail; have H6 := Aside0.mk (show (w2.setCell ⟨g6, 1, none⟩ (.int .i64 (N1 + 1))).heap[g6]? = some (.cells #[.int .i64 N0, .int .i64 (N1 + 1), .int .i64 N2, .int .i64 N3] 22 (0, 0)) from blk_put Hg6.out 1 _ rfl); have H7 := Aside0.mk (show (w2.setCell ⟨g6, 1, none⟩ (.int .i64 (N1 + 1))).heap[g7]? = some (.cells (tAt N0 N1 N2 N3 0) 22 (0, 0)) from ((Put1.set g6 1 w2 _).block g7 HNE.out.2.1).trans Hg7.out); have HX3 := Aside0.mk (show (w2.setCell ⟨g6, 1, none⟩ (.int .i64 (N1 + 1))).heap[x0]? = some (.cells #[.int .i64 N0, .int .i64 N1, .int .i64 N2, .int .i64 N3] 22) from ((Put1.set g6 1 w2 _).block x0 HNE.out.2.2.1).trans HXW.out); have HB3 := Aside0.mk (show Below w.heap.size w (w2.setCell ⟨g6, 1, none⟩ (.int .i64 (N1 + 1))) from HBW.out.trans ((Put1.set g6 1 w2 _).below HNE.out.2.2.2.2.1)); obtain ⟨w3, hw3⟩ : ∃ w3, w3 = w2.setCell ⟨g6, 1, none⟩ (.int .i64 (N1 + 1)) := ⟨_, rfl⟩; rw [← hw3] at H6 H7 HX3 HB3 ⊢; clear hw3 h6c h6f Hg6 Hg7 HXW HBW hk hr0 hr1 hr2 hr3; go_loopw [8] (fun v8 wq => ∃ v : Nat, v8 = .int .i64 (v : Int) ∧ v ≤ 4 ∧ Aside0 (wq.heap[x0]? = some (.cells #[.int .i64 N0, .int .i64 N1, .int .i64 N2, .int .i64 N3] 22)) ∧ Aside0 (wq.heap[g6]? = some (.cells #[.int .i64 N0, .int .i64 (N1 + 1), .int .i64 N2, .int .i64 N3] 22 (0, 0))) ∧ Aside0 (wq.heap[g7]? = some (.cells (tAt N0 N1 N2 N3 v) 22 (0, 0))) ∧ Aside0 (Below w.heap.size w wq)) (fun v8 _ => 4 - (intOf v8).toNat)
          case atStart => exact ⟨0, by simp, by omega, HX3, H6, H7, HB3⟩
          case round =>
            clear HX3 H6 H7 HB3
            obtain ⟨v, rfl, hv, HX, H6, H7, HB⟩ := hrel
            have hc : v = 0 ∨ v = 1 ∨ v = 2 ∨ v = 3 ∨ v = 4 := by omega
            rcases hc with rfl | rfl | rfl | rfl | rfl
            · skip
              have hc : wr.cell? ⟨x0, 0, none⟩ = some (.int .i64 N0) := blk_cell HX.out 0; have hc7 : wr.cell? ⟨g7, 0, none⟩ = some (.int .i64 N0) := blk_cell H7.out 0; have hfz := blk_frozen H7.out 0; have hr := HR.out.1; go_wp2_with fail; have H7b := Aside0.mk (show (wr.setCell ⟨g7, 0, none⟩ (.int .i64 (2 * N0))).heap[g7]? = some (.cells (tAt N0 N1 N2 N3 (0 + 1)) 22 (0, 0)) from blk_put H7.out 0 _ rfl); have H6b := Aside0.mk (((Put1.set g7 0 wr (.int .i64 (2 * N0))).block g6 HNE.out.1).trans H6.out); have HXb := Aside0.mk (((Put1.set g7 0 wr (.int .i64 (2 * N0))).block x0 HNE.out.2.2.2.1).trans HX.out); have HBb := Aside0.mk (HB.out.trans ((Put1.set g7 0 wr (.int .i64 (2 * N0))).below HNE.out.2.2.2.2.2)); clear hc hc7 hfz hr HX H6 H7 HB; go_roundw
              case rel => exact ⟨0 + 1, by simp, by omega, HXb, H6b, H7b, HBb⟩
              case measure => simp [intOf]
            · skip
              have hc : wr.cell? ⟨x0, 1, none⟩ = some (.int .i64 N1) := blk_cell HX.out 1; have hc7 : wr.cell? ⟨g7, 1, none⟩ = some (.int .i64 N1) := blk_cell H7.out 1; have hfz := blk_frozen H7.out 1; have hr := HR.out.2.1; go_wp2_with fail; have H7b := Aside0.mk (show (wr.setCell ⟨g7, 1, none⟩ (.int .i64 (2 * N1))).heap[g7]? = some (.cells (tAt N0 N1 N2 N3 (1 + 1)) 22 (0, 0)) from blk_put H7.out 1 _ rfl); have H6b := Aside0.mk (((Put1.set g7 1 wr (.int .i64 (2 * N1))).block g6 HNE.out.1).trans H6.out); have HXb := Aside0.mk (((Put1.set g7 1 wr (.int .i64 (2 * N1))).block x0 HNE.out.2.2.2.1).trans HX.out); have HBb := Aside0.mk (HB.out.trans ((Put1.set g7 1 wr (.int .i64 (2 * N1))).below HNE.out.2.2.2.2.2)); clear hc hc7 hfz hr HX H6 H7 HB; go_roundw
              case rel => exact ⟨1 + 1, by simp, by omega, HXb, H6b, H7b, HBb⟩
              case measure => simp [intOf]
            · skip
              have hc : wr.cell? ⟨x0, 2, none⟩ = some (.int .i64 N2) := blk_cell HX.out 2; have hc7 : wr.cell? ⟨g7, 2, none⟩ = some (.int .i64 N2) := blk_cell H7.out 2; have hfz := blk_frozen H7.out 2; have hr := HR.out.2.2.1; go_wp2_with fail; have H7b := Aside0.mk (show (wr.setCell ⟨g7, 2, none⟩ (.int .i64 (2 * N2))).heap[g7]? = some (.cells (tAt N0 N1 N2 N3 (2 + 1)) 22 (0, 0)) from blk_put H7.out 2 _ rfl); have H6b := Aside0.mk (((Put1.set g7 2 wr (.int .i64 (2 * N2))).block g6 HNE.out.1).trans H6.out); have HXb := Aside0.mk (((Put1.set g7 2 wr (.int .i64 (2 * N2))).block x0 HNE.out.2.2.2.1).trans HX.out); have HBb := Aside0.mk (HB.out.trans ((Put1.set g7 2 wr (.int .i64 (2 * N2))).below HNE.out.2.2.2.2.2)); clear hc hc7 hfz hr HX H6 H7 HB; go_roundw
              case rel => exact ⟨2 + 1, by simp, by omega, HXb, H6b, H7b, HBb⟩
              case measure => simp [intOf]
            · skip
              have hc : wr.cell? ⟨x0, 3, none⟩ = some (.int .i64 N3) := blk_cell HX.out 3; have hc7 : wr.cell? ⟨g7, 3, none⟩ = some (.int .i64 N3) := blk_cell H7.out 3; have hfz := blk_frozen H7.out 3; have hr := HR.out.2.2.2; go_wp2_with fail; have H7b := Aside0.mk (show (wr.setCell ⟨g7, 3, none⟩ (.int .i64 (2 * N3))).heap[g7]? = some (.cells (tAt N0 N1 N2 N3 (3 + 1)) 22 (0, 0)) from blk_put H7.out 3 _ rfl); have H6b := Aside0.mk (((Put1.set g7 3 wr (.int .i64 (2 * N3))).block g6 HNE.out.1).trans H6.out); have HXb := Aside0.mk (((Put1.set g7 3 wr (.int .i64 (2 * N3))).block x0 HNE.out.2.2.2.1).trans HX.out); have HBb := Aside0.mk (HB.out.trans ((Put1.set g7 3 wr (.int .i64 (2 * N3))).below HNE.out.2.2.2.2.2)); clear hc hc7 hfz hr HX H6 H7 HB; go_roundw
              case rel => exact ⟨3 + 1, by simp, by omega, HXb, H6b, H7b, HBb⟩
              case measure => simp [intOf]
            · skip
              have H7 : Aside0 (wr.heap[g7]? = some (.cells #[.int .i64 (2 * N0), .int .i64 (2 * N1), .int .i64 (2 * N2), .int .i64 (2 * N3)] 22 (0, 0))) := H7; have hlb : decide (((4 : Nat) : Int) < 4) = false := by decide
              have hc0 := blk_cell HX.out 0; have hc1 := blk_cell HX.out 1; have hc2 := blk_cell HX.out 2; have hc3 := blk_cell HX.out 3
              have HA := Aside0.mk (dleast_calls N0 N1 N2 N3 (TP_of HT.out HB.out) (by have := HR.out; unfold wok; simp only [Bool.and_eq_true, inW_iff]; omega))
              go_wp2_with (first
                | (go_at_call 18; refine Aside0.out ?_)
                | fail)
              refine Aside0.mk ?_; refine HA.out.mono ?_; rintro e wa ⟨n, rfl, hl, hb⟩
              have hn : n ≤ 196 := by
                obtain ⟨t, x, hw, hx⟩ := some_way (wOf N0 N1 N2 N3) (fun v hv => by have := HR.out; rcases (show v = 0 ∨ v = 1 ∨ v = 2 ∨ v = 3 by omega) with rfl | rfl | rfl | rfl <;> simp only [wOf] <;> omega)
                have := hl.2 t x hw
                omega
              have HL := Aside0.mk hl; have HN := Aside0.mk hn; have H6a := Aside0.mk ((hb.block g6 (blk_lt H6.out)).trans H6.out); have H7a := Aside0.mk ((hb.block g7 (blk_lt H7.out)).trans H7.out); have HBa := Aside0.mk (below_step HB.out hb); have HA2 := Aside0.mk (dleast_calls N0 (N1 + 1) N2 N3 (TP_of HT.out HBa.out) (by have := HR.out; unfold wok; simp only [Bool.and_eq_true, inW_iff]; omega)); clear hl hb hn HX H6 H7 HB HA hc0 hc1 hc2 hc3
              have hc0 := blk_cell H6a.out 0; have hc1 := blk_cell H6a.out 1; have hc2 := blk_cell H6a.out 2; have hc3 := blk_cell H6a.out 3
              go_wp2_with (first
                | (go_at_call 18; refine Aside0.out ?_)
                | fail)
              refine Aside0.mk ?_; refine HA2.out.mono ?_; rintro e wb ⟨n', rfl, hl, hb⟩; have hge : n ≤ n' := least_grow (fun v hv => by rcases (show v = 0 ∨ v = 1 ∨ v = 2 ∨ v = 3 by omega) with rfl | rfl | rfl | rfl <;> simp only [wOf] <;> omega) HL.out hl; have HGE := Aside0.mk hge; have H7b := Aside0.mk ((hb.block g7 (blk_lt H7a.out)).trans H7a.out); have HBb := Aside0.mk (below_step HBa.out hb); have HA3 := Aside0.mk (dleast_calls (2 * N0) (2 * N1) (2 * N2) (2 * N3) (TP_of HT.out HBb.out) (by have := HR.out; unfold wok; simp only [Bool.and_eq_true, inW_iff]; omega)); clear hl hb hge H6a H7a HBa HA2 hc0 hc1 hc2 hc3
              have hc0 := blk_cell H7b.out 0; have hc1 := blk_cell H7b.out 1; have hc2 := blk_cell H7b.out 2; have hc3 := blk_cell H7b.out 3
              go_wp2_with (first
                | (go_at_call 18; refine Aside0.out ?_)
                | fail)
              refine Aside0.mk ?_; refine HA3.out.mono ?_; rintro e wc ⟨n'', rfl, hl, hb⟩; have htw : n'' = 2 * n := IsLeast.same hl (least_two (fun v hv => by rcases (show v = 0 ∨ v = 1 ∨ v = 2 ∨ v = 3 by omega) with rfl | rfl | rfl | rfl <;> rfl) HL.out); subst htw; have HBc := Aside0.mk (below_step HBb.out hb); have HAP := Aside0.mk (apart_calls (TP_of HT.out HBc.out)); clear hl hb H7b HBb HA3 HL HR hc0 hc1 hc2 hc3
              go_wp2_with (first
                | (go_at_call 19; refine Aside0.out ?_)
                | fail)
              refine Aside0.mk ?_; refine HAP.out.mono ?_; rintro e wd ⟨rfl, hb⟩; have HBd := Aside0.mk (below_step HBc.out hb); clear hb HAP HBc; obtain ⟨z, hz⟩ : ∃ z : Int, z = (n : Int) := ⟨_, rfl⟩; obtain ⟨y, hy⟩ : ∃ y : Int, y = (n' : Int) := ⟨_, rfl⟩; have hzb : 0 ≤ z ∧ z ≤ 196 := by have := HN.out; omega
              have hzy : z ≤ y := by have := HGE.out; omega
              have hge1 : decide (y ≥ z) = true := decide_eq_true hzy; have hge2 : decide (z ≤ y) = true := decide_eq_true hzy; (try rw [show ((2 * n : Nat) : Int) = 2 * (n : Int) by omega]); rw [← hz, ← hy]; clear hz hy HN HGE; go_wp2_with fail; have hrs : (Tryd.f8).results = #[.tmp 4] := by kernel_rfl
              refine bodyPost_ret (results_tmp hrs _ _ _) rfl ?_; exact ⟨by simp, HBd.out⟩
        · skip
          have h6c : w2.cell? ⟨g6, 2, none⟩ = some (.int .i64 N2) := blk_cell Hg6.out 2; have h6f := blk_frozen Hg6.out 2; obtain ⟨hr0, hr1, hr2, hr3⟩ := HR.out; go_wp2_with fail; have H6 := Aside0.mk (show (w2.setCell ⟨g6, 2, none⟩ (.int .i64 (N2 + 1))).heap[g6]? = some (.cells #[.int .i64 N0, .int .i64 N1, .int .i64 (N2 + 1), .int .i64 N3] 22 (0, 0)) from blk_put Hg6.out 2 _ rfl); have H7 := Aside0.mk (show (w2.setCell ⟨g6, 2, none⟩ (.int .i64 (N2 + 1))).heap[g7]? = some (.cells (tAt N0 N1 N2 N3 0) 22 (0, 0)) from ((Put1.set g6 2 w2 _).block g7 HNE.out.2.1).trans Hg7.out); have HX3 := Aside0.mk (show (w2.setCell ⟨g6, 2, none⟩ (.int .i64 (N2 + 1))).heap[x0]? = some (.cells #[.int .i64 N0, .int .i64 N1, .int .i64 N2, .int .i64 N3] 22) from ((Put1.set g6 2 w2 _).block x0 HNE.out.2.2.1).trans HXW.out); have HB3 := Aside0.mk (show Below w.heap.size w (w2.setCell ⟨g6, 2, none⟩ (.int .i64 (N2 + 1))) from HBW.out.trans ((Put1.set g6 2 w2 _).below HNE.out.2.2.2.2.1)); obtain ⟨w3, hw3⟩ : ∃ w3, w3 = w2.setCell ⟨g6, 2, none⟩ (.int .i64 (N2 + 1)) := ⟨_, rfl⟩; rw [← hw3] at H6 H7 HX3 HB3 ⊢; clear hw3 h6c h6f Hg6 Hg7 HXW HBW hk hr0 hr1 hr2 hr3; go_loopw [8] (fun v8 wq => ∃ v : Nat, v8 = .int .i64 (v : Int) ∧ v ≤ 4 ∧ Aside0 (wq.heap[x0]? = some (.cells #[.int .i64 N0, .int .i64 N1, .int .i64 N2, .int .i64 N3] 22)) ∧ Aside0 (wq.heap[g6]? = some (.cells #[.int .i64 N0, .int .i64 N1, .int .i64 (N2 + 1), .int .i64 N3] 22 (0, 0))) ∧ Aside0 (wq.heap[g7]? = some (.cells (tAt N0 N1 N2 N3 v) 22 (0, 0))) ∧ Aside0 (Below w.heap.size w wq)) (fun v8 _ => 4 - (intOf v8).toNat)
          case atStart => exact ⟨0, by simp, by omega, HX3, H6, H7, HB3⟩
          case round =>
            clear HX3 H6 H7 HB3
            obtain ⟨v, rfl, hv, HX, H6, H7, HB⟩ := hrel
            have hc : v = 0 ∨ v = 1 ∨ v = 2 ∨ v = 3 ∨ v = 4 := by omega
            rcases hc with rfl | rfl | rfl | rfl | rfl
            · skip
              have hc : wr.cell? ⟨x0, 0, none⟩ = some (.int .i64 N0) := blk_cell HX.out 0; have hc7 : wr.cell? ⟨g7, 0, none⟩ = some (.int .i64 N0) := blk_cell H7.out 0; have hfz := blk_frozen H7.out 0; have hr := HR.out.1; go_wp2_with fail; have H7b := Aside0.mk (show (wr.setCell ⟨g7, 0, none⟩ (.int .i64 (2 * N0))).heap[g7]? = some (.cells (tAt N0 N1 N2 N3 (0 + 1)) 22 (0, 0)) from blk_put H7.out 0 _ rfl); have H6b := Aside0.mk (((Put1.set g7 0 wr (.int .i64 (2 * N0))).block g6 HNE.out.1).trans H6.out); have HXb := Aside0.mk (((Put1.set g7 0 wr (.int .i64 (2 * N0))).block x0 HNE.out.2.2.2.1).trans HX.out); have HBb := Aside0.mk (HB.out.trans ((Put1.set g7 0 wr (.int .i64 (2 * N0))).below HNE.out.2.2.2.2.2)); clear hc hc7 hfz hr HX H6 H7 HB; go_roundw
              case rel => exact ⟨0 + 1, by simp, by omega, HXb, H6b, H7b, HBb⟩
              case measure => simp [intOf]
            · skip
              have hc : wr.cell? ⟨x0, 1, none⟩ = some (.int .i64 N1) := blk_cell HX.out 1; have hc7 : wr.cell? ⟨g7, 1, none⟩ = some (.int .i64 N1) := blk_cell H7.out 1; have hfz := blk_frozen H7.out 1; have hr := HR.out.2.1; go_wp2_with fail; have H7b := Aside0.mk (show (wr.setCell ⟨g7, 1, none⟩ (.int .i64 (2 * N1))).heap[g7]? = some (.cells (tAt N0 N1 N2 N3 (1 + 1)) 22 (0, 0)) from blk_put H7.out 1 _ rfl); have H6b := Aside0.mk (((Put1.set g7 1 wr (.int .i64 (2 * N1))).block g6 HNE.out.1).trans H6.out); have HXb := Aside0.mk (((Put1.set g7 1 wr (.int .i64 (2 * N1))).block x0 HNE.out.2.2.2.1).trans HX.out); have HBb := Aside0.mk (HB.out.trans ((Put1.set g7 1 wr (.int .i64 (2 * N1))).below HNE.out.2.2.2.2.2)); clear hc hc7 hfz hr HX H6 H7 HB; go_roundw
              case rel => exact ⟨1 + 1, by simp, by omega, HXb, H6b, H7b, HBb⟩
              case measure => simp [intOf]
            · skip
              have hc : wr.cell? ⟨x0, 2, none⟩ = some (.int .i64 N2) := blk_cell HX.out 2; have hc7 : wr.cell? ⟨g7, 2, none⟩ = some (.int .i64 N2) := blk_cell H7.out 2; have hfz := blk_frozen H7.out 2; have hr := HR.out.2.2.1; go_wp2_with fail; have H7b := Aside0.mk (show (wr.setCell ⟨g7, 2, none⟩ (.int .i64 (2 * N2))).heap[g7]? = some (.cells (tAt N0 N1 N2 N3 (2 + 1)) 22 (0, 0)) from blk_put H7.out 2 _ rfl); have H6b := Aside0.mk (((Put1.set g7 2 wr (.int .i64 (2 * N2))).block g6 HNE.out.1).trans H6.out); have HXb := Aside0.mk (((Put1.set g7 2 wr (.int .i64 (2 * N2))).block x0 HNE.out.2.2.2.1).trans HX.out); have HBb := Aside0.mk (HB.out.trans ((Put1.set g7 2 wr (.int .i64 (2 * N2))).below HNE.out.2.2.2.2.2)); clear hc hc7 hfz hr HX H6 H7 HB; go_roundw
              case rel => exact ⟨2 + 1, by simp, by omega, HXb, H6b, H7b, HBb⟩
              case measure => simp [intOf]
            · skip
              have hc : wr.cell? ⟨x0, 3, none⟩ = some (.int .i64 N3) := blk_cell HX.out 3; have hc7 : wr.cell? ⟨g7, 3, none⟩ = some (.int .i64 N3) := blk_cell H7.out 3; have hfz := blk_frozen H7.out 3; have hr := HR.out.2.2.2; go_wp2_with fail; have H7b := Aside0.mk (show (wr.setCell ⟨g7, 3, none⟩ (.int .i64 (2 * N3))).heap[g7]? = some (.cells (tAt N0 N1 N2 N3 (3 + 1)) 22 (0, 0)) from blk_put H7.out 3 _ rfl); have H6b := Aside0.mk (((Put1.set g7 3 wr (.int .i64 (2 * N3))).block g6 HNE.out.1).trans H6.out); have HXb := Aside0.mk (((Put1.set g7 3 wr (.int .i64 (2 * N3))).block x0 HNE.out.2.2.2.1).trans HX.out); have HBb := Aside0.mk (HB.out.trans ((Put1.set g7 3 wr (.int .i64 (2 * N3))).below HNE.out.2.2.2.2.2)); clear hc hc7 hfz hr HX H6 H7 HB; go_roundw
              case rel => exact ⟨3 + 1, by simp, by omega, HXb, H6b, H7b, HBb⟩
              case measure => simp [intOf]
            · skip
              have H7 : Aside0 (wr.heap[g7]? = some (.cells #[.int .i64 (2 * N0), .int .i64 (2 * N1), .int .i64 (2 * N2), .int .i64 (2 * N3)] 22 (0, 0))) := H7; have hlb : decide (((4 : Nat) : Int) < 4) = false := by decide
              have hc0 := blk_cell HX.out 0; have hc1 := blk_cell HX.out 1; have hc2 := blk_cell HX.out 2; have hc3 := blk_cell HX.out 3
              have HA := Aside0.mk (dleast_calls N0 N1 N2 N3 (TP_of HT.out HB.out) (by have := HR.out; unfold wok; simp only [Bool.and_eq_true, inW_iff]; omega))
              go_wp2_with (first
                | (go_at_call 18; refine Aside0.out ?_)
                | fail)
              refine Aside0.mk ?_; refine HA.out.mono ?_; rintro e wa ⟨n, rfl, hl, hb⟩
              have hn : n ≤ 196 := by
                obtain ⟨t, x, hw, hx⟩ := some_way (wOf N0 N1 N2 N3) (fun v hv => by have := HR.out; rcases (show v = 0 ∨ v = 1 ∨ v = 2 ∨ v = 3 by omega) with rfl | rfl | rfl | rfl <;> simp only [wOf] <;> omega)
                have := hl.2 t x hw
                omega
              have HL := Aside0.mk hl; have HN := Aside0.mk hn; have H6a := Aside0.mk ((hb.block g6 (blk_lt H6.out)).trans H6.out); have H7a := Aside0.mk ((hb.block g7 (blk_lt H7.out)).trans H7.out); have HBa := Aside0.mk (below_step HB.out hb); have HA2 := Aside0.mk (dleast_calls N0 N1 (N2 + 1) N3 (TP_of HT.out HBa.out) (by have := HR.out; unfold wok; simp only [Bool.and_eq_true, inW_iff]; omega)); clear hl hb hn HX H6 H7 HB HA hc0 hc1 hc2 hc3
              have hc0 := blk_cell H6a.out 0; have hc1 := blk_cell H6a.out 1; have hc2 := blk_cell H6a.out 2; have hc3 := blk_cell H6a.out 3
              go_wp2_with (first
                | (go_at_call 18; refine Aside0.out ?_)
                | fail)
              refine Aside0.mk ?_; refine HA2.out.mono ?_; rintro e wb ⟨n', rfl, hl, hb⟩; have hge : n ≤ n' := least_grow (fun v hv => by rcases (show v = 0 ∨ v = 1 ∨ v = 2 ∨ v = 3 by omega) with rfl | rfl | rfl | rfl <;> simp only [wOf] <;> omega) HL.out hl; have HGE := Aside0.mk hge; have H7b := Aside0.mk ((hb.block g7 (blk_lt H7a.out)).trans H7a.out); have HBb := Aside0.mk (below_step HBa.out hb); have HA3 := Aside0.mk (dleast_calls (2 * N0) (2 * N1) (2 * N2) (2 * N3) (TP_of HT.out HBb.out) (by have := HR.out; unfold wok; simp only [Bool.and_eq_true, inW_iff]; omega)); clear hl hb hge H6a H7a HBa HA2 hc0 hc1 hc2 hc3
              have hc0 := blk_cell H7b.out 0; have hc1 := blk_cell H7b.out 1; have hc2 := blk_cell H7b.out 2; have hc3 := blk_cell H7b.out 3
              go_wp2_with (first
                | (go_at_call 18; refine Aside0.out ?_)
                | fail)
              refine Aside0.mk ?_; refine HA3.out.mono ?_; rintro e wc ⟨n'', rfl, hl, hb⟩; have htw : n'' = 2 * n := IsLeast.same hl (least_two (fun v hv => by rcases (show v = 0 ∨ v = 1 ∨ v = 2 ∨ v = 3 by omega) with rfl | rfl | rfl | rfl <;> rfl) HL.out); subst htw; have HBc := Aside0.mk (below_step HBb.out hb); have HAP := Aside0.mk (apart_calls (TP_of HT.out HBc.out)); clear hl hb H7b HBb HA3 HL HR hc0 hc1 hc2 hc3
              go_wp2_with (first
                | (go_at_call 19; refine Aside0.out ?_)
                | fail)
              refine Aside0.mk ?_; refine HAP.out.mono ?_; rintro e wd ⟨rfl, hb⟩; have HBd := Aside0.mk (below_step HBc.out hb); clear hb HAP HBc; obtain ⟨z, hz⟩ : ∃ z : Int, z = (n : Int) := ⟨_, rfl⟩; obtain ⟨y, hy⟩ : ∃ y : Int, y = (n' : Int) := ⟨_, rfl⟩; have hzb : 0 ≤ z ∧ z ≤ 196 := by have := HN.out; omega
              have hzy : z ≤ y := by have := HGE.out; omega
              have hge1 : decide (y ≥ z) = true := decide_eq_true hzy; have hge2 : decide (z ≤ y) = true := decide_eq_true hzy; (try rw [show ((2 * n : Nat) : Int) = 2 * (n : Int) by omega]); rw [← hz, ← hy]; clear hz hy HN HGE; go_wp2_with fail; have hrs : (Tryd.f8).results = #[.tmp 4] := by kernel_rfl
              refine bodyPost_ret (results_tmp hrs _ _ _) rfl ?_; exact ⟨by simp, HBd.out⟩
        · skip
          have h6c : w2.cell? ⟨g6, 3, none⟩ = some (.int .i64 N3) := blk_cell Hg6.out 3; have h6f := blk_frozen Hg6.out 3; obtain ⟨hr0, hr1, hr2, hr3⟩ := HR.out; go_wp2_with fail; have H6 := Aside0.mk (show (w2.setCell ⟨g6, 3, none⟩ (.int .i64 (N3 + 1))).heap[g6]? = some (.cells #[.int .i64 N0, .int .i64 N1, .int .i64 N2, .int .i64 (N3 + 1)] 22 (0, 0)) from blk_put Hg6.out 3 _ rfl); have H7 := Aside0.mk (show (w2.setCell ⟨g6, 3, none⟩ (.int .i64 (N3 + 1))).heap[g7]? = some (.cells (tAt N0 N1 N2 N3 0) 22 (0, 0)) from ((Put1.set g6 3 w2 _).block g7 HNE.out.2.1).trans Hg7.out); have HX3 := Aside0.mk (show (w2.setCell ⟨g6, 3, none⟩ (.int .i64 (N3 + 1))).heap[x0]? = some (.cells #[.int .i64 N0, .int .i64 N1, .int .i64 N2, .int .i64 N3] 22) from ((Put1.set g6 3 w2 _).block x0 HNE.out.2.2.1).trans HXW.out); have HB3 := Aside0.mk (show Below w.heap.size w (w2.setCell ⟨g6, 3, none⟩ (.int .i64 (N3 + 1))) from HBW.out.trans ((Put1.set g6 3 w2 _).below HNE.out.2.2.2.2.1)); obtain ⟨w3, hw3⟩ : ∃ w3, w3 = w2.setCell ⟨g6, 3, none⟩ (.int .i64 (N3 + 1)) := ⟨_, rfl⟩; rw [← hw3] at H6 H7 HX3 HB3 ⊢; clear hw3 h6c h6f Hg6 Hg7 HXW HBW hk hr0 hr1 hr2 hr3; go_loopw [8] (fun v8 wq => ∃ v : Nat, v8 = .int .i64 (v : Int) ∧ v ≤ 4 ∧ Aside0 (wq.heap[x0]? = some (.cells #[.int .i64 N0, .int .i64 N1, .int .i64 N2, .int .i64 N3] 22)) ∧ Aside0 (wq.heap[g6]? = some (.cells #[.int .i64 N0, .int .i64 N1, .int .i64 N2, .int .i64 (N3 + 1)] 22 (0, 0))) ∧ Aside0 (wq.heap[g7]? = some (.cells (tAt N0 N1 N2 N3 v) 22 (0, 0))) ∧ Aside0 (Below w.heap.size w wq)) (fun v8 _ => 4 - (intOf v8).toNat)
          case atStart => exact ⟨0, by simp, by omega, HX3, H6, H7, HB3⟩
          case round =>
            clear HX3 H6 H7 HB3
            obtain ⟨v, rfl, hv, HX, H6, H7, HB⟩ := hrel
            have hc : v = 0 ∨ v = 1 ∨ v = 2 ∨ v = 3 ∨ v = 4 := by omega
            rcases hc with rfl | rfl | rfl | rfl | rfl
            · skip
              have hc : wr.cell? ⟨x0, 0, none⟩ = some (.int .i64 N0) := blk_cell HX.out 0; have hc7 : wr.cell? ⟨g7, 0, none⟩ = some (.int .i64 N0) := blk_cell H7.out 0; have hfz := blk_frozen H7.out 0; have hr := HR.out.1; go_wp2_with fail; have H7b := Aside0.mk (show (wr.setCell ⟨g7, 0, none⟩ (.int .i64 (2 * N0))).heap[g7]? = some (.cells (tAt N0 N1 N2 N3 (0 + 1)) 22 (0, 0)) from blk_put H7.out 0 _ rfl); have H6b := Aside0.mk (((Put1.set g7 0 wr (.int .i64 (2 * N0))).block g6 HNE.out.1).trans H6.out); have HXb := Aside0.mk (((Put1.set g7 0 wr (.int .i64 (2 * N0))).block x0 HNE.out.2.2.2.1).trans HX.out); have HBb := Aside0.mk (HB.out.trans ((Put1.set g7 0 wr (.int .i64 (2 * N0))).below HNE.out.2.2.2.2.2)); clear hc hc7 hfz hr HX H6 H7 HB; go_roundw
              case rel => exact ⟨0 + 1, by simp, by omega, HXb, H6b, H7b, HBb⟩
              case measure => simp [intOf]
            · skip
              have hc : wr.cell? ⟨x0, 1, none⟩ = some (.int .i64 N1) := blk_cell HX.out 1; have hc7 : wr.cell? ⟨g7, 1, none⟩ = some (.int .i64 N1) := blk_cell H7.out 1; have hfz := blk_frozen H7.out 1; have hr := HR.out.2.1; go_wp2_with fail; have H7b := Aside0.mk (show (wr.setCell ⟨g7, 1, none⟩ (.int .i64 (2 * N1))).heap[g7]? = some (.cells (tAt N0 N1 N2 N3 (1 + 1)) 22 (0, 0)) from blk_put H7.out 1 _ rfl); have H6b := Aside0.mk (((Put1.set g7 1 wr (.int .i64 (2 * N1))).block g6 HNE.out.1).trans H6.out); have HXb := Aside0.mk (((Put1.set g7 1 wr (.int .i64 (2 * N1))).block x0 HNE.out.2.2.2.1).trans HX.out); have HBb := Aside0.mk (HB.out.trans ((Put1.set g7 1 wr (.int .i64 (2 * N1))).below HNE.out.2.2.2.2.2)); clear hc hc7 hfz hr HX H6 H7 HB; go_roundw
              case rel => exact ⟨1 + 1, by simp, by omega, HXb, H6b, H7b, HBb⟩
              case measure => simp [intOf]
            · skip
              have hc : wr.cell? ⟨x0, 2, none⟩ = some (.int .i64 N2) := blk_cell HX.out 2; have hc7 : wr.cell? ⟨g7, 2, none⟩ = some (.int .i64 N2) := blk_cell H7.out 2; have hfz := blk_frozen H7.out 2; have hr := HR.out.2.2.1; go_wp2_with fail; have H7b := Aside0.mk (show (wr.setCell ⟨g7, 2, none⟩ (.int .i64 (2 * N2))).heap[g7]? = some (.cells (tAt N0 N1 N2 N3 (2 + 1)) 22 (0, 0)) from blk_put H7.out 2 _ rfl); have H6b := Aside0.mk (((Put1.set g7 2 wr (.int .i64 (2 * N2))).block g6 HNE.out.1).trans H6.out); have HXb := Aside0.mk (((Put1.set g7 2 wr (.int .i64 (2 * N2))).block x0 HNE.out.2.2.2.1).trans HX.out); have HBb := Aside0.mk (HB.out.trans ((Put1.set g7 2 wr (.int .i64 (2 * N2))).below HNE.out.2.2.2.2.2)); clear hc hc7 hfz hr HX H6 H7 HB; go_roundw
              case rel => exact ⟨2 + 1, by simp, by omega, HXb, H6b, H7b, HBb⟩
              case measure => simp [intOf]
            · skip
              have hc : wr.cell? ⟨x0, 3, none⟩ = some (.int .i64 N3) := blk_cell HX.out 3; have hc7 : wr.cell? ⟨g7, 3, none⟩ = some (.int .i64 N3) := blk_cell H7.out 3; have hfz := blk_frozen H7.out 3; have hr := HR.out.2.2.2; go_wp2_with fail; have H7b := Aside0.mk (show (wr.setCell ⟨g7, 3, none⟩ (.int .i64 (2 * N3))).heap[g7]? = some (.cells (tAt N0 N1 N2 N3 (3 + 1)) 22 (0, 0)) from blk_put H7.out 3 _ rfl); have H6b := Aside0.mk (((Put1.set g7 3 wr (.int .i64 (2 * N3))).block g6 HNE.out.1).trans H6.out); have HXb := Aside0.mk (((Put1.set g7 3 wr (.int .i64 (2 * N3))).block x0 HNE.out.2.2.2.1).trans HX.out); have HBb := Aside0.mk (HB.out.trans ((Put1.set g7 3 wr (.int .i64 (2 * N3))).below HNE.out.2.2.2.2.2)); clear hc hc7 hfz hr HX H6 H7 HB; go_roundw
              case rel => exact ⟨3 + 1, by simp, by omega, HXb, H6b, H7b, HBb⟩
              case measure => simp [intOf]
            · skip
              have H7 : Aside0 (wr.heap[g7]? = some (.cells #[.int .i64 (2 * N0), .int .i64 (2 * N1), .int .i64 (2 * N2), .int .i64 (2 * N3)] 22 (0, 0))) := H7; have hlb : decide (((4 : Nat) : Int) < 4) = false := by decide
              have hc0 := blk_cell HX.out 0; have hc1 := blk_cell HX.out 1; have hc2 := blk_cell HX.out 2; have hc3 := blk_cell HX.out 3
              have HA := Aside0.mk (dleast_calls N0 N1 N2 N3 (TP_of HT.out HB.out) (by have := HR.out; unfold wok; simp only [Bool.and_eq_true, inW_iff]; omega))
              go_wp2_with (first
                | (go_at_call 18; refine Aside0.out ?_)
                | fail)
              refine Aside0.mk ?_; refine HA.out.mono ?_; rintro e wa ⟨n, rfl, hl, hb⟩
              have hn : n ≤ 196 := by
                obtain ⟨t, x, hw, hx⟩ := some_way (wOf N0 N1 N2 N3) (fun v hv => by have := HR.out; rcases (show v = 0 ∨ v = 1 ∨ v = 2 ∨ v = 3 by omega) with rfl | rfl | rfl | rfl <;> simp only [wOf] <;> omega)
                have := hl.2 t x hw
                omega
              have HL := Aside0.mk hl; have HN := Aside0.mk hn; have H6a := Aside0.mk ((hb.block g6 (blk_lt H6.out)).trans H6.out); have H7a := Aside0.mk ((hb.block g7 (blk_lt H7.out)).trans H7.out); have HBa := Aside0.mk (below_step HB.out hb); have HA2 := Aside0.mk (dleast_calls N0 N1 N2 (N3 + 1) (TP_of HT.out HBa.out) (by have := HR.out; unfold wok; simp only [Bool.and_eq_true, inW_iff]; omega)); clear hl hb hn HX H6 H7 HB HA hc0 hc1 hc2 hc3
              have hc0 := blk_cell H6a.out 0; have hc1 := blk_cell H6a.out 1; have hc2 := blk_cell H6a.out 2; have hc3 := blk_cell H6a.out 3
              go_wp2_with (first
                | (go_at_call 18; refine Aside0.out ?_)
                | fail)
              refine Aside0.mk ?_; refine HA2.out.mono ?_; rintro e wb ⟨n', rfl, hl, hb⟩; have hge : n ≤ n' := least_grow (fun v hv => by rcases (show v = 0 ∨ v = 1 ∨ v = 2 ∨ v = 3 by omega) with rfl | rfl | rfl | rfl <;> simp only [wOf] <;> omega) HL.out hl; have HGE := Aside0.mk hge; have H7b := Aside0.mk ((hb.block g7 (blk_lt H7a.out)).trans H7a.out); have HBb := Aside0.mk (below_step HBa.out hb); have HA3 := Aside0.mk (dleast_calls (2 * N0) (2 * N1) (2 * N2) (2 * N3) (TP_of HT.out HBb.out) (by have := HR.out; unfold wok; simp only [Bool.and_eq_true, inW_iff]; omega)); clear hl hb hge H6a H7a HBa HA2 hc0 hc1 hc2 hc3
              have hc0 := blk_cell H7b.out 0; have hc1 := blk_cell H7b.out 1; have hc2 := blk_cell H7b.out 2; have hc3 := blk_cell H7b.out 3
              go_wp2_with (first
                | (go_at_call 18; refine Aside0.out ?_)
                | fail)
              refine Aside0.mk ?_; refine HA3.out.mono ?_; rintro e wc ⟨n'', rfl, hl, hb⟩; have htw : n'' = 2 * n := IsLeast.same hl (least_two (fun v hv => by rcases (show v = 0 ∨ v = 1 ∨ v = 2 ∨ v = 3 by omega) with rfl | rfl | rfl | rfl <;> rfl) HL.out); subst htw; have HBc := Aside0.mk (below_step HBb.out hb); have HAP := Aside0.mk (apart_calls (TP_of HT.out HBc.out)); clear hl hb H7b HBb HA3 HL HR hc0 hc1 hc2 hc3
              go_wp2_with (first
                | (go_at_call 19; refine Aside0.out ?_)
                | fail)
              refine Aside0.mk ?_; refine HAP.out.mono ?_; rintro e wd ⟨rfl, hb⟩; have HBd := Aside0.mk (below_step HBc.out hb); clear hb HAP HBc; obtain ⟨z, hz⟩ : ∃ z : Int, z = (n : Int) := ⟨_, rfl⟩; obtain ⟨y, hy⟩ : ∃ y : Int, y = (n' : Int) := ⟨_, rfl⟩; have hzb : 0 ≤ z ∧ z ≤ 196 := by have := HN.out; omega
              have hzy : z ≤ y := by have := HGE.out; omega
              have hge1 : decide (y ≥ z) = true := decide_eq_true hzy; have hge2 : decide (z ≤ y) = true := decide_eq_true hzy; (try rw [show ((2 * n : Nat) : Int) = 2 * (n : Int) by omega]); rw [← hz, ← hy]; clear hz hy HN HGE; go_wp2_with fail; have hrs : (Tryd.f8).results = #[.tmp 4] := by kernel_rfl
              refine bodyPost_ret (results_tmp hrs _ _ _) rfl ?_; exact ⟨by simp, HBd.out⟩
end Go.Proofs.YtijpnlmejphfhaaDoor.P
