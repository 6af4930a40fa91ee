/- DistanceTurns: weights turned with the pattern's turn. No condition. -/
import Derived.Test.YtijpnlmejphfhaaDoorXMDistanceLeast3
namespace Go.Proofs.YtijpnlmejphfhaaDoor.P
open Go Go.Proofs Go.RowKit Go.Proofs.YtijpnlmejphfhaaDoorW.PrintWords Go.Proofs.YtijpnlmejphfhaaDoorW.PrintLast Go.Proofs.YtijpnlmejphfhaaDoorW.PrintMore
set_option linter.unusedVariables false
set_option linter.unusedSimpArgs false

theorem modT (m : Int) (hm : 0 < m) (hm2 : m ≤ 100000) (a : Int) : ∃ N : Nat, IntKind.i64.wrap (Int.tmod (IntKind.u64.wrap a) m) = (N : Int) ∧ (N : Int) < m := by
  have h1 : 0 ≤ IntKind.u64.wrap a := by rw [IntKind.wrap_u64]; omega
  have h2 : 0 ≤ (IntKind.u64.wrap a).tmod m := Int.tmod_nonneg _ h1
  have h3 : (IntKind.u64.wrap a).tmod m < m := Int.tmod_lt_of_pos _ hm
  refine ⟨((IntKind.u64.wrap a).tmod m).toNat, ?_, by omega⟩
  rw [IntKind.wrap_i64]; omega
theorem wsum_turn {W U : Nat → Int} {k : Nat} (hk : k < 4) (h : ∀ v, v < 4 → U v = W ((v + 4 - k) % 4)) (o : Nat → Int) {t : Nat} (ht : t < 4) : ∀ j, wsum U o t j = wsum W o ((t + k) % 4) j
  | 0 => rfl
  | j + 1 => by
    unfold wsum
    rw [wsum_turn hk h o ht j, h _ (ver_lt j t), show (ver j t + 4 - k) % 4 = ver j ((t + k) % 4) by unfold ver; omega]
theorem en_turn {W U : Nat → Int} {k : Nat} (hk : k < 4) (h : ∀ v, v < 4 → U v = W ((v + 4 - k) % 4)) (s i : Nat) {t : Nat} (ht : t < 4) : en U s i t = en W s i ((t + k) % 4) := by
  unfold en ew
  rw [wsum_turn hk h _ ht]
theorem way_turn {W U : Nat → Int} {k : Nat} (hk : k < 4) (h : ∀ v, v < 4 → U v = W ((v + 4 - k) % 4)) {s t x : Nat} (w : Way U s t x) : Way W s ((t + k) % 4) x := by
  induction w with
  | first t ht =>
    rw [en_turn hk h 0 1 ht, show (nx t + k) % 4 = nx ((t + k) % 4) by unfold nx; omega]
    exact Way.first _ (Nat.mod_lt _ (by decide))
  | next s t x i hw hs hi ih =>
    rw [en_turn hk h s i hw.lt.2, show (nx t + k) % 4 = nx ((t + k) % 4) by unfold nx; omega]
    exact Way.next _ _ _ _ ih hs hi
theorem least_turn {W U : Nat → Int} {k : Nat} (hk : k < 4) (h : ∀ v, v < 4 → U v = W ((v + 4 - k) % 4)) {n : Nat} (hl : IsLeast U n) : IsLeast W n := by
  obtain ⟨t, hw⟩ := hl.1
  refine ⟨⟨_, way_turn hk h hw⟩, fun t' x hw' => ?_⟩
  refine hl.2 ((t' + (4 - k) % 4) % 4) x (way_turn (Nat.mod_lt _ (by decide)) (fun v hv => ?_) hw')
  rw [h _ (Nat.mod_lt _ (by decide))]
  congr 1
  omega
def wAt (a b c d n0 n1 n2 n3 : Int) : Nat → Array Value
  | 0 => #[.int .i64 a, .int .i64 b, .int .i64 c, .int .i64 d]
  | 1 => #[.int .i64 n0, .int .i64 b, .int .i64 c, .int .i64 d]
  | 2 => #[.int .i64 n0, .int .i64 n1, .int .i64 c, .int .i64 d]
  | 3 => #[.int .i64 n0, .int .i64 n1, .int .i64 n2, .int .i64 d]
  | _ => #[.int .i64 n0, .int .i64 n1, .int .i64 n2, .int .i64 n3]
def uEt (n0 n1 n2 n3 : Int) (k v q : Nat) : Value := if (q + 4 - k) % 4 < v then .int .i64 (wOf n0 n1 n2 n3 ((q + 4 - k) % 4)) else .int .i64 0
def uAt (n0 n1 n2 n3 : Int) (k v : Nat) : Array Value := #[uEt n0 n1 n2 n3 k v 0, uEt n0 n1 n2 n3 k v 1, uEt n0 n1 n2 n3 k v 2, uEt n0 n1 n2 n3 k v 3]
set_option maxRecDepth 100000 in
set_option maxHeartbeats 8000000 in
theorem lawDTurns.walk (a b c d k0 : Int) (w : World) (hT : TP w := by assumption) :
    Calls Tryd.prog 9 #[.agg #[.int .i64 a, .int .i64 b, .int .i64 c, .int .i64 d], .int .i64 k0] w fun e w' => e = .returned (.bool true) ∧ Below w.heap.size w w' := by
  have HT := Aside0.mk hT
  clear hT
  obtain ⟨n0, hn0, hl0⟩ := modT 8 (by decide) (by decide) a
  obtain ⟨n1, hn1, hl1⟩ := modT 8 (by decide) (by decide) b
  obtain ⟨n2, hn2, hl2⟩ := modT 8 (by decide) (by decide) c
  obtain ⟨n3, hn3, hl3⟩ := modT 8 (by decide) (by decide) d
  obtain ⟨k, hk, hk4⟩ := modT 4 (by decide) (by decide) k0
  have HWK := Aside0.mk (show wok (n0 : Int) (n1 : Int) (n2 : Int) (n3 : Int) = true by
    unfold wok
    simp only [Bool.and_eq_true, inW_iff]
    omega)
  obtain ⟨K, hK⟩ : ∃ K : Int, K = (k : Int) := ⟨_, rfl⟩
  have hkc : K = 0 ∨ K = 1 ∨ K = 2 ∨ K = 3 := by omega
  rw [← hK] at hk
  clear hk4 hK
  go_enter Tryd.func9, Tryd.ntmps9
  go_wp2_with fail
  have hba := below_alloc (Below.refl w.heap.size w) (.cells #[.int .i64 a, .int .i64 b, .int .i64 c, .int .i64 d] 22)
  have hbb := blk_new w (.cells #[.int .i64 a, .int .i64 b, .int .i64 c, .int .i64 d] 22)
  obtain ⟨w1, hw1⟩ : ∃ w1, w1 = w.alloc (.cells #[.int .i64 a, .int .i64 b, .int .i64 c, .int .i64 d] 22) := ⟨_, rfl⟩
  have hz1 : w1.heap.size = w.heap.size + 1 := by rw [hw1, World.size_alloc]
  obtain ⟨x0, hx0⟩ : ∃ x0, x0 = w.heap.size := ⟨_, rfl⟩
  rw [← hw1] at hba hbb
  rw [← hx0] at hbb
  have hba2 := below_alloc (Below.refl w1.heap.size w1) (.cells #[.int .i64 0, .int .i64 0, .int .i64 0, .int .i64 0] 22)
  have hbb2 := blk_new w1 (.cells #[.int .i64 0, .int .i64 0, .int .i64 0, .int .i64 0] 22)
  obtain ⟨g, hg⟩ : ∃ g, g = w1.heap.size := ⟨_, rfl⟩
  rw [← hw1, ← hz1, ← hx0, ← hg]
  obtain ⟨w2, hw2⟩ : ∃ w2, w2 = w1.alloc (.cells #[.int .i64 0, .int .i64 0, .int .i64 0, .int .i64 0] 22) := ⟨_, rfl⟩
  rw [← hw2] at hba2 hbb2 ⊢
  rw [← hg] at hbb2
  have HX0 := Aside0.mk (show w.heap.size ≤ x0 by rw [hx0]; exact Nat.le_refl _)
  have HG0 := Aside0.mk (show w.heap.size ≤ g by omega)
  have HXG := Aside0.mk (show g ≠ x0 by omega)
  have HX1 := Aside0.mk (show w2.heap[x0]? = some (.cells (wAt a b c d n0 n1 n2 n3 0) 22 (0, 0)) from (hba2.block x0 (by omega)).trans hbb)
  have HB1 := Aside0.mk (below_step hba hba2)
  have HU0 := Aside0.mk hbb2
  clear hba2 hbb2 hw2 hg hk hba hbb hw1 hx0 hz1
  rcases hkc with rfl | rfl | rfl | rfl
  · have HU1 := Aside0.mk (show w2.heap[g]? = some (.cells (uAt n0 n1 n2 n3 0 0) 22 (0, 0)) from HU0.out)
    clear HU0
    go_loopw [7] (fun v7 wr => ∃ v : Nat, v7 = .int .i64 (v : Int) ∧ v ≤ 4 ∧ Aside0 (wr.heap[x0]? = some (.cells (wAt a b c d n0 n1 n2 n3 v) 22 (0, 0))) ∧ Aside0 (wr.heap[g]? = some (.cells (uAt n0 n1 n2 n3 0 v) 22 (0, 0))) ∧ Aside0 (Below w.heap.size w wr)) (fun v7 _ => 4 - (intOf v7).toNat)
    case atStart => exact ⟨0, by simp, by omega, HX1, HU1, HB1⟩
    case round =>
      clear HX1 HU1 HB1
      obtain ⟨v, rfl, hv, HX, HU, HB⟩ := hrel
      have hc : v = 0 ∨ v = 1 ∨ v = 2 ∨ v = 3 ∨ v = 4 := by omega
      rcases hc with rfl | rfl | rfl | rfl | rfl
      · skip
        have hfz := blk_frozen HX.out 0
        have hc : wr.cell? ⟨x0, 0, none⟩ = some (.int .i64 a) := blk_cell HX.out 0
        go_wp2_with (first
          | ((with_reducible refine gate_ (.load 3 (.tmp 33)) rfl ?_); refine Aside0.out ?_)
          | fail)
        refine Aside0.mk ?_
        have hX2 : (wr.setCell ⟨x0, 0, none⟩ (.int .i64 n0)).heap[x0]? = some (.cells (wAt a b c d n0 n1 n2 n3 (0 + 1)) 22 (0, 0)) := blk_put HX.out 0 _ rfl
        have hU2 : (wr.setCell ⟨x0, 0, none⟩ (.int .i64 n0)).heap[g]? = some (.cells (uAt n0 n1 n2 n3 0 0) 22 (0, 0)) := ((Put1.set x0 0 wr _).block g (HXG.out)).trans HU.out
        have HB2 := Aside0.mk (show Below w.heap.size w (wr.setCell ⟨x0, 0, none⟩ (.int .i64 n0)) from HB.out.trans ((Put1.set x0 0 wr _).below HX0.out))
        obtain ⟨w2, hw2⟩ : ∃ w2, w2 = wr.setCell ⟨x0, 0, none⟩ (.int .i64 n0) := ⟨_, rfl⟩
        rw [← hw2] at hX2 hU2 HB2 ⊢
        have hfz2 := blk_frozen hU2 0
        have hc2 : w2.cell? ⟨x0, 0, none⟩ = some (.int .i64 n0) := blk_cell hX2 0
        have hc3 : w2.cell? ⟨g, 0, none⟩ = some (.int .i64 0) := blk_cell hU2 0
        have HX2 := Aside0.mk hX2
        have HU2 := Aside0.mk hU2
        clear hX2 hU2 hw2 hc hfz HX HB HU
        go_wp2_with fail
        have HU3 := Aside0.mk (show (w2.setCell ⟨g, 0, none⟩ (.int .i64 n0)).heap[g]? = some (.cells (uAt n0 n1 n2 n3 0 (0 + 1)) 22 (0, 0)) from blk_put HU2.out 0 _ rfl)
        have HX3 := Aside0.mk (show (w2.setCell ⟨g, 0, none⟩ (.int .i64 n0)).heap[x0]? = some (.cells (wAt a b c d n0 n1 n2 n3 (0 + 1)) 22 (0, 0)) from ((Put1.set g 0 w2 _).block x0 (Ne.symm HXG.out)).trans HX2.out)
        have HB3 := Aside0.mk (show Below w.heap.size w (w2.setCell ⟨g, 0, none⟩ (.int .i64 n0)) from HB2.out.trans ((Put1.set g 0 w2 _).below HG0.out))
        clear hfz2 hc2 hc3 HX2 HU2 HB2
        go_roundw
        case rel => exact ⟨0 + 1, by simp, by omega, HX3, HU3, HB3⟩
        case measure => simp [intOf]
      · skip
        have hfz := blk_frozen HX.out 1
        have hc : wr.cell? ⟨x0, 1, none⟩ = some (.int .i64 b) := blk_cell HX.out 1
        go_wp2_with (first
          | ((with_reducible refine gate_ (.load 3 (.tmp 33)) rfl ?_); refine Aside0.out ?_)
          | fail)
        refine Aside0.mk ?_
        have hX2 : (wr.setCell ⟨x0, 1, none⟩ (.int .i64 n1)).heap[x0]? = some (.cells (wAt a b c d n0 n1 n2 n3 (1 + 1)) 22 (0, 0)) := blk_put HX.out 1 _ rfl
        have hU2 : (wr.setCell ⟨x0, 1, none⟩ (.int .i64 n1)).heap[g]? = some (.cells (uAt n0 n1 n2 n3 0 1) 22 (0, 0)) := ((Put1.set x0 1 wr _).block g (HXG.out)).trans HU.out
        have HB2 := Aside0.mk (show Below w.heap.size w (wr.setCell ⟨x0, 1, none⟩ (.int .i64 n1)) from HB.out.trans ((Put1.set x0 1 wr _).below HX0.out))
        obtain ⟨w2, hw2⟩ : ∃ w2, w2 = wr.setCell ⟨x0, 1, none⟩ (.int .i64 n1) := ⟨_, rfl⟩
        rw [← hw2] at hX2 hU2 HB2 ⊢
        have hfz2 := blk_frozen hU2 1
        have hc2 : w2.cell? ⟨x0, 1, none⟩ = some (.int .i64 n1) := blk_cell hX2 1
        have hc3 : w2.cell? ⟨g, 1, none⟩ = some (.int .i64 0) := blk_cell hU2 1
        have HX2 := Aside0.mk hX2
        have HU2 := Aside0.mk hU2
        clear hX2 hU2 hw2 hc hfz HX HB HU
        go_wp2_with fail
        have HU3 := Aside0.mk (show (w2.setCell ⟨g, 1, none⟩ (.int .i64 n1)).heap[g]? = some (.cells (uAt n0 n1 n2 n3 0 (1 + 1)) 22 (0, 0)) from blk_put HU2.out 1 _ rfl)
        have HX3 := Aside0.mk (show (w2.setCell ⟨g, 1, none⟩ (.int .i64 n1)).heap[x0]? = some (.cells (wAt a b c d n0 n1 n2 n3 (1 + 1)) 22 (0, 0)) from ((Put1.set g 1 w2 _).block x0 (Ne.symm HXG.out)).trans HX2.out)
        have HB3 := Aside0.mk (show Below w.heap.size w (w2.setCell ⟨g, 1, none⟩ (.int .i64 n1)) from HB2.out.trans ((Put1.set g 1 w2 _).below HG0.out))
        clear hfz2 hc2 hc3 HX2 HU2 HB2
        go_roundw
        case rel => exact ⟨1 + 1, by simp, by omega, HX3, HU3, HB3⟩
        case measure => simp [intOf]
      · skip
        have hfz := blk_frozen HX.out 2
        have hc : wr.cell? ⟨x0, 2, none⟩ = some (.int .i64 c) := blk_cell HX.out 2
        go_wp2_with (first
          | ((with_reducible refine gate_ (.load 3 (.tmp 33)) rfl ?_); refine Aside0.out ?_)
          | fail)
        refine Aside0.mk ?_
        have hX2 : (wr.setCell ⟨x0, 2, none⟩ (.int .i64 n2)).heap[x0]? = some (.cells (wAt a b c d n0 n1 n2 n3 (2 + 1)) 22 (0, 0)) := blk_put HX.out 2 _ rfl
        have hU2 : (wr.setCell ⟨x0, 2, none⟩ (.int .i64 n2)).heap[g]? = some (.cells (uAt n0 n1 n2 n3 0 2) 22 (0, 0)) := ((Put1.set x0 2 wr _).block g (HXG.out)).trans HU.out
        have HB2 := Aside0.mk (show Below w.heap.size w (wr.setCell ⟨x0, 2, none⟩ (.int .i64 n2)) from HB.out.trans ((Put1.set x0 2 wr _).below HX0.out))
        obtain ⟨w2, hw2⟩ : ∃ w2, w2 = wr.setCell ⟨x0, 2, none⟩ (.int .i64 n2) := ⟨_, rfl⟩
        rw [← hw2] at hX2 hU2 HB2 ⊢
        have hfz2 := blk_frozen hU2 2
        have hc2 : w2.cell? ⟨x0, 2, none⟩ = some (.int .i64 n2) := blk_cell hX2 2
        have hc3 : w2.cell? ⟨g, 2, none⟩ = some (.int .i64 0) := blk_cell hU2 2
        have HX2 := Aside0.mk hX2
        have HU2 := Aside0.mk hU2
        clear hX2 hU2 hw2 hc hfz HX HB HU
        go_wp2_with fail
        have HU3 := Aside0.mk (show (w2.setCell ⟨g, 2, none⟩ (.int .i64 n2)).heap[g]? = some (.cells (uAt n0 n1 n2 n3 0 (2 + 1)) 22 (0, 0)) from blk_put HU2.out 2 _ rfl)
        have HX3 := Aside0.mk (show (w2.setCell ⟨g, 2, none⟩ (.int .i64 n2)).heap[x0]? = some (.cells (wAt a b c d n0 n1 n2 n3 (2 + 1)) 22 (0, 0)) from ((Put1.set g 2 w2 _).block x0 (Ne.symm HXG.out)).trans HX2.out)
        have HB3 := Aside0.mk (show Below w.heap.size w (w2.setCell ⟨g, 2, none⟩ (.int .i64 n2)) from HB2.out.trans ((Put1.set g 2 w2 _).below HG0.out))
        clear hfz2 hc2 hc3 HX2 HU2 HB2
        go_roundw
        case rel => exact ⟨2 + 1, by simp, by omega, HX3, HU3, HB3⟩
        case measure => simp [intOf]
      · skip
        have hfz := blk_frozen HX.out 3
        have hc : wr.cell? ⟨x0, 3, none⟩ = some (.int .i64 d) := blk_cell HX.out 3
        go_wp2_with (first
          | ((with_reducible refine gate_ (.load 3 (.tmp 33)) rfl ?_); refine Aside0.out ?_)
          | fail)
        refine Aside0.mk ?_
        have hX2 : (wr.setCell ⟨x0, 3, none⟩ (.int .i64 n3)).heap[x0]? = some (.cells (wAt a b c d n0 n1 n2 n3 (3 + 1)) 22 (0, 0)) := blk_put HX.out 3 _ rfl
        have hU2 : (wr.setCell ⟨x0, 3, none⟩ (.int .i64 n3)).heap[g]? = some (.cells (uAt n0 n1 n2 n3 0 3) 22 (0, 0)) := ((Put1.set x0 3 wr _).block g (HXG.out)).trans HU.out
        have HB2 := Aside0.mk (show Below w.heap.size w (wr.setCell ⟨x0, 3, none⟩ (.int .i64 n3)) from HB.out.trans ((Put1.set x0 3 wr _).below HX0.out))
        obtain ⟨w2, hw2⟩ : ∃ w2, w2 = wr.setCell ⟨x0, 3, none⟩ (.int .i64 n3) := ⟨_, rfl⟩
        rw [← hw2] at hX2 hU2 HB2 ⊢
        have hfz2 := blk_frozen hU2 3
        have hc2 : w2.cell? ⟨x0, 3, none⟩ = some (.int .i64 n3) := blk_cell hX2 3
        have hc3 : w2.cell? ⟨g, 3, none⟩ = some (.int .i64 0) := blk_cell hU2 3
        have HX2 := Aside0.mk hX2
        have HU2 := Aside0.mk hU2
        clear hX2 hU2 hw2 hc hfz HX HB HU
        go_wp2_with fail
        have HU3 := Aside0.mk (show (w2.setCell ⟨g, 3, none⟩ (.int .i64 n3)).heap[g]? = some (.cells (uAt n0 n1 n2 n3 0 (3 + 1)) 22 (0, 0)) from blk_put HU2.out 3 _ rfl)
        have HX3 := Aside0.mk (show (w2.setCell ⟨g, 3, none⟩ (.int .i64 n3)).heap[x0]? = some (.cells (wAt a b c d n0 n1 n2 n3 (3 + 1)) 22 (0, 0)) from ((Put1.set g 3 w2 _).block x0 (Ne.symm HXG.out)).trans HX2.out)
        have HB3 := Aside0.mk (show Below w.heap.size w (w2.setCell ⟨g, 3, none⟩ (.int .i64 n3)) from HB2.out.trans ((Put1.set g 3 w2 _).below HG0.out))
        clear hfz2 hc2 hc3 HX2 HU2 HB2
        go_roundw
        case rel => exact ⟨3 + 1, by simp, by omega, HX3, HU3, HB3⟩
        case measure => simp [intOf]
      · skip
        clear hn0 hn1 hn2 hn3
        obtain ⟨N0, hN0⟩ : ∃ N0 : Int, N0 = (n0 : Int) := ⟨_, rfl⟩
        obtain ⟨N1, hN1⟩ : ∃ N1 : Int, N1 = (n1 : Int) := ⟨_, rfl⟩
        obtain ⟨N2, hN2⟩ : ∃ N2 : Int, N2 = (n2 : Int) := ⟨_, rfl⟩
        obtain ⟨N3, hN3⟩ : ∃ N3 : Int, N3 = (n3 : Int) := ⟨_, rfl⟩
        rw [← hN0, ← hN1, ← hN2, ← hN3] at HX HU HWK
        clear hN0 hN1 hN2 hN3 hl0 hl1 hl2 hl3
        have HX : Aside0 (wr.heap[x0]? = some (.cells #[.int .i64 N0, .int .i64 N1, .int .i64 N2, .int .i64 N3] 22 (0, 0))) := HX
        have HU : Aside0 (wr.heap[g]? = some (.cells #[.int .i64 N0, .int .i64 N1, .int .i64 N2, .int .i64 N3] 22 (0, 0))) := HU
        have hc0 := blk_cell HX.out 0
        have hc1 := blk_cell HX.out 1
        have hc2 := blk_cell HX.out 2
        have hc3 := blk_cell HX.out 3
        have hlb : decide (((4 : Nat) : Int) < 4) = false := by decide
        have HA := Aside0.mk (dleast_calls N0 N1 N2 N3 (TP_of HT.out HB.out) HWK.out)
        go_wp2_with (first
          | (go_at_call 18; refine Aside0.out ?_)
          | fail)
        refine Aside0.mk ?_
        refine HA.out.mono ?_
        rintro e w2 ⟨n, rfl, hl, hb⟩
        have HL := Aside0.mk hl
        have HU2 := Aside0.mk ((hb.block g (blk_lt HU.out)).trans HU.out)
        have HB2 := Aside0.mk (below_step HB.out hb)
        have hwk : wok N0 N1 N2 N3 = true := by
          have := HWK.out
          unfold wok at this ⊢
          simp only [Bool.and_eq_true] at this ⊢
          exact by refine ⟨⟨⟨?_, ?_⟩, ?_⟩, ?_⟩ <;> simp only [this]
        have HA2 := Aside0.mk (dleast_calls N0 N1 N2 N3 (TP_of HT.out HB2.out) hwk)
        clear hl hb hwk HX HB HU HA hc0 hc1 hc2 hc3
        have hc0 := blk_cell HU2.out 0
        have hc1 := blk_cell HU2.out 1
        have hc2 := blk_cell HU2.out 2
        have hc3 := blk_cell HU2.out 3
        go_wp2_with (first
          | (go_at_call 18; refine Aside0.out ?_)
          | fail)
        refine Aside0.mk ?_
        refine HA2.out.mono ?_
        rintro e w3 ⟨n', rfl, hl, hb⟩
        have hnn : n' = n := IsLeast.same (least_turn (W := wOf N0 N1 N2 N3) (k := 0) (by decide) (fun v hv => by rcases (show v = 0 ∨ v = 1 ∨ v = 2 ∨ v = 3 by omega) with rfl | rfl | rfl | rfl <;> rfl) hl) HL.out
        subst hnn
        have HB3 := Aside0.mk (below_step HB2.out hb)
        have HAP := Aside0.mk (apart_calls (TP_of HT.out HB3.out))
        clear hl hb HU2 HB2 HA2 HL HWK hc0 hc1 hc2 hc3
        go_wp2_with (first
          | (go_at_call 19; refine Aside0.out ?_)
          | fail)
        refine Aside0.mk ?_
        refine HAP.out.mono ?_
        rintro e w4 ⟨rfl, hb⟩
        have HB4 := Aside0.mk (below_step HB3.out hb)
        clear hb HAP HB3
        go_wp2_with fail
        have hrs : (Tryd.f9).results = #[.tmp 4] := by kernel_rfl
        refine bodyPost_ret (results_tmp hrs _ _ _) rfl ?_
        exact ⟨by simp, HB4.out⟩
  · have HU1 := Aside0.mk (show w2.heap[g]? = some (.cells (uAt n0 n1 n2 n3 1 0) 22 (0, 0)) from HU0.out)
    clear HU0
    go_loopw [7] (fun v7 wr => ∃ v : Nat, v7 = .int .i64 (v : Int) ∧ v ≤ 4 ∧ Aside0 (wr.heap[x0]? = some (.cells (wAt a b c d n0 n1 n2 n3 v) 22 (0, 0))) ∧ Aside0 (wr.heap[g]? = some (.cells (uAt n0 n1 n2 n3 1 v) 22 (0, 0))) ∧ Aside0 (Below w.heap.size w wr)) (fun v7 _ => 4 - (intOf v7).toNat)
    case atStart => exact ⟨0, by simp, by omega, HX1, HU1, HB1⟩
    case round =>
      clear HX1 HU1 HB1
      obtain ⟨v, rfl, hv, HX, HU, HB⟩ := hrel
      have hc : v = 0 ∨ v = 1 ∨ v = 2 ∨ v = 3 ∨ v = 4 := by omega
      rcases hc with rfl | rfl | rfl | rfl | rfl
      · skip
        have hfz := blk_frozen HX.out 0
        have hc : wr.cell? ⟨x0, 0, none⟩ = some (.int .i64 a) := blk_cell HX.out 0
        go_wp2_with (first
          | ((with_reducible refine gate_ (.load 3 (.tmp 33)) rfl ?_); refine Aside0.out ?_)
          | fail)
        refine Aside0.mk ?_
        have hX2 : (wr.setCell ⟨x0, 0, none⟩ (.int .i64 n0)).heap[x0]? = some (.cells (wAt a b c d n0 n1 n2 n3 (0 + 1)) 22 (0, 0)) := blk_put HX.out 0 _ rfl
        have hU2 : (wr.setCell ⟨x0, 0, none⟩ (.int .i64 n0)).heap[g]? = some (.cells (uAt n0 n1 n2 n3 1 0) 22 (0, 0)) := ((Put1.set x0 0 wr _).block g (HXG.out)).trans HU.out
        have HB2 := Aside0.mk (show Below w.heap.size w (wr.setCell ⟨x0, 0, none⟩ (.int .i64 n0)) from HB.out.trans ((Put1.set x0 0 wr _).below HX0.out))
        obtain ⟨w2, hw2⟩ : ∃ w2, w2 = wr.setCell ⟨x0, 0, none⟩ (.int .i64 n0) := ⟨_, rfl⟩
        rw [← hw2] at hX2 hU2 HB2 ⊢
        have hfz2 := blk_frozen hU2 1
        have hc2 : w2.cell? ⟨x0, 0, none⟩ = some (.int .i64 n0) := blk_cell hX2 0
        have hc3 : w2.cell? ⟨g, 1, none⟩ = some (.int .i64 0) := blk_cell hU2 1
        have HX2 := Aside0.mk hX2
        have HU2 := Aside0.mk hU2
        clear hX2 hU2 hw2 hc hfz HX HB HU
        go_wp2_with fail
        have HU3 := Aside0.mk (show (w2.setCell ⟨g, 1, none⟩ (.int .i64 n0)).heap[g]? = some (.cells (uAt n0 n1 n2 n3 1 (0 + 1)) 22 (0, 0)) from blk_put HU2.out 1 _ rfl)
        have HX3 := Aside0.mk (show (w2.setCell ⟨g, 1, none⟩ (.int .i64 n0)).heap[x0]? = some (.cells (wAt a b c d n0 n1 n2 n3 (0 + 1)) 22 (0, 0)) from ((Put1.set g 1 w2 _).block x0 (Ne.symm HXG.out)).trans HX2.out)
        have HB3 := Aside0.mk (show Below w.heap.size w (w2.setCell ⟨g, 1, none⟩ (.int .i64 n0)) from HB2.out.trans ((Put1.set g 1 w2 _).below HG0.out))
        clear hfz2 hc2 hc3 HX2 HU2 HB2
        go_roundw
        case rel => exact ⟨0 + 1, by simp, by omega, HX3, HU3, HB3⟩
        case measure => simp [intOf]
      · skip
        have hfz := blk_frozen HX.out 1
        have hc : wr.cell? ⟨x0, 1, none⟩ = some (.int .i64 b) := blk_cell HX.out 1
        go_wp2_with (first
          | ((with_reducible refine gate_ (.load 3 (.tmp 33)) rfl ?_); refine Aside0.out ?_)
          | fail)
        refine Aside0.mk ?_
        have hX2 : (wr.setCell ⟨x0, 1, none⟩ (.int .i64 n1)).heap[x0]? = some (.cells (wAt a b c d n0 n1 n2 n3 (1 + 1)) 22 (0, 0)) := blk_put HX.out 1 _ rfl
        have hU2 : (wr.setCell ⟨x0, 1, none⟩ (.int .i64 n1)).heap[g]? = some (.cells (uAt n0 n1 n2 n3 1 1) 22 (0, 0)) := ((Put1.set x0 1 wr _).block g (HXG.out)).trans HU.out
        have HB2 := Aside0.mk (show Below w.heap.size w (wr.setCell ⟨x0, 1, none⟩ (.int .i64 n1)) from HB.out.trans ((Put1.set x0 1 wr _).below HX0.out))
        obtain ⟨w2, hw2⟩ : ∃ w2, w2 = wr.setCell ⟨x0, 1, none⟩ (.int .i64 n1) := ⟨_, rfl⟩
        rw [← hw2] at hX2 hU2 HB2 ⊢
        have hfz2 := blk_frozen hU2 2
        have hc2 : w2.cell? ⟨x0, 1, none⟩ = some (.int .i64 n1) := blk_cell hX2 1
        have hc3 : w2.cell? ⟨g, 2, none⟩ = some (.int .i64 0) := blk_cell hU2 2
        have HX2 := Aside0.mk hX2
        have HU2 := Aside0.mk hU2
        clear hX2 hU2 hw2 hc hfz HX HB HU
        go_wp2_with fail
        have HU3 := Aside0.mk (show (w2.setCell ⟨g, 2, none⟩ (.int .i64 n1)).heap[g]? = some (.cells (uAt n0 n1 n2 n3 1 (1 + 1)) 22 (0, 0)) from blk_put HU2.out 2 _ rfl)
        have HX3 := Aside0.mk (show (w2.setCell ⟨g, 2, none⟩ (.int .i64 n1)).heap[x0]? = some (.cells (wAt a b c d n0 n1 n2 n3 (1 + 1)) 22 (0, 0)) from ((Put1.set g 2 w2 _).block x0 (Ne.symm HXG.out)).trans HX2.out)
        have HB3 := Aside0.mk (show Below w.heap.size w (w2.setCell ⟨g, 2, none⟩ (.int .i64 n1)) from HB2.out.trans ((Put1.set g 2 w2 _).below HG0.out))
        clear hfz2 hc2 hc3 HX2 HU2 HB2
        go_roundw
        case rel => exact ⟨1 + 1, by simp, by omega, HX3, HU3, HB3⟩
        case measure => simp [intOf]
      · skip
        have hfz := blk_frozen HX.out 2
        have hc : wr.cell? ⟨x0, 2, none⟩ = some (.int .i64 c) := blk_cell HX.out 2
        go_wp2_with (first
          | ((with_reducible refine gate_ (.load 3 (.tmp 33)) rfl ?_); refine Aside0.out ?_)
          | fail)
        refine Aside0.mk ?_
        have hX2 : (wr.setCell ⟨x0, 2, none⟩ (.int .i64 n2)).heap[x0]? = some (.cells (wAt a b c d n0 n1 n2 n3 (2 + 1)) 22 (0, 0)) := blk_put HX.out 2 _ rfl
        have hU2 : (wr.setCell ⟨x0, 2, none⟩ (.int .i64 n2)).heap[g]? = some (.cells (uAt n0 n1 n2 n3 1 2) 22 (0, 0)) := ((Put1.set x0 2 wr _).block g (HXG.out)).trans HU.out
        have HB2 := Aside0.mk (show Below w.heap.size w (wr.setCell ⟨x0, 2, none⟩ (.int .i64 n2)) from HB.out.trans ((Put1.set x0 2 wr _).below HX0.out))
        obtain ⟨w2, hw2⟩ : ∃ w2, w2 = wr.setCell ⟨x0, 2, none⟩ (.int .i64 n2) := ⟨_, rfl⟩
        rw [← hw2] at hX2 hU2 HB2 ⊢
        have hfz2 := blk_frozen hU2 3
        have hc2 : w2.cell? ⟨x0, 2, none⟩ = some (.int .i64 n2) := blk_cell hX2 2
        have hc3 : w2.cell? ⟨g, 3, none⟩ = some (.int .i64 0) := blk_cell hU2 3
        have HX2 := Aside0.mk hX2
        have HU2 := Aside0.mk hU2
        clear hX2 hU2 hw2 hc hfz HX HB HU
        go_wp2_with fail
        have HU3 := Aside0.mk (show (w2.setCell ⟨g, 3, none⟩ (.int .i64 n2)).heap[g]? = some (.cells (uAt n0 n1 n2 n3 1 (2 + 1)) 22 (0, 0)) from blk_put HU2.out 3 _ rfl)
        have HX3 := Aside0.mk (show (w2.setCell ⟨g, 3, none⟩ (.int .i64 n2)).heap[x0]? = some (.cells (wAt a b c d n0 n1 n2 n3 (2 + 1)) 22 (0, 0)) from ((Put1.set g 3 w2 _).block x0 (Ne.symm HXG.out)).trans HX2.out)
        have HB3 := Aside0.mk (show Below w.heap.size w (w2.setCell ⟨g, 3, none⟩ (.int .i64 n2)) from HB2.out.trans ((Put1.set g 3 w2 _).below HG0.out))
        clear hfz2 hc2 hc3 HX2 HU2 HB2
        go_roundw
        case rel => exact ⟨2 + 1, by simp, by omega, HX3, HU3, HB3⟩
        case measure => simp [intOf]
      · skip
        have hfz := blk_frozen HX.out 3
        have hc : wr.cell? ⟨x0, 3, none⟩ = some (.int .i64 d) := blk_cell HX.out 3
        go_wp2_with (first
          | ((with_reducible refine gate_ (.load 3 (.tmp 33)) rfl ?_); refine Aside0.out ?_)
          | fail)
        refine Aside0.mk ?_
        have hX2 : (wr.setCell ⟨x0, 3, none⟩ (.int .i64 n3)).heap[x0]? = some (.cells (wAt a b c d n0 n1 n2 n3 (3 + 1)) 22 (0, 0)) := blk_put HX.out 3 _ rfl
        have hU2 : (wr.setCell ⟨x0, 3, none⟩ (.int .i64 n3)).heap[g]? = some (.cells (uAt n0 n1 n2 n3 1 3) 22 (0, 0)) := ((Put1.set x0 3 wr _).block g (HXG.out)).trans HU.out
        have HB2 := Aside0.mk (show Below w.heap.size w (wr.setCell ⟨x0, 3, none⟩ (.int .i64 n3)) from HB.out.trans ((Put1.set x0 3 wr _).below HX0.out))
        obtain ⟨w2, hw2⟩ : ∃ w2, w2 = wr.setCell ⟨x0, 3, none⟩ (.int .i64 n3) := ⟨_, rfl⟩
        rw [← hw2] at hX2 hU2 HB2 ⊢
        have hfz2 := blk_frozen hU2 0
        have hc2 : w2.cell? ⟨x0, 3, none⟩ = some (.int .i64 n3) := blk_cell hX2 3
        have hc3 : w2.cell? ⟨g, 0, none⟩ = some (.int .i64 0) := blk_cell hU2 0
        have HX2 := Aside0.mk hX2
        have HU2 := Aside0.mk hU2
        clear hX2 hU2 hw2 hc hfz HX HB HU
        go_wp2_with fail
        have HU3 := Aside0.mk (show (w2.setCell ⟨g, 0, none⟩ (.int .i64 n3)).heap[g]? = some (.cells (uAt n0 n1 n2 n3 1 (3 + 1)) 22 (0, 0)) from blk_put HU2.out 0 _ rfl)
        have HX3 := Aside0.mk (show (w2.setCell ⟨g, 0, none⟩ (.int .i64 n3)).heap[x0]? = some (.cells (wAt a b c d n0 n1 n2 n3 (3 + 1)) 22 (0, 0)) from ((Put1.set g 0 w2 _).block x0 (Ne.symm HXG.out)).trans HX2.out)
        have HB3 := Aside0.mk (show Below w.heap.size w (w2.setCell ⟨g, 0, none⟩ (.int .i64 n3)) from HB2.out.trans ((Put1.set g 0 w2 _).below HG0.out))
        clear hfz2 hc2 hc3 HX2 HU2 HB2
        go_roundw
        case rel => exact ⟨3 + 1, by simp, by omega, HX3, HU3, HB3⟩
        case measure => simp [intOf]
      · skip
        clear hn0 hn1 hn2 hn3
        obtain ⟨N0, hN0⟩ : ∃ N0 : Int, N0 = (n0 : Int) := ⟨_, rfl⟩
        obtain ⟨N1, hN1⟩ : ∃ N1 : Int, N1 = (n1 : Int) := ⟨_, rfl⟩
        obtain ⟨N2, hN2⟩ : ∃ N2 : Int, N2 = (n2 : Int) := ⟨_, rfl⟩
        obtain ⟨N3, hN3⟩ : ∃ N3 : Int, N3 = (n3 : Int) := ⟨_, rfl⟩
        rw [← hN0, ← hN1, ← hN2, ← hN3] at HX HU HWK
        clear hN0 hN1 hN2 hN3 hl0 hl1 hl2 hl3
        have HX : Aside0 (wr.heap[x0]? = some (.cells #[.int .i64 N0, .int .i64 N1, .int .i64 N2, .int .i64 N3] 22 (0, 0))) := HX
        have HU : Aside0 (wr.heap[g]? = some (.cells #[.int .i64 N3, .int .i64 N0, .int .i64 N1, .int .i64 N2] 22 (0, 0))) := HU
        have hc0 := blk_cell HX.out 0
        have hc1 := blk_cell HX.out 1
        have hc2 := blk_cell HX.out 2
        have hc3 := blk_cell HX.out 3
        have hlb : decide (((4 : Nat) : Int) < 4) = false := by decide
        have HA := Aside0.mk (dleast_calls N0 N1 N2 N3 (TP_of HT.out HB.out) HWK.out)
        go_wp2_with (first
          | (go_at_call 18; refine Aside0.out ?_)
          | fail)
        refine Aside0.mk ?_
        refine HA.out.mono ?_
        rintro e w2 ⟨n, rfl, hl, hb⟩
        have HL := Aside0.mk hl
        have HU2 := Aside0.mk ((hb.block g (blk_lt HU.out)).trans HU.out)
        have HB2 := Aside0.mk (below_step HB.out hb)
        have hwk : wok N3 N0 N1 N2 = true := by
          have := HWK.out
          unfold wok at this ⊢
          simp only [Bool.and_eq_true] at this ⊢
          exact by refine ⟨⟨⟨?_, ?_⟩, ?_⟩, ?_⟩ <;> simp only [this]
        have HA2 := Aside0.mk (dleast_calls N3 N0 N1 N2 (TP_of HT.out HB2.out) hwk)
        clear hl hb hwk HX HB HU HA hc0 hc1 hc2 hc3
        have hc0 := blk_cell HU2.out 0
        have hc1 := blk_cell HU2.out 1
        have hc2 := blk_cell HU2.out 2
        have hc3 := blk_cell HU2.out 3
        go_wp2_with (first
          | (go_at_call 18; refine Aside0.out ?_)
          | fail)
        refine Aside0.mk ?_
        refine HA2.out.mono ?_
        rintro e w3 ⟨n', rfl, hl, hb⟩
        have hnn : n' = n := IsLeast.same (least_turn (W := wOf N0 N1 N2 N3) (k := 1) (by decide) (fun v hv => by rcases (show v = 0 ∨ v = 1 ∨ v = 2 ∨ v = 3 by omega) with rfl | rfl | rfl | rfl <;> rfl) hl) HL.out
        subst hnn
        have HB3 := Aside0.mk (below_step HB2.out hb)
        have HAP := Aside0.mk (apart_calls (TP_of HT.out HB3.out))
        clear hl hb HU2 HB2 HA2 HL HWK hc0 hc1 hc2 hc3
        go_wp2_with (first
          | (go_at_call 19; refine Aside0.out ?_)
          | fail)
        refine Aside0.mk ?_
        refine HAP.out.mono ?_
        rintro e w4 ⟨rfl, hb⟩
        have HB4 := Aside0.mk (below_step HB3.out hb)
        clear hb HAP HB3
        go_wp2_with fail
        have hrs : (Tryd.f9).results = #[.tmp 4] := by kernel_rfl
        refine bodyPost_ret (results_tmp hrs _ _ _) rfl ?_
        exact ⟨by simp, HB4.out⟩
  · have HU1 := Aside0.mk (show w2.heap[g]? = some (.cells (uAt n0 n1 n2 n3 2 0) 22 (0, 0)) from HU0.out)
    clear HU0
    go_loopw [7] (fun v7 wr => ∃ v : Nat, v7 = .int .i64 (v : Int) ∧ v ≤ 4 ∧ Aside0 (wr.heap[x0]? = some (.cells (wAt a b c d n0 n1 n2 n3 v) 22 (0, 0))) ∧ Aside0 (wr.heap[g]? = some (.cells (uAt n0 n1 n2 n3 2 v) 22 (0, 0))) ∧ Aside0 (Below w.heap.size w wr)) (fun v7 _ => 4 - (intOf v7).toNat)
    case atStart => exact ⟨0, by simp, by omega, HX1, HU1, HB1⟩
    case round =>
      clear HX1 HU1 HB1
      obtain ⟨v, rfl, hv, HX, HU, HB⟩ := hrel
      have hc : v = 0 ∨ v = 1 ∨ v = 2 ∨ v = 3 ∨ v = 4 := by omega
      rcases hc with rfl | rfl | rfl | rfl | rfl
      · skip
        have hfz := blk_frozen HX.out 0
        have hc : wr.cell? ⟨x0, 0, none⟩ = some (.int .i64 a) := blk_cell HX.out 0
        go_wp2_with (first
          | ((with_reducible refine gate_ (.load 3 (.tmp 33)) rfl ?_); refine Aside0.out ?_)
          | fail)
        refine Aside0.mk ?_
        have hX2 : (wr.setCell ⟨x0, 0, none⟩ (.int .i64 n0)).heap[x0]? = some (.cells (wAt a b c d n0 n1 n2 n3 (0 + 1)) 22 (0, 0)) := blk_put HX.out 0 _ rfl
        have hU2 : (wr.setCell ⟨x0, 0, none⟩ (.int .i64 n0)).heap[g]? = some (.cells (uAt n0 n1 n2 n3 2 0) 22 (0, 0)) := ((Put1.set x0 0 wr _).block g (HXG.out)).trans HU.out
        have HB2 := Aside0.mk (show Below w.heap.size w (wr.setCell ⟨x0, 0, none⟩ (.int .i64 n0)) from HB.out.trans ((Put1.set x0 0 wr _).below HX0.out))
        obtain ⟨w2, hw2⟩ : ∃ w2, w2 = wr.setCell ⟨x0, 0, none⟩ (.int .i64 n0) := ⟨_, rfl⟩
        rw [← hw2] at hX2 hU2 HB2 ⊢
        have hfz2 := blk_frozen hU2 2
        have hc2 : w2.cell? ⟨x0, 0, none⟩ = some (.int .i64 n0) := blk_cell hX2 0
        have hc3 : w2.cell? ⟨g, 2, none⟩ = some (.int .i64 0) := blk_cell hU2 2
        have HX2 := Aside0.mk hX2
        have HU2 := Aside0.mk hU2
        clear hX2 hU2 hw2 hc hfz HX HB HU
        go_wp2_with fail
        have HU3 := Aside0.mk (show (w2.setCell ⟨g, 2, none⟩ (.int .i64 n0)).heap[g]? = some (.cells (uAt n0 n1 n2 n3 2 (0 + 1)) 22 (0, 0)) from blk_put HU2.out 2 _ rfl)
        have HX3 := Aside0.mk (show (w2.setCell ⟨g, 2, none⟩ (.int .i64 n0)).heap[x0]? = some (.cells (wAt a b c d n0 n1 n2 n3 (0 + 1)) 22 (0, 0)) from ((Put1.set g 2 w2 _).block x0 (Ne.symm HXG.out)).trans HX2.out)
        have HB3 := Aside0.mk (show Below w.heap.size w (w2.setCell ⟨g, 2, none⟩ (.int .i64 n0)) from HB2.out.trans ((Put1.set g 2 w2 _).below HG0.out))
        clear hfz2 hc2 hc3 HX2 HU2 HB2
        go_roundw
        case rel => exact ⟨0 + 1, by simp, by omega, HX3, HU3, HB3⟩
        case measure => simp [intOf]
      · skip
        have hfz := blk_frozen HX.out 1
        have hc : wr.cell? ⟨x0, 1, none⟩ = some (.int .i64 b) := blk_cell HX.out 1
        go_wp2_with (first
          | ((with_reducible refine gate_ (.load 3 (.tmp 33)) rfl ?_); refine Aside0.out ?_)
          | fail)
        refine Aside0.mk ?_
        have hX2 : (wr.setCell ⟨x0, 1, none⟩ (.int .i64 n1)).heap[x0]? = some (.cells (wAt a b c d n0 n1 n2 n3 (1 + 1)) 22 (0, 0)) := blk_put HX.out 1 _ rfl
        have hU2 : (wr.setCell ⟨x0, 1, none⟩ (.int .i64 n1)).heap[g]? = some (.cells (uAt n0 n1 n2 n3 2 1) 22 (0, 0)) := ((Put1.set x0 1 wr _).block g (HXG.out)).trans HU.out
        have HB2 := Aside0.mk (show Below w.heap.size w (wr.setCell ⟨x0, 1, none⟩ (.int .i64 n1)) from HB.out.trans ((Put1.set x0 1 wr _).below HX0.out))
        obtain ⟨w2, hw2⟩ : ∃ w2, w2 = wr.setCell ⟨x0, 1, none⟩ (.int .i64 n1) := ⟨_, rfl⟩
        rw [← hw2] at hX2 hU2 HB2 ⊢
        have hfz2 := blk_frozen hU2 3
        have hc2 : w2.cell? ⟨x0, 1, none⟩ = some (.int .i64 n1) := blk_cell hX2 1
        have hc3 : w2.cell? ⟨g, 3, none⟩ = some (.int .i64 0) := blk_cell hU2 3
        have HX2 := Aside0.mk hX2
        have HU2 := Aside0.mk hU2
        clear hX2 hU2 hw2 hc hfz HX HB HU
        go_wp2_with fail
        have HU3 := Aside0.mk (show (w2.setCell ⟨g, 3, none⟩ (.int .i64 n1)).heap[g]? = some (.cells (uAt n0 n1 n2 n3 2 (1 + 1)) 22 (0, 0)) from blk_put HU2.out 3 _ rfl)
        have HX3 := Aside0.mk (show (w2.setCell ⟨g, 3, none⟩ (.int .i64 n1)).heap[x0]? = some (.cells (wAt a b c d n0 n1 n2 n3 (1 + 1)) 22 (0, 0)) from ((Put1.set g 3 w2 _).block x0 (Ne.symm HXG.out)).trans HX2.out)
        have HB3 := Aside0.mk (show Below w.heap.size w (w2.setCell ⟨g, 3, none⟩ (.int .i64 n1)) from HB2.out.trans ((Put1.set g 3 w2 _).below HG0.out))
        clear hfz2 hc2 hc3 HX2 HU2 HB2
        go_roundw
        case rel => exact ⟨1 + 1, by simp, by omega, HX3, HU3, HB3⟩
        case measure => simp [intOf]
      · skip
        have hfz := blk_frozen HX.out 2
        have hc : wr.cell? ⟨x0, 2, none⟩ = some (.int .i64 c) := blk_cell HX.out 2
        go_wp2_with (first
          | ((with_reducible refine gate_ (.load 3 (.tmp 33)) rfl ?_); refine Aside0.out ?_)
          | fail)
        refine Aside0.mk ?_
        have hX2 : (wr.setCell ⟨x0, 2, none⟩ (.int .i64 n2)).heap[x0]? = some (.cells (wAt a b c d n0 n1 n2 n3 (2 + 1)) 22 (0, 0)) := blk_put HX.out 2 _ rfl
        have hU2 : (wr.setCell ⟨x0, 2, none⟩ (.int .i64 n2)).heap[g]? = some (.cells (uAt n0 n1 n2 n3 2 2) 22 (0, 0)) := ((Put1.set x0 2 wr _).block g (HXG.out)).trans HU.out
        have HB2 := Aside0.mk (show Below w.heap.size w (wr.setCell ⟨x0, 2, none⟩ (.int .i64 n2)) from HB.out.trans ((Put1.set x0 2 wr _).below HX0.out))
        obtain ⟨w2, hw2⟩ : ∃ w2, w2 = wr.setCell ⟨x0, 2, none⟩ (.int .i64 n2) := ⟨_, rfl⟩
        rw [← hw2] at hX2 hU2 HB2 ⊢
        have hfz2 := blk_frozen hU2 0
        have hc2 : w2.cell? ⟨x0, 2, none⟩ = some (.int .i64 n2) := blk_cell hX2 2
        have hc3 : w2.cell? ⟨g, 0, none⟩ = some (.int .i64 0) := blk_cell hU2 0
        have HX2 := Aside0.mk hX2
        have HU2 := Aside0.mk hU2
        clear hX2 hU2 hw2 hc hfz HX HB HU
        go_wp2_with fail
        have HU3 := Aside0.mk (show (w2.setCell ⟨g, 0, none⟩ (.int .i64 n2)).heap[g]? = some (.cells (uAt n0 n1 n2 n3 2 (2 + 1)) 22 (0, 0)) from blk_put HU2.out 0 _ rfl)
        have HX3 := Aside0.mk (show (w2.setCell ⟨g, 0, none⟩ (.int .i64 n2)).heap[x0]? = some (.cells (wAt a b c d n0 n1 n2 n3 (2 + 1)) 22 (0, 0)) from ((Put1.set g 0 w2 _).block x0 (Ne.symm HXG.out)).trans HX2.out)
        have HB3 := Aside0.mk (show Below w.heap.size w (w2.setCell ⟨g, 0, none⟩ (.int .i64 n2)) from HB2.out.trans ((Put1.set g 0 w2 _).below HG0.out))
        clear hfz2 hc2 hc3 HX2 HU2 HB2
        go_roundw
        case rel => exact ⟨2 + 1, by simp, by omega, HX3, HU3, HB3⟩
        case measure => simp [intOf]
      · skip
        have hfz := blk_frozen HX.out 3
        have hc : wr.cell? ⟨x0, 3, none⟩ = some (.int .i64 d) := blk_cell HX.out 3
        go_wp2_with (first
          | ((with_reducible refine gate_ (.load 3 (.tmp 33)) rfl ?_); refine Aside0.out ?_)
          | fail)
        refine Aside0.mk ?_
        have hX2 : (wr.setCell ⟨x0, 3, none⟩ (.int .i64 n3)).heap[x0]? = some (.cells (wAt a b c d n0 n1 n2 n3 (3 + 1)) 22 (0, 0)) := blk_put HX.out 3 _ rfl
        have hU2 : (wr.setCell ⟨x0, 3, none⟩ (.int .i64 n3)).heap[g]? = some (.cells (uAt n0 n1 n2 n3 2 3) 22 (0, 0)) := ((Put1.set x0 3 wr _).block g (HXG.out)).trans HU.out
        have HB2 := Aside0.mk (show Below w.heap.size w (wr.setCell ⟨x0, 3, none⟩ (.int .i64 n3)) from HB.out.trans ((Put1.set x0 3 wr _).below HX0.out))
        obtain ⟨w2, hw2⟩ : ∃ w2, w2 = wr.setCell ⟨x0, 3, none⟩ (.int .i64 n3) := ⟨_, rfl⟩
        rw [← hw2] at hX2 hU2 HB2 ⊢
        have hfz2 := blk_frozen hU2 1
        have hc2 : w2.cell? ⟨x0, 3, none⟩ = some (.int .i64 n3) := blk_cell hX2 3
        have hc3 : w2.cell? ⟨g, 1, none⟩ = some (.int .i64 0) := blk_cell hU2 1
        have HX2 := Aside0.mk hX2
        have HU2 := Aside0.mk hU2
        clear hX2 hU2 hw2 hc hfz HX HB HU
        go_wp2_with fail
        have HU3 := Aside0.mk (show (w2.setCell ⟨g, 1, none⟩ (.int .i64 n3)).heap[g]? = some (.cells (uAt n0 n1 n2 n3 2 (3 + 1)) 22 (0, 0)) from blk_put HU2.out 1 _ rfl)
        have HX3 := Aside0.mk (show (w2.setCell ⟨g, 1, none⟩ (.int .i64 n3)).heap[x0]? = some (.cells (wAt a b c d n0 n1 n2 n3 (3 + 1)) 22 (0, 0)) from ((Put1.set g 1 w2 _).block x0 (Ne.symm HXG.out)).trans HX2.out)
        have HB3 := Aside0.mk (show Below w.heap.size w (w2.setCell ⟨g, 1, none⟩ (.int .i64 n3)) from HB2.out.trans ((Put1.set g 1 w2 _).below HG0.out))
        clear hfz2 hc2 hc3 HX2 HU2 HB2
        go_roundw
        case rel => exact ⟨3 + 1, by simp, by omega, HX3, HU3, HB3⟩
        case measure => simp [intOf]
      · skip
        clear hn0 hn1 hn2 hn3
        obtain ⟨N0, hN0⟩ : ∃ N0 : Int, N0 = (n0 : Int) := ⟨_, rfl⟩
        obtain ⟨N1, hN1⟩ : ∃ N1 : Int, N1 = (n1 : Int) := ⟨_, rfl⟩
        obtain ⟨N2, hN2⟩ : ∃ N2 : Int, N2 = (n2 : Int) := ⟨_, rfl⟩
        obtain ⟨N3, hN3⟩ : ∃ N3 : Int, N3 = (n3 : Int) := ⟨_, rfl⟩
        rw [← hN0, ← hN1, ← hN2, ← hN3] at HX HU HWK
        clear hN0 hN1 hN2 hN3 hl0 hl1 hl2 hl3
        have HX : Aside0 (wr.heap[x0]? = some (.cells #[.int .i64 N0, .int .i64 N1, .int .i64 N2, .int .i64 N3] 22 (0, 0))) := HX
        have HU : Aside0 (wr.heap[g]? = some (.cells #[.int .i64 N2, .int .i64 N3, .int .i64 N0, .int .i64 N1] 22 (0, 0))) := HU
        have hc0 := blk_cell HX.out 0
        have hc1 := blk_cell HX.out 1
        have hc2 := blk_cell HX.out 2
        have hc3 := blk_cell HX.out 3
        have hlb : decide (((4 : Nat) : Int) < 4) = false := by decide
        have HA := Aside0.mk (dleast_calls N0 N1 N2 N3 (TP_of HT.out HB.out) HWK.out)
        go_wp2_with (first
          | (go_at_call 18; refine Aside0.out ?_)
          | fail)
        refine Aside0.mk ?_
        refine HA.out.mono ?_
        rintro e w2 ⟨n, rfl, hl, hb⟩
        have HL := Aside0.mk hl
        have HU2 := Aside0.mk ((hb.block g (blk_lt HU.out)).trans HU.out)
        have HB2 := Aside0.mk (below_step HB.out hb)
        have hwk : wok N2 N3 N0 N1 = true := by
          have := HWK.out
          unfold wok at this ⊢
          simp only [Bool.and_eq_true] at this ⊢
          exact by refine ⟨⟨⟨?_, ?_⟩, ?_⟩, ?_⟩ <;> simp only [this]
        have HA2 := Aside0.mk (dleast_calls N2 N3 N0 N1 (TP_of HT.out HB2.out) hwk)
        clear hl hb hwk HX HB HU HA hc0 hc1 hc2 hc3
        have hc0 := blk_cell HU2.out 0
        have hc1 := blk_cell HU2.out 1
        have hc2 := blk_cell HU2.out 2
        have hc3 := blk_cell HU2.out 3
        go_wp2_with (first
          | (go_at_call 18; refine Aside0.out ?_)
          | fail)
        refine Aside0.mk ?_
        refine HA2.out.mono ?_
        rintro e w3 ⟨n', rfl, hl, hb⟩
        have hnn : n' = n := IsLeast.same (least_turn (W := wOf N0 N1 N2 N3) (k := 2) (by decide) (fun v hv => by rcases (show v = 0 ∨ v = 1 ∨ v = 2 ∨ v = 3 by omega) with rfl | rfl | rfl | rfl <;> rfl) hl) HL.out
        subst hnn
        have HB3 := Aside0.mk (below_step HB2.out hb)
        have HAP := Aside0.mk (apart_calls (TP_of HT.out HB3.out))
        clear hl hb HU2 HB2 HA2 HL HWK hc0 hc1 hc2 hc3
        go_wp2_with (first
          | (go_at_call 19; refine Aside0.out ?_)
          | fail)
        refine Aside0.mk ?_
        refine HAP.out.mono ?_
        rintro e w4 ⟨rfl, hb⟩
        have HB4 := Aside0.mk (below_step HB3.out hb)
        clear hb HAP HB3
        go_wp2_with fail
        have hrs : (Tryd.f9).results = #[.tmp 4] := by kernel_rfl
        refine bodyPost_ret (results_tmp hrs _ _ _) rfl ?_
        exact ⟨by simp, HB4.out⟩
  · have HU1 := Aside0.mk (show w2.heap[g]? = some (.cells (uAt n0 n1 n2 n3 3 0) 22 (0, 0)) from HU0.out)
    clear HU0
    go_loopw [7] (fun v7 wr => ∃ v : Nat, v7 = .int .i64 (v : Int) ∧ v ≤ 4 ∧ Aside0 (wr.heap[x0]? = some (.cells (wAt a b c d n0 n1 n2 n3 v) 22 (0, 0))) ∧ Aside0 (wr.heap[g]? = some (.cells (uAt n0 n1 n2 n3 3 v) 22 (0, 0))) ∧ Aside0 (Below w.heap.size w wr)) (fun v7 _ => 4 - (intOf v7).toNat)
    case atStart => exact ⟨0, by simp, by omega, HX1, HU1, HB1⟩
    case round =>
      clear HX1 HU1 HB1
      obtain ⟨v, rfl, hv, HX, HU, HB⟩ := hrel
      have hc : v = 0 ∨ v = 1 ∨ v = 2 ∨ v = 3 ∨ v = 4 := by omega
      rcases hc with rfl | rfl | rfl | rfl | rfl
      · skip
        have hfz := blk_frozen HX.out 0
        have hc : wr.cell? ⟨x0, 0, none⟩ = some (.int .i64 a) := blk_cell HX.out 0
        go_wp2_with (first
          | ((with_reducible refine gate_ (.load 3 (.tmp 33)) rfl ?_); refine Aside0.out ?_)
          | fail)
        refine Aside0.mk ?_
        have hX2 : (wr.setCell ⟨x0, 0, none⟩ (.int .i64 n0)).heap[x0]? = some (.cells (wAt a b c d n0 n1 n2 n3 (0 + 1)) 22 (0, 0)) := blk_put HX.out 0 _ rfl
        have hU2 : (wr.setCell ⟨x0, 0, none⟩ (.int .i64 n0)).heap[g]? = some (.cells (uAt n0 n1 n2 n3 3 0) 22 (0, 0)) := ((Put1.set x0 0 wr _).block g (HXG.out)).trans HU.out
        have HB2 := Aside0.mk (show Below w.heap.size w (wr.setCell ⟨x0, 0, none⟩ (.int .i64 n0)) from HB.out.trans ((Put1.set x0 0 wr _).below HX0.out))
        obtain ⟨w2, hw2⟩ : ∃ w2, w2 = wr.setCell ⟨x0, 0, none⟩ (.int .i64 n0) := ⟨_, rfl⟩
        rw [← hw2] at hX2 hU2 HB2 ⊢
        have hfz2 := blk_frozen hU2 3
        have hc2 : w2.cell? ⟨x0, 0, none⟩ = some (.int .i64 n0) := blk_cell hX2 0
        have hc3 : w2.cell? ⟨g, 3, none⟩ = some (.int .i64 0) := blk_cell hU2 3
        have HX2 := Aside0.mk hX2
        have HU2 := Aside0.mk hU2
        clear hX2 hU2 hw2 hc hfz HX HB HU
        go_wp2_with fail
        have HU3 := Aside0.mk (show (w2.setCell ⟨g, 3, none⟩ (.int .i64 n0)).heap[g]? = some (.cells (uAt n0 n1 n2 n3 3 (0 + 1)) 22 (0, 0)) from blk_put HU2.out 3 _ rfl)
        have HX3 := Aside0.mk (show (w2.setCell ⟨g, 3, none⟩ (.int .i64 n0)).heap[x0]? = some (.cells (wAt a b c d n0 n1 n2 n3 (0 + 1)) 22 (0, 0)) from ((Put1.set g 3 w2 _).block x0 (Ne.symm HXG.out)).trans HX2.out)
        have HB3 := Aside0.mk (show Below w.heap.size w (w2.setCell ⟨g, 3, none⟩ (.int .i64 n0)) from HB2.out.trans ((Put1.set g 3 w2 _).below HG0.out))
        clear hfz2 hc2 hc3 HX2 HU2 HB2
        go_roundw
        case rel => exact ⟨0 + 1, by simp, by omega, HX3, HU3, HB3⟩
        case measure => simp [intOf]
      · skip
        have hfz := blk_frozen HX.out 1
        have hc : wr.cell? ⟨x0, 1, none⟩ = some (.int .i64 b) := blk_cell HX.out 1
        go_wp2_with (first
          | ((with_reducible refine gate_ (.load 3 (.tmp 33)) rfl ?_); refine Aside0.out ?_)
          | fail)
        refine Aside0.mk ?_
        have hX2 : (wr.setCell ⟨x0, 1, none⟩ (.int .i64 n1)).heap[x0]? = some (.cells (wAt a b c d n0 n1 n2 n3 (1 + 1)) 22 (0, 0)) := blk_put HX.out 1 _ rfl
        have hU2 : (wr.setCell ⟨x0, 1, none⟩ (.int .i64 n1)).heap[g]? = some (.cells (uAt n0 n1 n2 n3 3 1) 22 (0, 0)) := ((Put1.set x0 1 wr _).block g (HXG.out)).trans HU.out
        have HB2 := Aside0.mk (show Below w.heap.size w (wr.setCell ⟨x0, 1, none⟩ (.int .i64 n1)) from HB.out.trans ((Put1.set x0 1 wr _).below HX0.out))
        obtain ⟨w2, hw2⟩ : ∃ w2, w2 = wr.setCell ⟨x0, 1, none⟩ (.int .i64 n1) := ⟨_, rfl⟩
        rw [← hw2] at hX2 hU2 HB2 ⊢
        have hfz2 := blk_frozen hU2 0
        have hc2 : w2.cell? ⟨x0, 1, none⟩ = some (.int .i64 n1) := blk_cell hX2 1
        have hc3 : w2.cell? ⟨g, 0, none⟩ = some (.int .i64 0) := blk_cell hU2 0
        have HX2 := Aside0.mk hX2
        have HU2 := Aside0.mk hU2
        clear hX2 hU2 hw2 hc hfz HX HB HU
        go_wp2_with fail
        have HU3 := Aside0.mk (show (w2.setCell ⟨g, 0, none⟩ (.int .i64 n1)).heap[g]? = some (.cells (uAt n0 n1 n2 n3 3 (1 + 1)) 22 (0, 0)) from blk_put HU2.out 0 _ rfl)
        have HX3 := Aside0.mk (show (w2.setCell ⟨g, 0, none⟩ (.int .i64 n1)).heap[x0]? = some (.cells (wAt a b c d n0 n1 n2 n3 (1 + 1)) 22 (0, 0)) from ((Put1.set g 0 w2 _).block x0 (Ne.symm HXG.out)).trans HX2.out)
        have HB3 := Aside0.mk (show Below w.heap.size w (w2.setCell ⟨g, 0, none⟩ (.int .i64 n1)) from HB2.out.trans ((Put1.set g 0 w2 _).below HG0.out))
        clear hfz2 hc2 hc3 HX2 HU2 HB2
        go_roundw
        case rel => exact ⟨1 + 1, by simp, by omega, HX3, HU3, HB3⟩
        case measure => simp [intOf]
      · skip
        have hfz := blk_frozen HX.out 2
        have hc : wr.cell? ⟨x0, 2, none⟩ = some (.int .i64 c) := blk_cell HX.out 2
        go_wp2_with (first
          | ((with_reducible refine gate_ (.load 3 (.tmp 33)) rfl ?_); refine Aside0.out ?_)
          | fail)
        refine Aside0.mk ?_
        have hX2 : (wr.setCell ⟨x0, 2, none⟩ (.int .i64 n2)).heap[x0]? = some (.cells (wAt a b c d n0 n1 n2 n3 (2 + 1)) 22 (0, 0)) := blk_put HX.out 2 _ rfl
        have hU2 : (wr.setCell ⟨x0, 2, none⟩ (.int .i64 n2)).heap[g]? = some (.cells (uAt n0 n1 n2 n3 3 2) 22 (0, 0)) := ((Put1.set x0 2 wr _).block g (HXG.out)).trans HU.out
        have HB2 := Aside0.mk (show Below w.heap.size w (wr.setCell ⟨x0, 2, none⟩ (.int .i64 n2)) from HB.out.trans ((Put1.set x0 2 wr _).below HX0.out))
        obtain ⟨w2, hw2⟩ : ∃ w2, w2 = wr.setCell ⟨x0, 2, none⟩ (.int .i64 n2) := ⟨_, rfl⟩
        rw [← hw2] at hX2 hU2 HB2 ⊢
        have hfz2 := blk_frozen hU2 1
        have hc2 : w2.cell? ⟨x0, 2, none⟩ = some (.int .i64 n2) := blk_cell hX2 2
        have hc3 : w2.cell? ⟨g, 1, none⟩ = some (.int .i64 0) := blk_cell hU2 1
        have HX2 := Aside0.mk hX2
        have HU2 := Aside0.mk hU2
        clear hX2 hU2 hw2 hc hfz HX HB HU
        go_wp2_with fail
        have HU3 := Aside0.mk (show (w2.setCell ⟨g, 1, none⟩ (.int .i64 n2)).heap[g]? = some (.cells (uAt n0 n1 n2 n3 3 (2 + 1)) 22 (0, 0)) from blk_put HU2.out 1 _ rfl)
        have HX3 := Aside0.mk (show (w2.setCell ⟨g, 1, none⟩ (.int .i64 n2)).heap[x0]? = some (.cells (wAt a b c d n0 n1 n2 n3 (2 + 1)) 22 (0, 0)) from ((Put1.set g 1 w2 _).block x0 (Ne.symm HXG.out)).trans HX2.out)
        have HB3 := Aside0.mk (show Below w.heap.size w (w2.setCell ⟨g, 1, none⟩ (.int .i64 n2)) from HB2.out.trans ((Put1.set g 1 w2 _).below HG0.out))
        clear hfz2 hc2 hc3 HX2 HU2 HB2
        go_roundw
        case rel => exact ⟨2 + 1, by simp, by omega, HX3, HU3, HB3⟩
        case measure => simp [intOf]
      · skip
        have hfz := blk_frozen HX.out 3
        have hc : wr.cell? ⟨x0, 3, none⟩ = some (.int .i64 d) := blk_cell HX.out 3
        go_wp2_with (first
          | ((with_reducible refine gate_ (.load 3 (.tmp 33)) rfl ?_); refine Aside0.out ?_)
          | fail)
        refine Aside0.mk ?_
        have hX2 : (wr.setCell ⟨x0, 3, none⟩ (.int .i64 n3)).heap[x0]? = some (.cells (wAt a b c d n0 n1 n2 n3 (3 + 1)) 22 (0, 0)) := blk_put HX.out 3 _ rfl
        have hU2 : (wr.setCell ⟨x0, 3, none⟩ (.int .i64 n3)).heap[g]? = some (.cells (uAt n0 n1 n2 n3 3 3) 22 (0, 0)) := ((Put1.set x0 3 wr _).block g (HXG.out)).trans HU.out
        have HB2 := Aside0.mk (show Below w.heap.size w (wr.setCell ⟨x0, 3, none⟩ (.int .i64 n3)) from HB.out.trans ((Put1.set x0 3 wr _).below HX0.out))
        obtain ⟨w2, hw2⟩ : ∃ w2, w2 = wr.setCell ⟨x0, 3, none⟩ (.int .i64 n3) := ⟨_, rfl⟩
        rw [← hw2] at hX2 hU2 HB2 ⊢
        have hfz2 := blk_frozen hU2 2
        have hc2 : w2.cell? ⟨x0, 3, none⟩ = some (.int .i64 n3) := blk_cell hX2 3
        have hc3 : w2.cell? ⟨g, 2, none⟩ = some (.int .i64 0) := blk_cell hU2 2
        have HX2 := Aside0.mk hX2
        have HU2 := Aside0.mk hU2
        clear hX2 hU2 hw2 hc hfz HX HB HU
        go_wp2_with fail
        have HU3 := Aside0.mk (show (w2.setCell ⟨g, 2, none⟩ (.int .i64 n3)).heap[g]? = some (.cells (uAt n0 n1 n2 n3 3 (3 + 1)) 22 (0, 0)) from blk_put HU2.out 2 _ rfl)
        have HX3 := Aside0.mk (show (w2.setCell ⟨g, 2, none⟩ (.int .i64 n3)).heap[x0]? = some (.cells (wAt a b c d n0 n1 n2 n3 (3 + 1)) 22 (0, 0)) from ((Put1.set g 2 w2 _).block x0 (Ne.symm HXG.out)).trans HX2.out)
        have HB3 := Aside0.mk (show Below w.heap.size w (w2.setCell ⟨g, 2, none⟩ (.int .i64 n3)) from HB2.out.trans ((Put1.set g 2 w2 _).below HG0.out))
        clear hfz2 hc2 hc3 HX2 HU2 HB2
        go_roundw
        case rel => exact ⟨3 + 1, by simp, by omega, HX3, HU3, HB3⟩
        case measure => simp [intOf]
      · skip
        clear hn0 hn1 hn2 hn3
        obtain ⟨N0, hN0⟩ : ∃ N0 : Int, N0 = (n0 : Int) := ⟨_, rfl⟩
        obtain ⟨N1, hN1⟩ : ∃ N1 : Int, N1 = (n1 : Int) := ⟨_, rfl⟩
        obtain ⟨N2, hN2⟩ : ∃ N2 : Int, N2 = (n2 : Int) := ⟨_, rfl⟩
        obtain ⟨N3, hN3⟩ : ∃ N3 : Int, N3 = (n3 : Int) := ⟨_, rfl⟩
        rw [← hN0, ← hN1, ← hN2, ← hN3] at HX HU HWK
        clear hN0 hN1 hN2 hN3 hl0 hl1 hl2 hl3
        have HX : Aside0 (wr.heap[x0]? = some (.cells #[.int .i64 N0, .int .i64 N1, .int .i64 N2, .int .i64 N3] 22 (0, 0))) := HX
        have HU : Aside0 (wr.heap[g]? = some (.cells #[.int .i64 N1, .int .i64 N2, .int .i64 N3, .int .i64 N0] 22 (0, 0))) := HU
        have hc0 := blk_cell HX.out 0
        have hc1 := blk_cell HX.out 1
        have hc2 := blk_cell HX.out 2
        have hc3 := blk_cell HX.out 3
        have hlb : decide (((4 : Nat) : Int) < 4) = false := by decide
        have HA := Aside0.mk (dleast_calls N0 N1 N2 N3 (TP_of HT.out HB.out) HWK.out)
        go_wp2_with (first
          | (go_at_call 18; refine Aside0.out ?_)
          | fail)
        refine Aside0.mk ?_
        refine HA.out.mono ?_
        rintro e w2 ⟨n, rfl, hl, hb⟩
        have HL := Aside0.mk hl
        have HU2 := Aside0.mk ((hb.block g (blk_lt HU.out)).trans HU.out)
        have HB2 := Aside0.mk (below_step HB.out hb)
        have hwk : wok N1 N2 N3 N0 = true := by
          have := HWK.out
          unfold wok at this ⊢
          simp only [Bool.and_eq_true] at this ⊢
          exact by refine ⟨⟨⟨?_, ?_⟩, ?_⟩, ?_⟩ <;> simp only [this]
        have HA2 := Aside0.mk (dleast_calls N1 N2 N3 N0 (TP_of HT.out HB2.out) hwk)
        clear hl hb hwk HX HB HU HA hc0 hc1 hc2 hc3
        have hc0 := blk_cell HU2.out 0
        have hc1 := blk_cell HU2.out 1
        have hc2 := blk_cell HU2.out 2
        have hc3 := blk_cell HU2.out 3
        go_wp2_with (first
          | (go_at_call 18; refine Aside0.out ?_)
          | fail)
        refine Aside0.mk ?_
        refine HA2.out.mono ?_
        rintro e w3 ⟨n', rfl, hl, hb⟩
        have hnn : n' = n := IsLeast.same (least_turn (W := wOf N0 N1 N2 N3) (k := 3) (by decide) (fun v hv => by rcases (show v = 0 ∨ v = 1 ∨ v = 2 ∨ v = 3 by omega) with rfl | rfl | rfl | rfl <;> rfl) hl) HL.out
        subst hnn
        have HB3 := Aside0.mk (below_step HB2.out hb)
        have HAP := Aside0.mk (apart_calls (TP_of HT.out HB3.out))
        clear hl hb HU2 HB2 HA2 HL HWK hc0 hc1 hc2 hc3
        go_wp2_with (first
          | (go_at_call 19; refine Aside0.out ?_)
          | fail)
        refine Aside0.mk ?_
        refine HAP.out.mono ?_
        rintro e w4 ⟨rfl, hb⟩
        have HB4 := Aside0.mk (below_step HB3.out hb)
        clear hb HAP HB3
        go_wp2_with fail
        have hrs : (Tryd.f9).results = #[.tmp 4] := by kernel_rfl
        refine bodyPost_ret (results_tmp hrs _ _ _) rfl ?_
        exact ⟨by simp, HB4.out⟩
end Go.Proofs.YtijpnlmejphfhaaDoor.P
