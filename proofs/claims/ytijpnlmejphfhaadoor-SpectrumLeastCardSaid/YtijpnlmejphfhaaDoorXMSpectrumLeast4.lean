/- Texts of this seat, one behind the other (merge.py): the walks of the functions that the law SpectrumLeast uses, and plain words on what they come to. No condition. -/
import Derived.WideKeyArr
import Derived.WideKeyElems2
import Derived.ChangeSame
import Derived.Test.YtijpnlmejphfhaaDoorXMSpectrumLeast3
-- YtijpnlmejphfhaaDoorPSLeast
namespace Go.Proofs.YtijpnlmejphfhaaDoor.P
open Go Go.Proofs Go.RowKit Go.Proofs.YtijpnlmejphfhaaDoorW.PrintWords Go.Proofs.YtijpnlmejphfhaaDoorW.PrintLast Go.Proofs.YtijpnlmejphfhaaDoorW.PrintMore
set_option linter.unusedVariables false
set_option linter.unusedSimpArgs false

def wA (a b c d n0 n1 n2 n3 : Int) : Nat → Array Value
  | 0 => #[.int .i64 a, .int .i64 b, .int .i64 c, .int .i64 d]
  | 1 => #[.int .i64 n0, .int .i64 b, .int .i64 c, .int .i64 d]
  | 2 => #[.int .i64 n0, .int .i64 n1, .int .i64 c, .int .i64 d]
  | 3 => #[.int .i64 n0, .int .i64 n1, .int .i64 n2, .int .i64 d]
  | _ => #[.int .i64 n0, .int .i64 n1, .int .i64 n2, .int .i64 n3]
set_option maxRecDepth 100000 in
set_option maxHeartbeats 8000000 in
theorem lawLeast.walk (a b c d s0 : Int) (w : World) (hT : TP w := by assumption) :
    Calls Tryd.prog 4 #[.agg #[.int .i64 a, .int .i64 b, .int .i64 c, .int .i64 d], .int .i64 s0] w fun e w' => e = .returned (.bool true) ∧ Below w.heap.size w w' := by
  have HT := Aside0.mk hT
  clear hT
  obtain ⟨n0, hn0, hl0⟩ := modN 8 (by decide) (by decide) a
  obtain ⟨n1, hn1, hl1⟩ := modN 8 (by decide) (by decide) b
  obtain ⟨n2, hn2, hl2⟩ := modN 8 (by decide) (by decide) c
  obtain ⟨n3, hn3, hl3⟩ := modN 8 (by decide) (by decide) d
  obtain ⟨s, hs, hs21⟩ := modN 21 (by decide) (by decide) s0
  have HWK := Aside0.mk (show wok (n0 : Int) (n1 : Int) (n2 : Int) (n3 : Int) = true by
    unfold wok
    simp only [Bool.and_eq_true, inW_iff]
    omega)
  have HS := Aside0.mk (show s ≤ 20 by omega)
  go_enter Tryd.func4, Tryd.ntmps4
  go_wp2_with fail
  have hba := below_alloc (Below.refl w.heap.size w) (.cells #[.int .i64 a, .int .i64 b, .int .i64 c, .int .i64 d] 22)
  have hbb := blk_new w (.cells #[.int .i64 a, .int .i64 b, .int .i64 c, .int .i64 d] 22)
  obtain ⟨w1, hw1⟩ : ∃ w1, w1 = w.alloc (.cells #[.int .i64 a, .int .i64 b, .int .i64 c, .int .i64 d] 22) := ⟨_, rfl⟩
  obtain ⟨x0, hx0⟩ : ∃ x0, x0 = w.heap.size := ⟨_, rfl⟩
  rw [← hw1] at hba hbb
  rw [← hx0] at hbb
  rw [← hw1, ← hx0]
  have HB1 := Aside0.mk hba
  have HX1 := Aside0.mk (show w1.heap[x0]? = some (.cells (wA a b c d n0 n1 n2 n3 0) 22 (0, 0)) from hbb)
  have HX0 := Aside0.mk (show w.heap.size ≤ x0 by rw [hx0]; exact Nat.le_refl _)
  clear hba hbb hw1 hx0
  go_loopw [5] (fun v5 wr => ∃ v : Nat, v5 = .int .i64 (v : Int) ∧ v ≤ 4 ∧ Aside0 (wr.heap[x0]? = some (.cells (wA a b c d n0 n1 n2 n3 v) 22 (0, 0))) ∧ Aside0 (Below w.heap.size w wr)) (fun v5 _ => 4 - (intOf v5).toNat)
  case atStart => exact ⟨0, by simp, by omega, HX1, HB1⟩
  case round =>
    clear HX1 HB1
    obtain ⟨v, rfl, hv, HX, HB⟩ := hrel
    have hc : v = 0 ∨ v = 1 ∨ v = 2 ∨ v = 3 ∨ v = 4 := by omega
    rcases hc with rfl | rfl | rfl | rfl | rfl
    · skip
      have hfz := blk_frozen HX.out 0
      have hc : wr.cell? ⟨x0, 0, none⟩ = some (.int .i64 a) := blk_cell HX.out 0
      go_wp2_with fail
      have HX2 := Aside0.mk (show (wr.setCell ⟨x0, 0, none⟩ (.int .i64 n0)).heap[x0]? = some (.cells (wA a b c d n0 n1 n2 n3 (0 + 1)) 22 (0, 0)) from blk_put HX.out 0 _ rfl)
      have HB2 := Aside0.mk (show Below w.heap.size w (wr.setCell ⟨x0, 0, none⟩ (.int .i64 n0)) from HB.out.trans ((Put1.set x0 0 wr _).below HX0.out))
      clear hc hfz HX HB
      go_roundw
      case rel => exact ⟨0 + 1, by simp, by omega, HX2, HB2⟩
      case measure => simp [intOf]
    · skip
      have hfz := blk_frozen HX.out 1
      have hc : wr.cell? ⟨x0, 1, none⟩ = some (.int .i64 b) := blk_cell HX.out 1
      go_wp2_with fail
      have HX2 := Aside0.mk (show (wr.setCell ⟨x0, 1, none⟩ (.int .i64 n1)).heap[x0]? = some (.cells (wA a b c d n0 n1 n2 n3 (1 + 1)) 22 (0, 0)) from blk_put HX.out 1 _ rfl)
      have HB2 := Aside0.mk (show Below w.heap.size w (wr.setCell ⟨x0, 1, none⟩ (.int .i64 n1)) from HB.out.trans ((Put1.set x0 1 wr _).below HX0.out))
      clear hc hfz HX HB
      go_roundw
      case rel => exact ⟨1 + 1, by simp, by omega, HX2, HB2⟩
      case measure => simp [intOf]
    · skip
      have hfz := blk_frozen HX.out 2
      have hc : wr.cell? ⟨x0, 2, none⟩ = some (.int .i64 c) := blk_cell HX.out 2
      go_wp2_with fail
      have HX2 := Aside0.mk (show (wr.setCell ⟨x0, 2, none⟩ (.int .i64 n2)).heap[x0]? = some (.cells (wA a b c d n0 n1 n2 n3 (2 + 1)) 22 (0, 0)) from blk_put HX.out 2 _ rfl)
      have HB2 := Aside0.mk (show Below w.heap.size w (wr.setCell ⟨x0, 2, none⟩ (.int .i64 n2)) from HB.out.trans ((Put1.set x0 2 wr _).below HX0.out))
      clear hc hfz HX HB
      go_roundw
      case rel => exact ⟨2 + 1, by simp, by omega, HX2, HB2⟩
      case measure => simp [intOf]
    · skip
      have hfz := blk_frozen HX.out 3
      have hc : wr.cell? ⟨x0, 3, none⟩ = some (.int .i64 d) := blk_cell HX.out 3
      go_wp2_with fail
      have HX2 := Aside0.mk (show (wr.setCell ⟨x0, 3, none⟩ (.int .i64 n3)).heap[x0]? = some (.cells (wA a b c d n0 n1 n2 n3 (3 + 1)) 22 (0, 0)) from blk_put HX.out 3 _ rfl)
      have HB2 := Aside0.mk (show Below w.heap.size w (wr.setCell ⟨x0, 3, none⟩ (.int .i64 n3)) from HB.out.trans ((Put1.set x0 3 wr _).below HX0.out))
      clear hc hfz HX HB
      go_roundw
      case rel => exact ⟨3 + 1, by simp, by omega, HX2, HB2⟩
      case measure => simp [intOf]
    · clear hn0 hn1 hn2 hn3
      obtain ⟨N0, hN0⟩ : ∃ N0 : Int, N0 = (n0 : Int) := ⟨_, rfl⟩
      obtain ⟨N1, hN1⟩ : ∃ N1 : Int, N1 = (n1 : Int) := ⟨_, rfl⟩
      obtain ⟨N2, hN2⟩ : ∃ N2 : Int, N2 = (n2 : Int) := ⟨_, rfl⟩
      obtain ⟨N3, hN3⟩ : ∃ N3 : Int, N3 = (n3 : Int) := ⟨_, rfl⟩
      rw [← hN0, ← hN1, ← hN2, ← hN3] at HX HWK
      clear hN0 hN1 hN2 hN3 hl0 hl1 hl2 hl3
      have HX : Aside0 (wr.heap[x0]? = some (.cells #[.int .i64 N0, .int .i64 N1, .int .i64 N2, .int .i64 N3] 22 (0, 0))) := HX
      have hc0 := blk_cell HX.out 0
      have hc1 := blk_cell HX.out 1
      have hc2 := blk_cell HX.out 2
      have hc3 := blk_cell HX.out 3
      have hlb : decide (((4 : Nat) : Int) < 4) = false := by decide
      go_wp2_with (first
        | (go_at_call 15; refine Aside0.out ?_)
        | fail)
      refine Aside0.mk ?_
      refine (rleast_calls N0 N1 N2 N3 HWK.out wr).mono ?_
      rintro e w2 ⟨n, rfl, hl, hb⟩
      have HL := Aside0.mk hl
      have HX2 := Aside0.mk ((hb.block x0 (blk_lt HX.out)).trans HX.out)
      have HB2 := Aside0.mk (below_step HB.out hb)
      have HCO := Aside0.mk (counts_calls (TP_of HT.out HB2.out))
      clear hl hb HX HB hc0 hc1 hc2 hc3
      go_wp2_with (first
        | (go_at_call 12; refine Aside0.out ?_)
        | fail)
      refine Aside0.mk ?_
      refine HCO.out.mono ?_
      rintro e w3 ⟨rfl, hb⟩
      have HX3 := Aside0.mk ((hb.block x0 (blk_lt HX2.out)).trans HX2.out)
      have HB3 := Aside0.mk (below_step HB2.out hb)
      clear hb HX2 HB2 HCO
      go_wp2_with fail
      go_loopw [7] (fun v7 wr => ∃ p : Nat, v7 = .int .i64 (p : Int) ∧ p ≤ 4 ∧ Aside0 (wr.heap[x0]? = some (.cells #[.int .i64 N0, .int .i64 N1, .int .i64 N2, .int .i64 N3] 22 (0, 0))) ∧ Aside0 (Below w.heap.size w wr)) (fun v7 _ => 4 - (intOf v7).toNat)
      case atStart => exact ⟨0, by simp, by omega, HX3, HB3⟩
      case round =>
        clear HX3 HB3
        obtain ⟨p, rfl, hp, HX, HB⟩ := hrel
        by_cases hlt : p < 4
        · have hlb2 : decide ((p : Int) < 4) = true := decide_eq_true (by omega)
          have hp4 : (p : Int) < 4 := by omega
          have hc0 := blk_cell HX.out 0
          have hc1 := blk_cell HX.out 1
          have hc2 := blk_cell HX.out 2
          have hc3 := blk_cell HX.out 3
          have HCT := Aside0.mk (show Calls Tryd.prog 11 #[.agg #[.int .i64 N0, .int .i64 N1, .int .i64 N2, .int .i64 N3], .int .i64 (p : Int), .int .i64 (s : Int), .int .i64 400] wr _ from count_calls (TP_of HT.out HB.out) N0 N1 N2 N3 p s 400 (by omega) (by have := HS.out; omega) (by decide) HWK.out)
          have hfc := first_counts (a := N0) (b := N1) (c := N2) (d := N3) p s 400 (by have := HS.out; omega)
          obtain ⟨L, hL⟩ : ∃ L, L = countL N0 N1 N2 N3 p s 400 := ⟨_, rfl⟩
          rw [← hL] at HCT hfc
          have HFC := Aside0.mk hfc
          clear hL hfc
          go_wp2_with (first
            | (go_at_call 11; refine Aside0.out ?_)
            | fail)
          refine Aside0.mk ?_
          refine HCT.out.mono ?_
          rintro e w4 ⟨F, rfl, hF, hl, hb⟩
          have HX4 := Aside0.mk ((hb.block x0 (blk_lt HX.out)).trans HX.out)
          have HB4 := Aside0.mk (below_step HB.out hb)
          have hfi := first_calls (some ⟨F, 0, none⟩) (400 + 1) L w4 (by rw [hl]; exact C_of_ints hF hl (by omega)) (by omega)
          rw [hl] at hfi
          obtain ⟨fn, hfn⟩ : ∃ fn, fn = firstN L := ⟨_, rfl⟩
          obtain ⟨fk, hfk⟩ : ∃ fk, fk = firstK L := ⟨_, rfl⟩
          rw [← hfn, ← hfk] at hfi HFC
          have HFI := Aside0.mk hfi
          clear hF hl hb hfi HX HB HCT hfn hfk hc0 hc1 hc2 hc3
          go_wp2_with (first
            | (go_at_call 16; refine Aside0.out ?_)
            | fail)
          refine Aside0.mk ?_
          refine HFI.out.mono ?_
          rintro e w5 ⟨rfl, hb⟩
          have HX5 := Aside0.mk ((hb.block x0 (blk_lt HX4.out)).trans HX4.out)
          have HB5 := Aside0.mk (below_step HB4.out hb)
          clear hb HX4 HB4 HFI
          rcases HFC.out with ⟨rfl, rfl⟩ | ⟨j, rfl, hk, t, hw⟩
          · clear HFC
            go_wp2_with fail
            go_roundw
            case rel => exact ⟨p + 1, by simp, by omega, HX5, HB5⟩
            case measure => simp [intOf]; omega
          · have hnj := HL.out.2 t j hw
            have hd1 : decide ((j : Int) < (n : Int)) = false := decide_eq_false (by omega)
            have hd2 : decide (fk < 1) = false := decide_eq_false (by omega)
            have hd3 : decide ((j : Int) < 0) = false := decide_eq_false (by omega)
            have hd4 : decide (0 ≤ (j : Int)) = true := decide_eq_true (by omega)
            clear HFC hw
            go_wp2_with fail
            go_roundw
            case rel => exact ⟨p + 1, by simp, by omega, HX5, HB5⟩
            case measure => simp [intOf]; omega
        · obtain rfl : p = 4 := by omega
          have hlb2 : decide (((4 : Nat) : Int) < 4) = false := by decide
          go_wp2_with fail
          go_ret
          exact ⟨by simp, HB.out⟩
end Go.Proofs.YtijpnlmejphfhaaDoor.P

-- YtijpnlmejphfhaaDoorPArrRow
namespace Go.Proofs.YtijpnlmejphfhaaDoor.P
open Go Go.WideMaps Go.ChangeShapes Go.WideShapes
section
variable {H : Type} {enc : TypeId × Value → H} {P : Program} {k e : TypeId} {q : IntKind} {W : World} {base : Nat} {sp : Nat → Bool} {held : Bool}
theorem arr_cells {n : Nat} (A : ArrKey P k e n) {r : Reach} {b0 : Nat} {v : Value} (h : Value.okWide P W r b0 k v) : ∃ l : List Value, v = .agg l.toArray ∧ l.length = n := by
  simp only [Value.okWide, A.hu] at h
  obtain ⟨cs, rfl, h2, _⟩ := h
  rw [A.size] at h2
  exact ⟨cs.toList, by simp, by simpa using h2⟩
theorem open_arr3 (A : ArrKey P k e 3) (he : P.underlying e = some (.int q)) {r : Reach} {b0 : Nat} {v : Value} {d : DataW H} {ps : List MemPlace} (hval : Value.okWide P W r b0 k v) (hd : DataW.Trod enc P W base sp held k v d ps) :
    ∃ a b c : Int, v = .agg #[.int q a, .int q b, .int q c] ∧ d = .agg [.lit (.int q a), .lit (.int q b), .lit (.int q c)] ∧ ps = [] ∧ (Lit.int q a).wf = true ∧ (Lit.int q b).wf = true ∧ (Lit.int q c).wf = true := by
  obtain ⟨l, rfl, hl⟩ := arr_cells A hval
  match l, hl with
  | [c0, c1, c2], _ =>
    obtain ⟨fuel, hf⟩ := hd
    cases fuel with
    | zero => simp [DataW.trod] at hf
    | succ n =>
      rw [DataW.trod_step] at hf
      unfold DataW.trodStep at hf
      simp only [A.hu, Value.cells] at hf
      rw [if_pos (by rw [A.size]; rfl)] at hf
      simp only [Option.map_eq_some_iff] at hf
      obtain ⟨xs, hx, e1⟩ := hf
      rw [show List.range 3 = [0, 1, 2] from rfl, List.mapM_cons, List.mapM_cons, List.mapM_cons, List.mapM_nil] at hx
      simp only [bind, Option.bind_eq_some_iff, pure, Option.some.injEq, A.one] at hx
      obtain ⟨y0, h0, _, ⟨y1, h1, _, ⟨y2, h2, _, rfl, rfl⟩, rfl⟩, rfl⟩ := hx
      obtain ⟨a, ea, rfl, wa⟩ := DataW.trod_int he h0
      obtain ⟨b, eb, rfl, wb⟩ := DataW.trod_int he h1
      obtain ⟨c, ec, rfl, wc⟩ := DataW.trod_int he h2
      simp at ea eb ec
      subst ea; subst eb; subst ec
      simp only [Prod.mk.injEq] at e1
      exact ⟨a, b, c, rfl, by rw [← e1.1]; rfl, by rw [← e1.2]; rfl, wa, wb, wc⟩
theorem open_arr4 (A : ArrKey P k e 4) (he : P.underlying e = some (.int q)) {r : Reach} {b0 : Nat} {v : Value} {d : DataW H} {ps : List MemPlace} (hval : Value.okWide P W r b0 k v) (hd : DataW.Trod enc P W base sp held k v d ps) :
    ∃ a b c f : Int, v = .agg #[.int q a, .int q b, .int q c, .int q f] ∧ d = .agg [.lit (.int q a), .lit (.int q b), .lit (.int q c), .lit (.int q f)] ∧ ps = [] ∧ (Lit.int q a).wf = true ∧ (Lit.int q b).wf = true ∧ (Lit.int q c).wf = true ∧ (Lit.int q f).wf = true := by
  obtain ⟨l, rfl, hl⟩ := arr_cells A hval
  match l, hl with
  | [c0, c1, c2, c3], _ =>
    obtain ⟨fuel, hf⟩ := hd
    cases fuel with
    | zero => simp [DataW.trod] at hf
    | succ n =>
      rw [DataW.trod_step] at hf
      unfold DataW.trodStep at hf
      simp only [A.hu, Value.cells] at hf
      rw [if_pos (by rw [A.size]; rfl)] at hf
      simp only [Option.map_eq_some_iff] at hf
      obtain ⟨xs, hx, e1⟩ := hf
      rw [show List.range 4 = [0, 1, 2, 3] from rfl, List.mapM_cons, List.mapM_cons, List.mapM_cons, List.mapM_cons, List.mapM_nil] at hx
      simp only [bind, Option.bind_eq_some_iff, pure, Option.some.injEq, A.one] at hx
      obtain ⟨y0, h0, _, ⟨y1, h1, _, ⟨y2, h2, _, ⟨y3, h3, _, rfl, rfl⟩, rfl⟩, rfl⟩, rfl⟩ := hx
      obtain ⟨a, ea, rfl, wa⟩ := DataW.trod_int he h0
      obtain ⟨b, eb, rfl, wb⟩ := DataW.trod_int he h1
      obtain ⟨c, ec, rfl, wc⟩ := DataW.trod_int he h2
      obtain ⟨f, ef, rfl, wf⟩ := DataW.trod_int he h3
      simp at ea eb ec ef
      subst ea; subst eb; subst ec; subst ef
      simp only [Prod.mk.injEq] at e1
      exact ⟨a, b, c, f, rfl, by rw [← e1.1]; rfl, by rw [← e1.2]; rfl, wa, wb, wc, wf⟩
theorem shut_arr3 (A : ArrKey P k e 3) (he : P.underlying e = some (.int q)) {a b c : Int} (wa : (Lit.int q a).wf = true) (wb : (Lit.int q b).wf = true) (wc : (Lit.int q c).wf = true) :
    DataW.Trod enc P W base sp held k (.agg #[.int q a, .int q b, .int q c]) (.agg [.lit (.int q a), .lit (.int q b), .lit (.int q c)]) [] :=
  ⟨2, by
    show DataW.trod enc P W base sp held (1 + 1) k [.int q a, .int q b, .int q c] = _
    rw [DataW.trod_step]
    unfold DataW.trodStep
    simp only [A.hu]
    rw [if_pos (by rw [A.size]; rfl), show List.range 3 = [0, 1, 2] from rfl, List.mapM_cons, List.mapM_cons, List.mapM_cons, List.mapM_nil]
    simp [A.one, DataW.trod, he, wa, wb, wc]⟩
theorem shut_arr4 (A : ArrKey P k e 4) (he : P.underlying e = some (.int q)) {a b c f : Int} (wa : (Lit.int q a).wf = true) (wb : (Lit.int q b).wf = true) (wc : (Lit.int q c).wf = true) (wf : (Lit.int q f).wf = true) :
    DataW.Trod enc P W base sp held k (.agg #[.int q a, .int q b, .int q c, .int q f]) (.agg [.lit (.int q a), .lit (.int q b), .lit (.int q c), .lit (.int q f)]) [] :=
  ⟨2, by
    show DataW.trod enc P W base sp held (1 + 1) k [.int q a, .int q b, .int q c, .int q f] = _
    rw [DataW.trod_step]
    unfold DataW.trodStep
    simp only [A.hu]
    rw [if_pos (by rw [A.size]; rfl), show List.range 4 = [0, 1, 2, 3] from rfl, List.mapM_cons, List.mapM_cons, List.mapM_cons, List.mapM_cons, List.mapM_nil]
    simp [A.one, DataW.trod, he, wa, wb, wc, wf]⟩
end
end Go.Proofs.YtijpnlmejphfhaaDoor.P
