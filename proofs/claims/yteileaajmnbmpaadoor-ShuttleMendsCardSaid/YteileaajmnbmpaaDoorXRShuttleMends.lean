/- ShuttleMends: the row, over a walk by hand; no condition. -/
import Derived.Test.YteileaajmnbmpaaDoorRows
import Derived.Test.YteileaajmnbmpaaDoorXMShuttleMends4
import Derived.Test.YteileaajmnbmpaaDoorCards
import Derived.Test.YteileaajmnbmpaaDoorTie
import Derived.SevenTiedAt
import Derived.LaidMore
import Derived.Stop.Joined
import Derived.LaidOnce
import Derived.MakeChecks
import Derived.WalkKit
import Derived.ProofKit
import Derived.OpenShut
import Derived.ShutString
import Derived.ChangeOld
import Derived.Below
import Derived.SizedLaws
namespace Go.Proofs.YteileaajmnbmpaaDoor.shuttleMends
open Go.ChangeShapes Go.WideShapes Go.ChangeAt Go.RowKit
open Go.ChangeMaps (open_string shut_string)
open Go.Proofs.YteileaajmnbmpaaDoorW.PrintWords (ReadsInt.ofRowC Kd.C_of_reads)
set_option linter.unusedVariables false
theorem own : ownKnob Tryd.prog.godebug = none := by kernel_rfl
theorem laidOut : laidOutB Tryd.prog = true := by kernel_rfl
theorem row_i64 {H : Type} {enc : TypeId × Value → H} {W : World} {base : Nat} {held : Bool} {a : Option Addr} {len cap : Nat} {d : DataW H} {ps : List MemPlace} (h : DataW.Trod enc Tryd.prog W base (fun _ => true) held 23 (.slice a len cap) d ps) :
    ∃ l : List Int, len = l.length ∧ Go.Proofs.YteileaajmnbmpaaDoorW.PrintWords.Kd.C (Go.Proofs.YteileaajmnbmpaaDoorW.PrintWords.Kd.int .i64) W a l.length l ∧ l.length ≤ cap ∧ ∀ x ∈ l, (Lit.int .i64 x).wf = true := by
  have w0 : ∃ zs : List Int, (a = none ∧ len = 0 ∧ cap = 0 ∧ zs = []) ∨ ∃ x, a = some x ∧ len ≤ cap ∧ cap ≤ maxLen ∧ zs.length = cap ∧ (∀ i, i < zs.length → W.cell? (x.add i) = some (.int .i64 (zs.getD i 0))) ∧ ∀ n ∈ zs, (Lit.int .i64 n).wf = true := by
    obtain ⟨fuel, hf⟩ := h
    rcases open_ints Tryd.underlying23 Tryd.underlying3 (by kernel_rfl) hf with ⟨hcs, _⟩ | ⟨x, l, c, zs, hcs, _, hl, hm, hz, _, hcell, hwz⟩
    · simp [Value.cells] at hcs
      obtain ⟨rfl, rfl, rfl⟩ := hcs
      exact ⟨[], .inl ⟨rfl, rfl, rfl, rfl⟩⟩
    · simp [Value.cells] at hcs
      obtain ⟨rfl, rfl, rfl⟩ := hcs
      exact ⟨zs, .inr ⟨_, rfl, hl, hm, by simpa using hz, hcell, hwz⟩⟩
  obtain ⟨zs, w0⟩ := w0
  obtain ⟨l, e, hr, hm, hw, hc⟩ := ReadsInt.ofRowC w0
  exact ⟨l, e, Kd.C_of_reads (d := (0 : Int)) (h1 := fun _ => rfl) hr, hc, hw⟩
theorem row_u8 {H : Type} {enc : TypeId × Value → H} {W : World} {base : Nat} {held : Bool} {a : Option Addr} {len cap : Nat} {d : DataW H} {ps : List MemPlace} (h : DataW.Trod enc Tryd.prog W base (fun _ => true) held 22 (.slice a len cap) d ps) :
    ∃ l : List Int, len = l.length ∧ Go.Proofs.YteileaajmnbmpaaDoorW.PrintWords.Kd.C (Go.Proofs.YteileaajmnbmpaaDoorW.PrintWords.Kd.int .u8) W a l.length l ∧ l.length ≤ cap ∧ ∀ x ∈ l, (Lit.int .u8 x).wf = true := by
  have w0 : ∃ zs : List Int, (a = none ∧ len = 0 ∧ cap = 0 ∧ zs = []) ∨ ∃ x, a = some x ∧ len ≤ cap ∧ cap ≤ maxLen ∧ zs.length = cap ∧ (∀ i, i < zs.length → W.cell? (x.add i) = some (.int .u8 (zs.getD i 0))) ∧ ∀ n ∈ zs, (Lit.int .u8 n).wf = true := by
    obtain ⟨fuel, hf⟩ := h
    rcases open_ints Tryd.underlying22 Tryd.underlying5 (by kernel_rfl) hf with ⟨hcs, _⟩ | ⟨x, l, c, zs, hcs, _, hl, hm, hz, _, hcell, hwz⟩
    · simp [Value.cells] at hcs
      obtain ⟨rfl, rfl, rfl⟩ := hcs
      exact ⟨[], .inl ⟨rfl, rfl, rfl, rfl⟩⟩
    · simp [Value.cells] at hcs
      obtain ⟨rfl, rfl, rfl⟩ := hcs
      exact ⟨zs, .inr ⟨_, rfl, hl, hm, by simpa using hz, hcell, hwz⟩⟩
  obtain ⟨zs, w0⟩ := w0
  obtain ⟨l, e, hr, hm, hw, hc⟩ := ReadsInt.ofRowC w0
  exact ⟨l, e, Kd.C_of_reads (d := (0 : Int)) (h1 := fun _ => rfl) hr, hc, hw⟩
theorem gTaps : Tryd.prog.globalNamed "shuttle/conv.taps" = some 0 := by kernel_rfl
theorem tTaps : (Tryd.prog.globals[0]?).map (·.type) = some 72 := by kernel_rfl
/-- The door's own heap meets the condition. -/
theorem door_met (os : Os) (args : Array Value) : laidMetH Tryd.prog Rows.shuttleMendsRow.laid ((World.doorLaid Tryd.prog 400 os).forCall (fun _ _ => 0) ⟨#[], args, []⟩).memory :=
  laidMetH_of_parts3 (fuel := 8) (laidMet_of_run' 8 (by kernel_rfl) (by kernel_rfl)) (by kernel_rfl) (by kernel_rfl)
/-- What the condition gives the walk: the table's four cells. -/
theorem of_laid {W : World} (h : laidMetH Tryd.prog Rows.shuttleMendsRow.laid W) : P.TP W := by
  rw [MakeChecks.laidMetH_plain _ _ _ (by kernel_rfl)] at h
  obtain ⟨ps, ⟨g0, t0, cs0, f0, p0, q0, hg0, ht0, hv0, hd0, _, _⟩, _, _⟩ := h
  obtain rfl := Option.some.inj (gTaps.symm.trans hg0)
  obtain rfl := Option.some.inj (tTaps.symm.trans ht0)
  obtain ⟨xs, m1, rfl, hx1, hlen, hn3, hel⟩ := DataW.trod_array Tryd.underlying72 hd0
  have c3 : Tryd.prog.cellsOf 46 = 1 := by kernel_rfl
  have cell : ∀ i x, i < 4 → xs[i]? = some x → x.1 = .lit (.int .u64 ([79, 87, 109, 121].getD i 0)) → W.cell? ⟨0, i, none⟩ = some (.int .u64 ([79, 87, 109, 121].getD i 0)) := by
    intro i x hi hx hv
    have h0 := hel i hi
    rw [hx] at h0
    obtain ⟨k, e1, e2, _⟩ := DataW.trod_int Tryd.underlying46 (show DataW.trod _ Tryd.prog W 0 _ false m1 46 _ = some x from h0)
    have hk : k = [79, 87, 109, 121].getD i 0 := by rw [e2] at hv; simpa using hv
    subst hk
    have := World.var?_cell hg0 hv0 i
    rw [this]
    rw [c3] at e1
    obtain ⟨l1⟩ := cs0
    simp only [Nat.mul_one] at e1
    show (List.toArray l1)[i]? = _
    rw [List.getElem?_toArray]
    have e3 := congrArg List.head? e1
    rw [List.head?_take, List.head?_drop] at e3
    simpa using e3
  simp only [Prod.mk.injEq] at hx1
  replace hx1 := hx1.1
  unfold Rows.laid_shuttle_conv_taps at hx1
  match xs, hn3, hx1, cell with
  | [x0, x1, x2, x3], _, hx1, cell =>
    simp only [List.map_cons, List.map_nil, DataW.agg.injEq, List.cons.injEq] at hx1
    exact ⟨cell 0 x0 (by decide) rfl hx1.1.symm, cell 1 x1 (by decide) rfl hx1.2.1.symm, cell 2 x2 (by decide) rfl hx1.2.2.1.symm, cell 3 x3 (by decide) rfl hx1.2.2.2.1.symm⟩
set_option maxRecDepth 100000 in
theorem lifted (os : Os) (started : os.Started) (H : Type) (enc : TypeId × Value → H) :
    ReturnsInHanded {} Tryd.checked os 3 .any (fun w args => (Rows.shuttleMendsSpec.pre enc Tryd.prog Tryd.f3 [] false w args ∧ laidMetH Tryd.prog Rows.shuttleMendsRow.laid w) ∧ sizedMet enc Tryd.prog Tryd.f3 (OpenSpec.ofChange Rows.shuttleMendsSpec) false w args) (Rows.shuttleMendsSpec.post enc Tryd.prog Tryd.f3 false true false false) := by
  refine returnsInHanded_of_change_and (C := Tryd.checked) (X := fun w _ => laidMetH Tryd.prog Rows.shuttleMendsRow.laid w) (fun _ _ _ hh h => h.of_heap hh) own started (by kernel_rfl) Tryd.func3
    (ChangeSpec.witness_shaped (enc := enc) (C := Tryd.checked) (os := os) (X := fun w _ => laidMetH Tryd.prog Rows.shuttleMendsRow.laid w) false (World.doorLaid Tryd.prog 400 os) #[.slice none 0 0, .slice none 0 0, .slice none 0 0] 8 rfl (World.shaped_of_RefB (by kernel_rfl) (by kernel_rfl)) (by kernel_rfl) (by kernel_rfl) (by kernel_rfl) (door_met os _)) ?_
  intro W base args ds gs before hval0 hW hcnd hsz0 hL _
  have hT_ := of_laid hL
  have hval : ∀ (j : Nat) t v, Tryd.f3.params[j]? = some t → args[j]? = some v → Value.okWide Tryd.prog W .any base t v := hval0
  have hW' := hW
  obtain ⟨p, q, hA0, hV, rfl, hfz, hnd⟩ := hW
  have hA : DataW.TrodAll enc Tryd.prog W 0 (fun _ => true) true Tryd.f3.params.toList args.toList ds p := hA0
  rw [Tryd.params3] at hA hval
  obtain ⟨v0, vs0, d0, ds0, p0, q0, hargs, rfl, rfl, h0, r0⟩ := trodAll_cons hA
  obtain ⟨v1, vs1, d1, ds1, p1, q1, rfl, rfl, rfl, h1, r1⟩ := trodAll_cons r0
  obtain ⟨v2, vs2, d2, ds2, p2, q2, rfl, rfl, rfl, h2, r2⟩ := trodAll_cons r1
  obtain ⟨rfl, rfl, rfl⟩ := trodAll_nil r2
  obtain rfl : args = #[v0, v1, v2] := by cases args; simp_all
  obtain ⟨rfl, rfl⟩ := trodVars_none hV
  obtain ⟨a0, len0, cap0, rfl⟩ := okWide_slice Tryd.underlying22 (hval 0 22 v0 rfl rfl)
  have k0 := h0
  have lt0 : ∀ x ∈ p0, x.block < W.heap.size := by obtain ⟨m, hm⟩ := k0; exact DataW.trod_lt m _ _ _ hm
  obtain ⟨l0, rfl, hr0, hc0, hw0⟩ := row_u8 h0
  obtain ⟨a1, len1, cap1, rfl⟩ := okWide_slice Tryd.underlying22 (hval 1 22 v1 rfl rfl)
  have k1 := h1
  have lt1 : ∀ x ∈ p1, x.block < W.heap.size := by obtain ⟨m, hm⟩ := k1; exact DataW.trod_lt m _ _ _ hm
  obtain ⟨l1, rfl, hr1, hc1, hw1⟩ := row_u8 h1
  obtain ⟨a2, len2, cap2, rfl⟩ := okWide_slice Tryd.underlying23 (hval 2 23 v2 rfl rfl)
  have k2 := h2
  have lt2 : ∀ x ∈ p2, x.block < W.heap.size := by obtain ⟨m, hm⟩ := k2; exact DataW.trod_lt m _ _ _ hm
  obtain ⟨l2, rfl, hr2, hc2, hw2⟩ := row_i64 h2
  clear hA0 hval0 hsz0
  refine (P.lawMends.walk a0 cap0 l0 hr0 hc0 hw0 a1 cap1 l1 hr1 hc1 hw1 a2 cap2 l2 hr2 hc2 hw2 W).mono fun e W' ⟨he, bel⟩ => ?_
  subst he
  exact ⟨_, rfl, _, _, _, [], _, [], hW', trodAll_mk1 (shut_bool Tryd.underlying4 _), (trodAll_cons_mk (Below.trod laidOut (by kernel_rfl) (of_decide_eq_true (by kernel_rfl)) k0 bel lt0) (trodAll_cons_mk (Below.trod laidOut (by kernel_rfl) (of_decide_eq_true (by kernel_rfl)) k1 bel lt1) (trodAll_cons_mk (Below.trod laidOut (by kernel_rfl) (of_decide_eq_true (by kernel_rfl)) k2 bel lt2) trodAll_mk0))), rfl, bel.frame _, fun h => by cases h⟩
theorem over : Rows.shuttleMendsRow.holds Tryd.pinned (OpenSpec.ofChange Rows.shuttleMendsSpec) :=
  OpenClaim.holds_of_wide 3 Tryd.f3 rfl rfl rfl rfl rfl rfl rfl ⟨rfl, rfl, rfl, rfl, rfl⟩ rfl rfl rfl rfl rfl (by kernel_rfl) Tryd.func3 (by kernel_rfl)
    (of_decide_eq_true (by kernel_rfl)) (by unfold Func.isWrapper; first | (rw [if_pos (by decide +kernel)]; kernel_rfl) | (rw [if_neg (by decide +kernel)]; exact ⟨rfl, rfl⟩))
    (fun os started H enc _ => lifted os started H enc)
theorem proved : Rows.ShuttleMendsSaid := over
theorem card_holds : Rows.ShuttleMendsCardSaid :=
  Claim7.holds_tied_plain_at .later [] [.data] true (true, "5f9ecdb3b7c43d61254d3a17404fff3193c17c8621efd1f9244adb0445fce06f") true
    proved (fun _ h => by cases h) (by kernel_rfl) (fun _ h => by cases h) shuttleMends_row_tie rfl ⟨rfl, rfl⟩ (by kernel_rfl) rfl
    (fun f fn hf hfn => by
      obtain rfl : f = 3 := Option.some.inj ((show Tryd.prog.funcNamed "shuttle/shuttletop.ShuttleMends" = some 3 by kernel_rfl).symm.trans hf) |>.symm
      obtain rfl : fn = Tryd.f3 := (Option.some.inj (Tryd.func3.symm.trans hfn)).symm
      exact ⟨by kernel_rfl, fun j t ht => by
        rw [Tryd.params3] at ht
        have hm : t ∈ [22, 22, 23] := by simpa using Array.mem_of_getElem? ht
        have hall : ([22, 22, 23].all fun u => !Tryd.prog.wantsStandIn u) = true := by kernel_rfl
        exact (show Tryd.prog.wantsStandIn t = false by simpa using List.all_eq_true.1 hall t hm)⟩)
    (by kernel_rfl)
#print axioms card_holds
end Go.Proofs.YteileaajmnbmpaaDoor.shuttleMends
namespace Go.Proofs.YteileaajmnbmpaaDoor
/-- The card, under a short name, for the claim. -/
theorem shuttleMends_holds : Rows.ShuttleMendsCardSaid := shuttleMends.card_holds
end Go.Proofs.YteileaajmnbmpaaDoor
