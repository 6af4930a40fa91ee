/- ShuttleHands: the row, over a walk by hand; no condition. -/
import Derived.Test.YtajiggmeappfaaaGreatDoorRows
import Derived.Test.YtajiggmeappfaaaGreatDoorXMShuttleHands5
import Derived.Test.YtajiggmeappfaaaGreatDoorCards
import Derived.Test.YtajiggmeappfaaaGreatDoorTie
import Derived.SevenTiedAt
import Derived.LaidMore
import Derived.Stop.Joined
import Derived.LaidOnce
import Derived.MakeChecks
import Derived.Clock
import Derived.WalkKit
import Derived.ProofKit
import Derived.OpenShut
import Derived.ShutString
import Derived.ChangeOld
import Derived.Below
import Derived.SizedLaws
namespace Go.Proofs.YtajiggmeappfaaaGreatDoor.shuttleHands
open Go.ChangeShapes Go.WideShapes Go.ChangeAt Go.RowKit
open Go.ChangeMaps (open_string shut_string)
open Go.Proofs.YtajiggmeappfaaaGreatDoorW.PrintWords (ReadsInt.ofRowC Kd.C_of_reads)
set_option linter.unusedVariables false
theorem own : ownKnob Tryz.prog.godebug = none := by kernel_rfl
theorem laidOut : laidOutB Tryz.prog = true := by kernel_rfl
theorem row_i64 {H : Type} {enc : TypeId × Value → H} {W : World} {base : Nat} {held : Bool} {a : Option Addr} {len cap : Nat} {d : DataW H} {ps : List MemPlace} (h : DataW.Trod enc Tryz.prog W base (fun _ => true) held 24 (.slice a len cap) d ps) :
    ∃ l : List Int, len = l.length ∧ Go.Proofs.YtajiggmeappfaaaGreatDoorW.PrintWords.Kd.C (Go.Proofs.YtajiggmeappfaaaGreatDoorW.PrintWords.Kd.int .i64) W a l.length l ∧ l.length ≤ cap ∧ ∀ x ∈ l, (Lit.int .i64 x).wf = true := by
  have w0 : ∃ zs : List Int, (a = none ∧ len = 0 ∧ cap = 0 ∧ zs = []) ∨ ∃ x, a = some x ∧ len ≤ cap ∧ cap ≤ maxLen ∧ zs.length = cap ∧ (∀ i, i < zs.length → W.cell? (x.add i) = some (.int .i64 (zs.getD i 0))) ∧ ∀ n ∈ zs, (Lit.int .i64 n).wf = true := by
    obtain ⟨fuel, hf⟩ := h
    rcases open_ints Tryz.underlying24 Tryz.underlying3 (by kernel_rfl) hf with ⟨hcs, _⟩ | ⟨x, l, c, zs, hcs, _, hl, hm, hz, _, hcell, hwz⟩
    · simp [Value.cells] at hcs
      obtain ⟨rfl, rfl, rfl⟩ := hcs
      exact ⟨[], .inl ⟨rfl, rfl, rfl, rfl⟩⟩
    · simp [Value.cells] at hcs
      obtain ⟨rfl, rfl, rfl⟩ := hcs
      exact ⟨zs, .inr ⟨_, rfl, hl, hm, by simpa using hz, hcell, hwz⟩⟩
  obtain ⟨zs, w0⟩ := w0
  obtain ⟨l, e, hr, hm, hw, hc⟩ := ReadsInt.ofRowC w0
  exact ⟨l, e, Kd.C_of_reads (d := (0 : Int)) (h1 := fun _ => rfl) hr, hc, hw⟩
theorem gTaps : Tryz.prog.globalNamed "shuttle/conv.taps" = some 2 := by kernel_rfl
theorem tTaps : (Tryz.prog.globals[2]?).map (·.type) = some 326 := by kernel_rfl
/-- The door's own heap meets the condition. -/
theorem door_met (os : Os) (args : Array Value) : laidMetH Tryz.prog Rows.shuttleHandsRow.laid ((World.doorLaid Tryz.prog 400 os).forCall (fun _ _ => 0) ⟨#[], args, []⟩).memory :=
  laidMetH_of_parts3 (fuel := 8) (laidMet_of_run' 8 (by kernel_rfl) (by kernel_rfl)) (by kernel_rfl) (by kernel_rfl)
/-- What the condition gives the walk: the table's four cells. -/
theorem of_laid {W : World} (h : laidMetH Tryz.prog Rows.shuttleHandsRow.laid W) : P.TP W := by
  have h : laidMet Tryz.prog [("shuttle/conv.taps", Rows.laid_shuttle_conv_taps)] W := (show laidMet _ _ W ∧ handlesMet _ _ W from h).1
  obtain ⟨ps, ⟨g0, t0, cs0, f0, p0, q0, hg0, ht0, hv0, hd0, _, _⟩, _, _⟩ := h
  obtain rfl := Option.some.inj (gTaps.symm.trans hg0)
  obtain rfl := Option.some.inj (tTaps.symm.trans ht0)
  obtain ⟨xs, m1, rfl, hx1, hlen, hn3, hel⟩ := DataW.trod_array Tryz.underlying326 hd0
  have c3 : Tryz.prog.cellsOf 144 = 1 := by kernel_rfl
  have cell : ∀ i x, i < 4 → xs[i]? = some x → x.1 = .lit (.int .u64 ([79, 87, 109, 121].getD i 0)) → W.cell? ⟨2, i, none⟩ = some (.int .u64 ([79, 87, 109, 121].getD i 0)) := by
    intro i x hi hx hv
    have h0 := hel i hi
    rw [hx] at h0
    obtain ⟨k, e1, e2, _⟩ := DataW.trod_int Tryz.underlying144 (show DataW.trod _ Tryz.prog W 0 _ false m1 144 _ = some x from h0)
    have hk : k = [79, 87, 109, 121].getD i 0 := by rw [e2] at hv; simpa using hv
    subst hk
    have := World.var?_cell hg0 hv0 i
    rw [this]
    rw [c3] at e1
    obtain ⟨l1⟩ := cs0
    simp only [Nat.mul_one] at e1
    show (List.toArray l1)[i]? = _
    rw [List.getElem?_toArray]
    have e3 := congrArg List.head? e1
    rw [List.head?_take, List.head?_drop] at e3
    simpa using e3
  simp only [Prod.mk.injEq] at hx1
  replace hx1 := hx1.1
  unfold Rows.laid_shuttle_conv_taps at hx1
  match xs, hn3, hx1, cell with
  | [x0, x1, x2, x3], _, hx1, cell =>
    simp only [List.map_cons, List.map_nil, DataW.agg.injEq, List.cons.injEq] at hx1
    exact ⟨cell 0 x0 (by decide) rfl hx1.1.symm, cell 1 x1 (by decide) rfl hx1.2.1.symm, cell 2 x2 (by decide) rfl hx1.2.2.1.symm, cell 3 x3 (by decide) rfl hx1.2.2.2.1.symm⟩
set_option maxRecDepth 100000 in
theorem lifted (os : Os) (started : os.Started) (H : Type) (enc : TypeId × Value → H) (F : Stop.Interp) :
    ReturnsInHanded { calm := true } Tryz.checked os 3 .any (fun w args => (Rows.shuttleHandsSpec.pre enc Tryz.prog Tryz.f3 [] false w args ∧ laidMetH Tryz.prog Rows.shuttleHandsRow.laid w) ∧ sizedMet enc Tryz.prog Tryz.f3 (OpenSpec.ofChange Rows.shuttleHandsSpec) false w args) ((OpenSpec.ofChange Rows.shuttleHandsSpec).postWith enc Tryz.prog Tryz.f3 F (outsideKept [.timePasses]) false true false) := by
  refine Go.Clock.returns_of_change (C := Tryz.checked) (X := fun w _ => laidMetH Tryz.prog Rows.shuttleHandsRow.laid w) (fun _ _ _ hh h => h.of_heap hh) own started (by kernel_rfl) Tryz.func3
    (Go.Clock.witness_at (enc := enc) (C := Tryz.checked) (os := os) (apart := false) (X := fun w _ => laidMetH Tryz.prog Rows.shuttleHandsRow.laid w) (World.doorLaid Tryz.prog 400 os) #[.int .u16 0, .slice none 0 0, .slice none 0 0] 8 rfl (World.shaped_of_RefB (by kernel_rfl) (by kernel_rfl)) (by kernel_rfl) (by kernel_rfl) (by kernel_rfl) (door_met os _)) ?_
  intro W base args ds gs before hval0 hW hcnd hsz0 hL _
  have hT_ := of_laid hL
  have hval : ∀ (j : Nat) t v, Tryz.f3.params[j]? = some t → args[j]? = some v → Value.okWide Tryz.prog W .any base t v := hval0
  have hW' := hW
  obtain ⟨p, q, hA0, hV, rfl, hfz, hnd⟩ := hW
  have hA : DataW.TrodAll enc Tryz.prog W 0 (fun _ => true) true Tryz.f3.params.toList args.toList ds p := hA0
  rw [Tryz.params3] at hA hval
  obtain ⟨v0, vs0, d0, ds0, p0, q0, hargs, rfl, rfl, h0, r0⟩ := trodAll_cons hA
  obtain ⟨v1, vs1, d1, ds1, p1, q1, rfl, rfl, rfl, h1, r1⟩ := trodAll_cons r0
  obtain ⟨v2, vs2, d2, ds2, p2, q2, rfl, rfl, rfl, h2, r2⟩ := trodAll_cons r1
  obtain ⟨rfl, rfl, rfl⟩ := trodAll_nil r2
  obtain rfl : args = #[v0, v1, v2] := by cases args; simp_all
  obtain ⟨rfl, rfl⟩ := trodVars_none hV
  obtain ⟨a0, rfl, rfl, rfl, w0⟩ := open_int Tryz.underlying22 (hval 0 22 v0 rfl rfl) h0
  obtain ⟨a1, len1, cap1, rfl⟩ := okWide_slice Tryz.underlying23 (hval 1 23 v1 rfl rfl)
  have k1 := h1
  have lt1 : ∀ x ∈ p1, x.block < W.heap.size := by obtain ⟨m, hm⟩ := k1; exact DataW.trod_lt m _ _ _ hm
  obtain ⟨l1, rfl, hr1⟩ := P.open_msgs h1
  obtain ⟨a2, len2, cap2, rfl⟩ := okWide_slice Tryz.underlying24 (hval 2 24 v2 rfl rfl)
  have k2 := h2
  have lt2 : ∀ x ∈ p2, x.block < W.heap.size := by obtain ⟨m, hm⟩ := k2; exact DataW.trod_lt m _ _ _ hm
  obtain ⟨l2, rfl, hr2, hc2, hw2⟩ := row_i64 h2
  clear hA0 hval0 hsz0
  refine (P.lawHands.walk a0 w0 a1 cap1 l1 hr1 a2 cap2 l2 hr2 hc2 hw2 W).mono fun e W' ⟨he, bel⟩ => ?_
  subst he
  have since := Go.Clock.Since.of_below bel
  exact ⟨_, rfl, ⟨_, _, _, [], _, [], hW', trodAll_mk1 (shut_bool Tryz.underlying4 _), (trodAll_cons_mk (shut_int Tryz.underlying22 w0) (trodAll_cons_mk (Below.trod laidOut (by kernel_rfl) (of_decide_eq_true (by kernel_rfl)) k1 since.2 lt1) (trodAll_cons_mk (Below.trod laidOut (by kernel_rfl) (of_decide_eq_true (by kernel_rfl)) k2 since.2 lt2) trodAll_mk0))), rfl, since.2.frame _, fun h => by cases h⟩, since.1⟩
theorem over : Rows.shuttleHandsRow.holds Tryz.pinned (OpenSpec.ofChange Rows.shuttleHandsSpec) :=
  Go.Clock.holds_of_wide_time 3 Tryz.f3 rfl rfl rfl rfl rfl rfl rfl ⟨rfl, rfl, rfl, rfl, rfl⟩ rfl rfl rfl rfl rfl (by kernel_rfl) Tryz.func3 (by kernel_rfl)
    (of_decide_eq_true (by kernel_rfl)) (by unfold Func.isWrapper; first | (rw [if_pos (by decide +kernel)]; kernel_rfl) | (rw [if_neg (by decide +kernel)]; exact ⟨rfl, rfl⟩))
    (fun os started H enc _ F => lifted os started H enc F)
theorem proved : Rows.ShuttleHandsSaid := over
theorem card_holds : Rows.ShuttleHandsCardSaid :=
  Claim7.holds_tied_plain_at .later [] [.handle, .data] true (true, "935b7199b929dfb010f2b53209a542c2374c5fe42c24c406f5f617cc3355e6f2") true
    proved (fun _ h => by cases h) (by kernel_rfl) (fun _ h => by cases h) shuttleHands_row_tie rfl ⟨rfl, rfl⟩ (by kernel_rfl) rfl
    (fun f fn hf hfn => by
      obtain rfl : f = 3 := Option.some.inj ((show Tryz.prog.funcNamed "shuttle/shuttletop.ShuttleHands" = some 3 by kernel_rfl).symm.trans hf) |>.symm
      obtain rfl : fn = Tryz.f3 := (Option.some.inj (Tryz.func3.symm.trans hfn)).symm
      exact ⟨by kernel_rfl, fun j t ht => by
        rw [Tryz.params3] at ht
        have hm : t ∈ [22, 23, 24] := by simpa using Array.mem_of_getElem? ht
        have hall : ([22, 23, 24].all fun u => !Tryz.prog.wantsStandIn u) = true := by kernel_rfl
        exact (show Tryz.prog.wantsStandIn t = false by simpa using List.all_eq_true.1 hall t hm)⟩)
    (by kernel_rfl)
#print axioms card_holds
end Go.Proofs.YtajiggmeappfaaaGreatDoor.shuttleHands
namespace Go.Proofs.YtajiggmeappfaaaGreatDoor
/-- The card, under a short name, for the claim. -/
theorem shuttleHands_holds : Rows.ShuttleHandsCardSaid := shuttleHands.card_holds
end Go.Proofs.YtajiggmeappfaaaGreatDoor
