/- slices.Collect of a text's chunks of sixty-three: a row of its parts. No condition but lengths. -/
import Derived.Test.YtfplmoeahbjfmaaPChunk63
namespace Go.Proofs.Ytfplmoeahbjfmaa.P
open Go Go.Proofs Go.RowKit Go.Shelf Go.Proofs.YtfplmoeahbjfmaaW.PrintWords Go.Proofs.YtfplmoeahbjfmaaW.PrintLast Go.Proofs.YtfplmoeahbjfmaaW.PrintMore
set_option linter.unusedVariables false
set_option linter.unusedSimpArgs false
attribute [local go_sem] Oper.semAt_some

theorem info_row : (Try.prog.info? 31).map (fun i => (i.zero, i.size, i.bytes)) = some (some (.slice none 0 0), 1, 24) := by kernel_rfl
set_option maxRecDepth 100000 in
set_option maxHeartbeats 4000000 in
theorem appendSeq_calls (Bs Bn : Nat) (A0 : Option Addr) (ad : Addr) (len c0 : Nat) (w : World) (hA : 0 < len → A0 = some ad) (hlen : len ≤ 1000000) (hcap : len ≤ c0) (bS : Boxed w Bs 31 (.slice A0 len c0)) (bN : Boxed w Bn 3 (.int .i64 63)) :
    Calls Try.prog 53 #[.slice none 0 0, .func (.func 54) #[] #[.pointer (some ⟨Bs, 0, none⟩), .pointer (some ⟨Bn, 0, none⟩)]] w fun e w' =>
      ∃ v, ∃ ys : List (Part63 len), e = .returned v ∧ w'.ownsRow w.heap.size 31 1 v ys.length (ys.map (partV63 ad len)) ∧ ys.map (·.1) = List.range ((len + 62) / 63) ∧ Below w.heap.size w w' := by
  refine (callsIn_wide (n := 5)).1 ?_
  have hro : Fence.wide.round = none := rfl
  refine callsIn_of_wp_marks Try.func53 rfl trivial ?_ hro
  simp only [Try.ntmps53, List.size_toArray, List.length_cons, List.length_nil, Nat.reduceAdd, Nat.reduceSub, Array.replicate_succ, Array.replicate_zero, List.push_toArray, List.append_toArray, List.nil_append, List.cons_append]
  gi_wp2
  have bO := Boxed.new w 36 (.slice none 0 0)
  have hls := bS.lt
  have hln := bN.lt
  obtain ⟨i0, hi, hz0, hz1, hz2⟩ := info_parts info_row
  have hB2 : Below w.heap.size w (w.alloc (.cells #[.slice none 0 0] 36)) := (Below.refl _ w).alloc (Nat.le_refl _) _
  refine wpIn_rangeFunc_ownG hro (by omega) (gf := 54) (lb := #[.pointer (some ⟨Bs, 0, none⟩), .pointer (some ⟨Bn, 0, none⟩)]) rfl trivial (enters_of Try.func54 (by kernel_rfl) rfl)
    (chunk63_stops Fence.wide 4 trivial hro (by omega) Bs Bn w.heap.size A0 ad len c0 hA (by omega) hcap _ (by first | (simp; done) | (simp; omega)) (by first | (simp; done) | (simp; omega)) (bS.alloc _).cell (bN.alloc _).cell) keeps63_t (keeps63_b (by first | (simp; done) | (simp; omega)) (by first | (simp; done) | (simp; omega)) (by first | (simp; done) | (simp; omega))) (Below.refl _ _) (fun _ => rfl)
    (fun pre W => (∃ v, Boxed W w.heap.size 36 v ∧ W.ownsRow w.heap.size 31 1 v pre.length (pre.map fun x => partV63 ad len x) ∧ True) ∧ Boxed W Bs 31 (.slice A0 len c0) ∧ Boxed W Bn 3 (.int .i64 63) ∧ Below w.heap.size w W)
    (fun _ _ _ => False)
    (OwnFrom.and (Own.from (holdsRow_own w.heap.size w.heap.size 36 31 1 (fun pre : List (Part63 len) => pre.length) (fun pre : List (Part63 len) => pre.map fun x => partV63 ad len x) (fun (pre : List (Part63 len)) v => True)) _)
      (OwnFrom.and (Own.from (boxed_own _ _ (fun _ => _)) _) (OwnFrom.and (Own.from (boxed_own _ _ (fun _ => _)) _) (ownFrom_below (Nat.le_refl _) (by simp)))))
    (fun _ _ _ _ _ hs _ _ => hs)
    ⟨⟨_, bO, World.ownsRow_nil _ _ _ _, trivial⟩, bS.alloc _, bN.alloc _, hB2⟩
    (fun x => { tmps := #[.slice none 0 0, .func (.func 54) #[] #[.pointer (some ⟨Bs, 0, none⟩), .pointer (some ⟨Bn, 0, none⟩)], .pointer (some ⟨w.heap.size, 0, none⟩), undef, .slice none 0 0, partV63 ad len x,
      .func (.func 54) #[] #[.pointer (some ⟨Bs, 0, none⟩), .pointer (some ⟨Bn, 0, none⟩)], partV63 ad len x, undef, undef, undef, undef, undef], defers := [] }) ?assign ?body ?done ?stop
  case assign =>
    intro l x W K hK
    gi_wp2
    exact hK
  case body =>
    rintro l pre x W ⟨⟨v, hv, hrow, _⟩, hbs, hbn, hB⟩ hlt
    have hc := hv.cell
    have hxl := x.2
    have hnb : some Bs ≠ v.ownBlock := fun e => by have := (hrow.lt Bs e.symm).1; omega
    have hnn : some Bn ≠ v.ownBlock := fun e => by have := (hrow.lt Bn e.symm).1; omega
    obtain ⟨j, hj⟩ : ∃ j : Nat, min 63 (len - 63 * x.1) = j := ⟨_, rfl⟩
    have hpv : partV63 ad len x = .slice (some (ad.add (63 * x.1))) j j := by unfold partV63; rw [hj]
    simp only [hpv]
    gi_wp2_with (gi_at_builtin; refine wpListIn_append_own _ rfl _ _ 36 rfl w.heap.size 31 i0 (.slice none 0 0) 1 24 Try.underlying36 hi hz0 hz1 hz2 rfl (by decide) _ _ _ rfl (hrow.alloc _) ⟨W.heap.size, 0, none⟩ 1 1 [.slice (some (ad.add (63 * x.1))) j j] rfl rfl (cell_one_new _ _ _) (by simp [Value.oneCell']) (by unfold maxLen; omega) (by omega) (by have := hB.size; simp; omega) ?_; intro v' w2 hown' hgrow _; obtain ⟨g', cap', rfl⟩ := ownsRow_succ hown'; obtain ⟨hv1, hv2, hr2, hk2, hb2⟩ := hv.appended (by decide) hrow hB.size (Nat.le_refl _) hown' hgrow; have hc1 := hv1.cell; have hf1 := hv1.frozen)
    have hbs' := ((hbs.alloc _).kept hgrow hnb).other (B' := w.heap.size) (by omega)
    have hbn' := ((hbn.alloc _).kept hgrow hnn).other (B' := w.heap.size) (by omega)
    exact ⟨hk2.from _, ⟨hb2, (hbs' _).trans hbs.symm, (hbn' _).trans hbn.symm⟩, ⟨_, hv2, by simpa [hpv] using hr2⟩, hbs' _, hbn' _, hB.trans hb2⟩
  case done =>
    rintro D ys W hD hS ⟨⟨v, hv, hrow, _⟩, hbs, hbn, hB⟩ hK
    have hc := hv.cell
    gi_wp2
    refine ⟨by simp, .inl ⟨_, _, rfl, run_takeDeferred hK, ?_⟩⟩
    have hb' := hB.trans (belowK_b (w := w) (Nat.le_refl _) W D _ (.deferred none) (by simp at hD; omega) hK rfl rfl)
    refine ⟨_, results_tmp rfl _ _ _, v, ys, rfl, ?_, hS, hb'⟩
    exact ownsRow_putObj hrow (.deferred none) hK rfl
  case stop =>
    rintro D c pre W _ _ h _
    exact h.elim
end Go.Proofs.Ytfplmoeahbjfmaa.P
