/- Steps of VersionJoins's first statement: a row made, grown, a box made, whatever comes first. No condition. -/
import Derived.Test.YtmajbcglpcagoaaXJoinsQ
import Derived.Test.YtmajbcglpcagoaaWFour
namespace Go.Proofs.Ytmajbcglpcagoaa.X
open Go Go.RowKit Go.Proofs.YtmajbcglpcagoaaW.PrintWords Go.Proofs.YtmajbcglpcagoaaW.PrintLast Go.Proofs.YtmajbcglpcagoaaW.PrintMore
set_option linter.unusedVariables false
set_option linter.unusedSimpArgs false
attribute [local go_sem] max2_int min2_int max_two min_two max_three min_three max_four min_four

theorem u8_info5 : (Try.prog.info? 5).map (fun i => (i.zero, i.size, i.bytes)) = some (some (.int .u8 0), 1, 1) := by kernel_rfl
theorem mod20 (x : Int) (hx : -9223372036854775808 ≤ x ∧ x ≤ 9223372036854775807) : ∃ m : Nat, m < 20 ∧ wrap64 ((IntKind.u64.wrap x).tmod 20) = (m : Int) := by
  obtain ⟨u, hu⟩ := Int.eq_ofNat_of_zero_le (show 0 ≤ IntKind.u64.wrap x by rw [IntKind.wrap_u64]; omega)
  rw [hu, Int.tmod_eq_emod_of_nonneg (by omega)]
  refine ⟨u % 20, Nat.mod_lt _ (by decide), ?_⟩
  rw [wrap_in (n := (u : Int) % 20) (by omega) (by omega)]; omega
theorem alloc_ {ops : Array Oper} {o : Oper} {a : Act} {Q : Exit → Act → World → Prop} {K : Act → World → Prop} {w W : World} {u : Nat → Value} {c : Nat → List Int} (HQ : JQ w W u c (.bool false)) (hw : Region.wanted o (yielded ops a.tmps) = true) (hN : o.dst = some 7) (ho : o.op = .alloc 23)
    (h : ∀ s W1, JQ w W1 u c s → (∃ b, s = Value.pointer (some ⟨b, 0, none⟩)) → K (a.put (some 7) s) W1) : if Region.wanted o (yielded ops a.tmps) = true then Oper.wp Try.prog o a W K Q else K (a.put (some 7) undef) W := by
  refine value_ (w1 := W.alloc (.cells #[.slice none 0 0, .slice none 0 0, .slice none 0 0, .slice none 0 0] 23)) (v := .pointer (some ⟨W.heap.size, 0, none⟩)) hw hN ?_ (h _ _ HQ.boxed ⟨_, rfl⟩)
  unfold execOp
  rw [ho]
  first | (go_simp; done) | (go_simp; rfl)
theorem lit_ {ops : Array Oper} {o : Oper} {a : Act} {Q : Exit → Act → World → Prop} {K : Act → World → Prop} {w W : World} {u : Nat → Value} {c : Nat → List Int} {g : Value} {N : Nat} (i : Nat) (hi : i < 4) (HQ : JQ w W u c g)
    (hw : Region.wanted o (yielded ops a.tmps) = true) (hN : o.dst = some N) (ho : o.op = .buildSlice 22 0 #[]) (h : ∀ s W1, JQ w W1 (upd u i s) (upd c i []) g → K (a.put (some N) s) W1) :
    if Region.wanted o (yielded ops a.tmps) = true then Oper.wp Try.prog o a W K Q else K (a.put (some N) undef) W := by
  rw [← hN]
  refine Kd.R_lit_step (Kd.int .u8) (w0 := w) w.heap.size 5 hw (N := N) hN (xs := []) (inner := []) (ok := fun _ => True) (okp := fun _ => True) ?_ (Reps.none _ _) (fun _ hk => hk) trivial HQ.bel HQ.bel.size (by simp) ?_
  · unfold execOp
    rw [ho]
    first | (go_simp; done) | (go_simp; rfl)
  · intro v w1 ho2 hb hg hn
    rw [hN]
    exact h v w1 (HQ.new i hi ho2 hb hg hn)
theorem app_ {ops : Array Oper} {o : Oper} {a : Act} {Q : Exit → Act → World → Prop} {K : Act → World → Prop} {w W : World} {u : Nat → Value} {c : Nat → List Int} {g : Value} {N s x : Nat} {src : List Int} {A : Option Addr} {m k : Nat} (i : Nat) (hi : i < 4) (HQ : JQ w W u c g) (hc : c i = [])
    (hC : Kd.C (Kd.int .u8) W A m src) (hm : m ≤ 1000) (hw : Region.wanted o (yielded ops a.tmps) = true) (hN : o.dst = some N) (ho : o.op = .call { callee := .builtin .append, args := #[.tmp s, .tmp x], argTypes := #[22, 22] })
    (hs : a.eval (.tmp s) = u i) (hx : a.eval (.tmp x) = .slice A m k) (h : ∀ s W1, JQ w W1 (upd u i s) (upd c i src) g → K (a.put (some N) s) W1) :
    if Region.wanted o (yielded ops a.tmps) = true then Oper.wp Try.prog o a W K Q else K (a.put (some N) undef) W := by
  rw [← hN]
  have hrow := HQ.row i hi
  rw [hc] at hrow
  refine Kd.R_append_rows_step (Kd.int .u8) (w0 := w) w.heap.size hw (.tmp s) (.tmp x) 22 5 (.int .u8 0) 1 ho Try.underlying22 u8_info5 rfl (by decide) (by omega) (u i) [] src A m k (fun k => ∀ j, j < 4 → j ≠ i → some k ≠ (u j).ownBlock) (fun _ => False) hs hx hrow hC (fun _ _ h => h) (fun _ h => h.elim)
    (fun k hk j hj hne e => by have := Kd.R_lt (HQ.row j hj) k e.symm; omega) HQ.bel HQ.bel.size (by simp only [List.length_nil]; omega) ?_
  intro v w1 ho2 hb hg hat
  rw [List.nil_append] at ho2
  rw [hN]
  exact h v w1 (HQ.grow i hi ho2 hb hg hat)
theorem mk_ {ops : Array Oper} {o : Oper} {a : Act} {Q : Exit → Act → World → Prop} {K : Act → World → Prop} {w W : World} {u : Nat → Value} {c : Nat → List Int} {g : Value} {N x : Nat} {m : Nat} (i : Nat) (hi : i < 4) (HQ : JQ w W u c g)
    (hm : m ≤ 1000) (hw : Region.wanted o (yielded ops a.tmps) = true) (hN : o.dst = some N) (ho : o.op = .makeSlice 22 (.tmp x) (.tmp x)) (hx : a.eval (.tmp x) = .int .i64 (m : Int)) (h : ∀ s W1, JQ w W1 (upd u i s) (upd c i (List.replicate m 0)) g → K (a.put (some N) s) W1) :
    if Region.wanted o (yielded ops a.tmps) = true then Oper.wp Try.prog o a W K Q else K (a.put (some N) undef) W := by
  rw [← hN]
  refine Kd.R_make_step (Kd.int .u8) (w0 := w) w.heap.size 5 hw (N := N) hN 22 (.tmp x) (.tmp x) ho (m : Int) hx hx Try.underlying22 (.int .u8 0) 1 u8_info5 rfl (by decide) (by omega) (0 : Int) (ok := fun _ => True) (okp := fun _ => True) rfl (fun _ h => h) trivial (by omega) (by omega) HQ.bel HQ.bel.size ?_
  intro v w1 ho2 hb hg hn
  rw [Int.toNat_natCast] at ho2
  rw [hN]
  exact h v w1 (HQ.new i hi ho2 hb hg hn)
end Go.Proofs.Ytmajbcglpcagoaa.X
