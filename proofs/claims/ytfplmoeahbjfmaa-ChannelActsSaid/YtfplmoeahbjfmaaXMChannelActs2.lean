/- Texts of this seat, one behind the other (merge.py): the walks of the functions that the law ChannelActs uses, and plain words on what they come to. No condition. -/
import Derived.Laws.BytesArg
import Derived.Deep.Slices
import Derived.ChangeSlices
import Derived.ChangeArms
import Derived.Test.YtfplmoeahbjfmaaXMChannelActs1
-- YtfplmoeahbjfmaaP41
namespace Go.Proofs.Ytfplmoeahbjfmaa.P
open Go.RowKit Go.Proofs.YtfplmoeahbjfmaaW.PrintWords Go.Proofs.YtfplmoeahbjfmaaW.PrintLast Go.Proofs.YtfplmoeahbjfmaaW.PrintMore
attribute [local go_sem] max2_int min2_int max_two min_two max_three min_three max_four min_four   -- for this text's walks alone
set_option linter.unusedVariables false
set_option linter.unusedSimpArgs false

/-! ### slices_Clone_byte_byte: function 56 -/
def slices_Clone_byte_byte.f (l0 : List Int) : Option (List Int) := if l0.length < 140737488355328 then some l0 else none
set_option maxHeartbeats 8000000 in
set_option maxRecDepth 100000 in
theorem slices_Clone_byte_byte.calls (A0 : Option Addr) (c0 : Nat) (l0 : List Int) (r : List Int) (w : World) (hr0 : Kd.C (Kd.int .u8) w A0 l0.length l0) (hc0 : l0.length ≤ c0) (h : slices_Clone_byte_byte.f l0 = some r) :
    Calls Try.prog 56 #[.slice A0 l0.length c0] w fun e w' => ∃ v0_ : Value, e = .returned (v0_) ∧ Kd.R (Kd.int .u8) 5 w' w.heap.size (fun _ => True) v0_ r ∧ Below w.heap.size w w' := by
  have HR0 := Aside0.mk hr0
  have HC0 := Aside0.mk hc0
  have HB := Aside0.mk (Below.refl w.heap.size w)
  unfold slices_Clone_byte_byte.f at h
  by_cases c3 : l0.length < 140737488355328
  · rw [if_pos c3] at h
    obtain rfl := Option.some.inj h
    clear h
    cases A0 with
    | none =>
      have hl : l0 = [] := nil_of_none hr0
      subst hl
      have heq := fun wx => Lib.run_eql_slice_nil (P := Try.prog) wx 31 5 none 0 c0 0 0 Try.underlying31
      clear hr0 hc0
      go_enter Try.func56, Try.ntmps56
      go_wp2
      go_ret
      exact ⟨_, rfl, Kd.R_nil _ _ _ _ _, HB.out⟩
    | some a =>
      obtain ⟨y1, hy1⟩ : ∃ y_ : List Int, y_ = (([] : List Int)) := ⟨_, rfl⟩
      have Ny1 := Aside0.mk hy1
      have hr : l0 = y1 ++ l0 := by rw [hy1]; rfl
      have Nr := Aside0.mk hr
      have LM := Aside0.mk c3
      have hlen : y1.length = 0 := by rw [hy1]; rfl
      have NL := Aside0.mk hlen
      have heq := fun wx => Lib.run_eql_slice_nil (P := Try.prog) wx 31 5 (some a) l0.length c0 0 0 Try.underlying31
      clear hr0 hc0 hy1 hr c3 hlen
      go_enter Try.func56, Try.ntmps56
      go_wp2_with (first | ((with_reducible refine gate_dst (N := 5) rfl ?_); refine Kd.R_lit (Kd.int .u8) _ 5 ?hg (N := 5) ?hd (xs := ([] : List Int)) (inner := []) (ok := fun _ => True) (okp := fun _ => True) ?hr ?hp (fun _ hk => hk) trivial (Below.refl _ _) (Nat.le_refl _) (by simp) ?_; (case hd => rfl); (case hg => rfl); (case hr => first | (go_simp; done) | (go_simp; rfl)); (case hp => exact (Reps.none _ _)); intro v1 w5 ho6 hb hg_ hnew_; clear hg_ hnew_; rw [← Ny1.out] at ho6; have n0_ := Aside0.mk (Kd.R_lower ho6 (below_size (by repeat (first | (with_reducible first | exact HB.out | apply below_alloc | apply pw_below_drewN | apply below_drew1) | exact HB.out)))); have n1_ := Aside0.mk (below_step (by repeat (first | (with_reducible first | exact HB.out | apply below_alloc | apply pw_below_drewN | apply below_drew1) | exact HB.out)) hb); clear HB; have HO1 := n0_; have HB := n1_; clear n0_ n1_; clear hb ho6) | ((with_reducible refine gate_builtin (b := .append) (xs := #[.tmp 5, .tmp 6]) rfl ?_); at_builtin; refine Kd.R_append_rows (Kd.int .u8) (w0 := w) w.heap.size rfl (.tmp 5) (.tmp 6) 31 5 (.int .u8 0) 1 rfl Try.underlying31 info5 rfl (by decide) (by omega) v1 y1 l0 _ _ _ (fun _ => True) (fun _ => False) rfl rfl ?aO ?aR (fun _ _ h => h) (fun _ h => h.elim) ?aF ?aB ?aS ?aL ?_; (case aR => repeat (first | exact (Kd.C_below HR0.out HB.out) | (with_reducible refine Kd.C_alloc ?_ _) | (with_reducible refine Kd.C_drewN ?_ _) | (with_reducible refine Kd.C_drew ?_))); (case aB => exact (by repeat (first | (with_reducible first | exact HB.out | apply below_alloc | apply pw_below_drewN | apply below_drew1) | exact HB.out))); (case aF => exact (fun _ _ => trivial)); (case aO => exact (by (with_reducible repeat (first | apply Kd.R_alloc | apply Kd.R_drewN | apply Kd.R_drew)); exact HO1.out)); (case aS => exact (below_size (by repeat (first | (with_reducible first | exact HB.out | apply below_alloc | apply pw_below_drewN | apply below_drew1) | exact HB.out)))); (case aL => have := LM.out; have := NL.out; omega); intro v114 w7 ho hb hg hat; rw [← Nr.out] at ho; have n0_ := Aside0.mk (hb); have n1_ := Aside0.mk (ho); clear HB; clear HO1; have HB := n0_; have HO115 := n1_; clear n0_ n1_; clear ho hb hg hat))
      go_ret
      exact ⟨_, rfl, HO115.out, HB.out⟩
  · rw [if_neg c3] at h
    exact absurd h (by simp)

end Go.Proofs.Ytfplmoeahbjfmaa.P

-- YtfplmoeahbjfmaaP42
namespace Go.Proofs.Ytfplmoeahbjfmaa.P
open Go.RowKit Go.Proofs.YtfplmoeahbjfmaaW.PrintWords Go.Proofs.YtfplmoeahbjfmaaW.PrintLast Go.Proofs.YtfplmoeahbjfmaaW.PrintMore
attribute [local go_sem] max2_int min2_int max_two min_two max_three min_three max_four min_four   -- for this text's walks alone
set_option linter.unusedVariables false
set_option linter.unusedSimpArgs false

/-! ### bits_Turn: function 46 -/
def bits_Turn.l0 : Nat → List Int → List Int → Int → Int → Option (List Int)
  | 0, _, _, _, _ => none
  | k + 1, x5, x10, x11, x12 => if x12 < x11 then (if 0 ≤ x12 then (if x12 < (x10.length : Int) then (if (rd x10 x12) ≥ 0 then (if (rd x10 x12) < (x5.length : Int) then (if 0 ≤ (rd x10 x12) then (bits_Turn.l0 k (x5.set ((rd x10 x12) : Int).toNat (Go.bits .xor .u8 (rd x5 (rd x10 x12)) 1)) x10 x11 (wrap64 (x12 + 1))) else (none)) else (bits_Turn.l0 k x5 x10 x11 (wrap64 (x12 + 1)))) else (bits_Turn.l0 k x5 x10 x11 (wrap64 (x12 + 1)))) else (none)) else (none)) else (some x5)
def bits_Turn.f (k : Nat) (l0 : List Int) (l1 : List Int) : Option (List Int) := (slices_Clone_byte_byte.f l0).bind fun t215 => (bits_Turn.l0 k t215 l1 (l1.length : Int) 0)
theorem bits_Turn.mono_l : ∀ k, (∀ y0 y1 y2 y3, LeO (bits_Turn.l0 k y0 y1 y2 y3) (bits_Turn.l0 (k + 1) y0 y1 y2 y3))
  | 0 => fun _ _ _ _ r h => by simp [bits_Turn.l0] at h
  | k + 1 => by
    have ih0 := bits_Turn.mono_l k
    · intro y0 y1 y2 y3
      unfold bits_Turn.l0
      repeat' first
      | (with_reducible exact ih0 _ _ _ _)
      | (with_reducible exact LeO.refl _)
      | (with_reducible exact LeO.none _)
      | (with_reducible refine LeO.ite ?_ ?_)
      | (with_reducible refine LeO.bind ?_ (fun _ => ?_))
      | exact ih0 _ _ _ _
      | exact LeO.none _
      | refine LeO.ite ?_ ?_
      | refine LeO.bind ?_ (fun _ => ?_)
theorem bits_Turn.mono : ∀ a0 a1 k, LeO (bits_Turn.f k a0 a1) (bits_Turn.f (k + 1) a0 a1) := by
  intro a0 a1 k
  have ih0 := bits_Turn.mono_l k
  unfold bits_Turn.f
  repeat' first
      | (with_reducible exact ih0 _ _ _ _)
      | (with_reducible exact LeO.refl _)
      | (with_reducible exact LeO.none _)
      | (with_reducible refine LeO.ite ?_ ?_)
      | (with_reducible refine LeO.bind ?_ (fun _ => ?_))
      | exact ih0 _ _ _ _
      | exact LeO.none _
      | refine LeO.ite ?_ ?_
      | refine LeO.bind ?_ (fun _ => ?_)
set_option maxHeartbeats 8000000 in
set_option maxRecDepth 100000 in
theorem bits_Turn.calls (k : Nat) (A0 : Option Addr) (c0 : Nat) (l0 : List Int) (A1 : Option Addr) (c1 : Nat) (l1 : List Int) (r : List Int) (w : World) (hr0 : Kd.C (Kd.int .u8) w A0 l0.length l0) (hc0 : l0.length ≤ c0) (hr1 : Kd.C (Kd.int .i64) w A1 l1.length l1) (hc1 : l1.length ≤ c1) (h : bits_Turn.f k l0 l1 = some r) :
    Calls Try.prog 46 #[.slice A0 l0.length c0, .slice A1 l1.length c1] w fun e w' => ∃ v0_ : Value, e = .returned (v0_) ∧ Kd.R (Kd.int .u8) 5 w' w.heap.size (fun _ => True) v0_ r ∧ Below w.heap.size w w' := by
  have HR0 := Aside0.mk hr0
  have HC0 := Aside0.mk hc0
  clear hr0 hc0
  have HR1 := Aside0.mk hr1
  have HC1 := Aside0.mk hc1
  clear hr1 hc1
  have HB := Aside0.mk (Below.refl w.heap.size w)
  have H : ((slices_Clone_byte_byte.f l0).bind fun t215 => (bits_Turn.l0 k t215 l1 (l1.length : Int) 0)) = some r := h
  clear h
  replace H := Option.bind_eq_some_iff.mp H
  obtain ⟨t215, A30, H⟩ := H
  replace H : (bits_Turn.l0 k t215 l1 (l1.length : Int) 0) = some r := H
  have A3 := Aside0.mk A30
  clear A30
  have H' := Aside0.mk H
  clear H
  go_enter Try.func46, Try.ntmps46
  go_wp2_with (first | ((with_reducible refine gate_callee (f := 56) rfl ?_); refine goesL_ (some 9) rfl rfl Try.func56 (by kernel_rfl) rfl #[.slice A0 l0.length c0] rfl (by (try simp only [List.map_toArray, List.map_cons, List.map_nil]); first | done | rfl | (simp only [List.length_drop, List.length_take]; rfl)) ?_; (with_reducible refine (slices_Clone_byte_byte.calls _ _ l0 t215 _ ?side1 ?side2 A3.out).mono ?_); (case side1 => repeat (first | exact HR0.out | (with_reducible refine Kd.C_alloc ?_ _) | (with_reducible refine Kd.C_drewN ?_ _) | (with_reducible refine Kd.C_drew ?_))); (case side2 => exact HC0.out); rintro e w4 ⟨v216, rfl, ho0, hb⟩; refine ⟨_, rfl, ?_⟩; have n0_ := Aside0.mk (Kd.R_lower ho0 (below_size (by repeat (first | (with_reducible first | exact HB.out | apply below_alloc | apply pw_below_drewN | apply below_drew1) | exact HB.out)))); have n1_ := Aside0.mk (below_step (by repeat (first | (with_reducible first | exact HB.out | apply below_alloc | apply pw_below_drewN | apply below_drew1) | exact HB.out)) hb); clear HB; have HO217 := n0_; have HB := n1_; clear n0_ n1_; (try clear hb); (try clear hb2); (try clear hk); (try clear hi); (try clear ho0)))
  go_loopg [12] k (fun kq v12 w' => ∃ (x5_1 : List Int) (x12_1 : Int), v12 = .int .i64 x12_1 ∧ Aside0 (bits_Turn.l0 kq x5_1 l1 (l1.length : Int) x12_1 = some r) ∧ Aside0 (kq ≤ k) ∧ Aside0 (Kd.R (Kd.int .u8) 5 w' w.heap.size (fun _ => True) v216 x5_1) ∧ Aside0 (Below w.heap.size w w'))
  case atStart => exact ⟨(t215), (0), (by first | rfl | (simp; done) | (simp [*]; done)), H', ⟨Nat.le_refl _⟩, ⟨by (with_reducible repeat (first | apply Kd.R_alloc | apply Kd.R_drewN | apply Kd.R_drew)); exact HO217.out⟩, ⟨by repeat (first | (with_reducible first | exact HB.out | apply below_alloc | apply pw_below_drewN | apply below_drew1) | exact HB.out)⟩⟩
  case round =>
    clear H'
    try clear c1
    try clear p2
    try clear c4
    obtain ⟨x5_1, x12_1, rfl, HA, HK1, HO_5, HB⟩ := hrel
    cases gk with
    | zero => exact absurd HA.out (by simp [bits_Turn.l0])
    | succ k1 =>
      have H := HA.out
      clear HA
      simp only [bits_Turn.l0] at H
      by_cases c5 : x12_1 < (l1.length : Int)
      · rw [if_pos c5] at H
        have c5b0 : decide (x12_1 < (l1.length : Int)) = true := decide_eq_true c5
        clear c5
        by_cases c6 : 0 ≤ x12_1
        · rw [if_pos c6] at H
          have c6b0 : decide (0 ≤ x12_1) = true := decide_eq_true c6
          clear c6
          by_cases c7 : x12_1 < (l1.length : Int)
          · rw [if_pos c7] at H
            have c7b0 : decide (x12_1 < (l1.length : Int)) = true := decide_eq_true c7
            clear c7
            by_cases c8 : (rd l1 x12_1) ≥ 0
            · rw [if_pos c8] at H
              have c8b0 : decide (0 ≤ (rd l1 x12_1)) = true := decide_eq_true c8
              clear c8
              by_cases c9 : (rd l1 x12_1) < (x5_1.length : Int)
              · rw [if_pos c9] at H
                have c9b0 : decide ((rd l1 x12_1) < (x5_1.length : Int)) = true := decide_eq_true c9
                clear c9
                by_cases c10 : 0 ≤ (rd l1 x12_1)
                · rw [if_pos c10] at H
                  have c10b0 : decide (0 ≤ (rd l1 x12_1)) = true := decide_eq_true c10
                  clear c10
                  obtain ⟨y220, hy220⟩ : ∃ y_ : List Int, y_ = (x5_1.set ((rd l1 x12_1) : Int).toNat (Go.bits .xor .u8 (rd x5_1 (rd l1 x12_1)) 1)) := ⟨_, rfl⟩
                  replace H : (bits_Turn.l0 k1 y220 l1 (l1.length : Int) (wrap64 (x12_1 + 1))) = some r := by first | (rw [hy220]; with_reducible exact H) | (have H2_ := (Option.bind_some _ _).symm.trans H; rw [hy220]; with_reducible exact H2_) | (have H2_ := (Option.bind_some _ _).symm.trans H; with_reducible exact H2_) | with_reducible exact H | (rw [hy220]; exact H) | exact H
                  have Ny220 := Aside0.mk hy220
                  clear hy220
                  have H' := Aside0.mk H
                  clear H
                  have p218 : 0 ≤ (x12_1 : Int) := of_decide_eq_true (by first | (with_reducible assumption) | assumption)
                  have q218 : x12_1 < (l1.length : Int) := of_decide_eq_true (by first | (with_reducible assumption) | assumption)
                  obtain ⟨ad218, e218, hx218_0⟩ := Kd.at_int HR1.out x12_1 p218 q218
                  cases e218
                  replace hx218_0 := (HB.out.cell (World.block_lt_of_cell? w _ hx218_0)).trans hx218_0
                  replace p218 := eq_true p218
                  replace q218 := eq_true q218
                  obtain ⟨Ao12, co12, eo12⟩ := Kd.R_slice HO_5.out
                  subst eo12
                  have p219 : 0 ≤ ((rd l1 x12_1) : Int) := of_decide_eq_true (by first | (with_reducible assumption) | assumption)
                  have q219 : (rd l1 x12_1) < (x5_1.length : Int) := of_decide_eq_true (by first | (with_reducible assumption) | assumption)
                  obtain ⟨ad219, e219, hx219_0⟩ := Kd.at_int (Kd.R_reads' HO_5.out).2.2 (rd l1 x12_1) p219 q219
                  cases e219
                  replace p219 := eq_true p219
                  replace q219 := eq_true q219
                  have p11 : 0 ≤ ((rd l1 x12_1) : Int) := of_decide_eq_true (by first | (with_reducible assumption) | assumption)
                  have q11 : ((rd l1 x12_1) : Int) < ((x5_1.length : Int) : Int) := of_decide_eq_true (by first | (with_reducible assumption) | assumption)
                  obtain ⟨go11, co11, eo11, gb11, gl11, cl11, HG11⟩ := Kd.R_form HO_5.out (by omega)
                  (first | cases eo11 | (injection eo11 with ea_ en_ ec_; (first | subst ea_ | (injection ea_ with ea_; subst ea_)); subst ec_; clear en_))
                  have GB11 := Aside0.mk gb11
                  have GG11 := Aside0.mk HG11
                  clear gb11 gl11 HG11
                  (first | simp only [add_plain] at hx219_0 | skip)
                  obtain ⟨hx11_0, hf11_0⟩ := Kd.R_celln 0 HO_5.out ((rd l1 x12_1) : Int) p11 q11
                  replace p11 := eq_true p11
                  replace q11 := eq_true q11
                  have HP13 := Kd.R_putg HO_5.out ((rd l1 x12_1) : Int) (Go.bits .xor .u8 (rd x5_1 (rd l1 x12_1)) 1)
                  go_wp2_with (first | ((with_reducible refine gate_store (t := 5) (p := 29) rfl ?_); refine store_event (t := 5) (p := 29) (v := ?vo_w14) (w1 := (wr.setCell ⟨go11, ((rd l1 x12_1) : Int).toNat, none⟩ (.int .u8 (Go.bits .xor .u8 (rd x5_1 (rd l1 x12_1)) 1)))) ?hg ?ho ?hn ?hr ?_; (case ho => rfl); (case hg => rfl); (case hn => rfl); (case hr => first | (go_simp; done) | (go_simp; rfl)); intro w14 hw; have hg : wr.grownBy w14 (some go11) := (by rw [hw]; exact HP13.2); have hp_ : Kd.R (Kd.int .u8) 5 w14 w.heap.size (fun _ => True) (.slice (some ⟨go11, 0, none⟩) x5_1.length co12) y220 := (by rw [hw, Ny220.out]; exact HP13.1); clear HP13; have n0_ := Aside0.mk (hp_); have n1_ := Aside0.mk ((by rw [hw]; exact below_set (HB.out) GB11.out : Below w.heap.size w w14)); clear HO_5; clear HB; have HO_5 := n0_; have HB := n1_; clear n0_ n1_; clear hg hw hp_))
                  go_roundg k1
                  case measure => have := HK1.out; omega
                  case rel => exact ⟨(y220), (wrap64 (x12_1 + 1)), (by first | rfl | (simp; done) | (simp [*]; done)), H', ⟨by have := HK1.out; omega⟩, ⟨by (with_reducible repeat (first | apply Kd.R_alloc | apply Kd.R_drewN | apply Kd.R_drew)); exact HO_5.out⟩, ⟨by repeat (first | (with_reducible first | exact HB.out | apply below_alloc | apply pw_below_drewN | apply below_drew1) | exact HB.out)⟩⟩
                · rw [if_neg c10] at H
                  exact absurd H (by simp)
              · rw [if_neg c9] at H
                have c9b0 : decide ((rd l1 x12_1) < (x5_1.length : Int)) = false := decide_eq_false c9
                clear c9
                have H' := Aside0.mk H
                clear H
                have p218 : 0 ≤ (x12_1 : Int) := of_decide_eq_true (by first | (with_reducible assumption) | assumption)
                have q218 : x12_1 < (l1.length : Int) := of_decide_eq_true (by first | (with_reducible assumption) | assumption)
                obtain ⟨ad218, e218, hx218_0⟩ := Kd.at_int HR1.out x12_1 p218 q218
                cases e218
                replace hx218_0 := (HB.out.cell (World.block_lt_of_cell? w _ hx218_0)).trans hx218_0
                replace p218 := eq_true p218
                replace q218 := eq_true q218
                obtain ⟨Ao15, co15, eo15⟩ := Kd.R_slice HO_5.out
                subst eo15
                go_wp2
                go_roundg k1
                case measure => have := HK1.out; omega
                case rel => exact ⟨(x5_1), (wrap64 (x12_1 + 1)), (by first | rfl | (simp; done) | (simp [*]; done)), H', ⟨by have := HK1.out; omega⟩, ⟨by (with_reducible repeat (first | apply Kd.R_alloc | apply Kd.R_drewN | apply Kd.R_drew)); exact HO_5.out⟩, ⟨by repeat (first | (with_reducible first | exact HB.out | apply below_alloc | apply pw_below_drewN | apply below_drew1) | exact HB.out)⟩⟩
            · rw [if_neg c8] at H
              have c8b0 : decide (0 ≤ (rd l1 x12_1)) = false := decide_eq_false c8
              clear c8
              have H' := Aside0.mk H
              clear H
              have p218 : 0 ≤ (x12_1 : Int) := of_decide_eq_true (by first | (with_reducible assumption) | assumption)
              have q218 : x12_1 < (l1.length : Int) := of_decide_eq_true (by first | (with_reducible assumption) | assumption)
              obtain ⟨ad218, e218, hx218_0⟩ := Kd.at_int HR1.out x12_1 p218 q218
              cases e218
              replace hx218_0 := (HB.out.cell (World.block_lt_of_cell? w _ hx218_0)).trans hx218_0
              replace p218 := eq_true p218
              replace q218 := eq_true q218
              go_wp2
              go_roundg k1
              case measure => have := HK1.out; omega
              case rel => exact ⟨(x5_1), (wrap64 (x12_1 + 1)), (by first | rfl | (simp; done) | (simp [*]; done)), H', ⟨by have := HK1.out; omega⟩, ⟨by (with_reducible repeat (first | apply Kd.R_alloc | apply Kd.R_drewN | apply Kd.R_drew)); exact HO_5.out⟩, ⟨by repeat (first | (with_reducible first | exact HB.out | apply below_alloc | apply pw_below_drewN | apply below_drew1) | exact HB.out)⟩⟩
          · rw [if_neg c7] at H
            exact absurd H (by simp)
        · rw [if_neg c6] at H
          exact absurd H (by simp)
      · rw [if_neg c5] at H
        have c5b0 : decide (x12_1 < (l1.length : Int)) = false := decide_eq_false c5
        clear c5
        obtain rfl := Option.some.inj H
        go_wp2
        go_ret
        exact ⟨_, by first | rfl | (simp [errW_none, errW_some] <;> rfl) | (simp [*, errW_none, errW_some] <;> rfl), by (with_reducible repeat (first | apply Kd.R_alloc | apply Kd.R_drewN | apply Kd.R_drew)); exact HO_5.out, by repeat (first | (with_reducible first | exact HB.out | apply below_alloc | apply pw_below_drewN | apply below_drew1) | exact HB.out)⟩

end Go.Proofs.Ytfplmoeahbjfmaa.P

-- YtfplmoeahbjfmaaP52
namespace Go.Proofs.Ytfplmoeahbjfmaa.P
open Go.RowKit Go.Proofs.YtfplmoeahbjfmaaW.PrintWords Go.Proofs.YtfplmoeahbjfmaaW.PrintLast Go.Proofs.YtfplmoeahbjfmaaW.PrintMore
attribute [local go_sem] max2_int min2_int max_two min_two max_three min_three max_four min_four   -- for this text's walks alone
set_option linter.unusedVariables false
set_option linter.unusedSimpArgs false

/-! ### shuttleref01_Turn: function 50 -/
mutual
def shuttleref01_Turn.l0 : Nat → List Int → List Int → List Int → Int → Option (List Int)
  | 0, _, _, _, _ => none
  | k + 1, x0, x1, x5, x6 => if x6 < (x0.length : Int) then (if 0 ≤ x6 then (shuttleref01_Turn.l1 k x0 x1 x5 x6 (rd x0 x6) 0) else (none)) else (some x5)
def shuttleref01_Turn.l1 : Nat → List Int → List Int → List Int → Int → Int → Int → Option (List Int)
  | 0, _, _, _, _, _, _ => none
  | k + 1, x0, x1, x5, x6, x7, x8 => if x8 < (x1.length : Int) then (if 0 ≤ x8 then (if (rd x1 x8) = x6 then (shuttleref01_Turn.l1 k x0 x1 x5 x6 (Go.bits .xor .u8 x7 1) (wrap64 (x8 + 1))) else (shuttleref01_Turn.l1 k x0 x1 x5 x6 x7 (wrap64 (x8 + 1)))) else (none)) else (if x5.length < 140737488355328 then (shuttleref01_Turn.l0 k x0 x1 (x5 ++ [x7]) (wrap64 (x6 + 1))) else (none))
end
def shuttleref01_Turn.f (k : Nat) (l0 : List Int) (l1 : List Int) : Option (List Int) := shuttleref01_Turn.l0 k l0 l1 ([] : List Int) 0
theorem shuttleref01_Turn.mono_l : ∀ k, (∀ y0 y1 y2 y3, LeO (shuttleref01_Turn.l0 k y0 y1 y2 y3) (shuttleref01_Turn.l0 (k + 1) y0 y1 y2 y3)) ∧ (∀ y0 y1 y2 y3 y4 y5, LeO (shuttleref01_Turn.l1 k y0 y1 y2 y3 y4 y5) (shuttleref01_Turn.l1 (k + 1) y0 y1 y2 y3 y4 y5))
  | 0 => ⟨fun _ _ _ _ r h => by simp [shuttleref01_Turn.l0] at h, fun _ _ _ _ _ _ r h => by simp [shuttleref01_Turn.l1] at h⟩
  | k + 1 => by
    obtain ⟨ih0, ih1⟩ := shuttleref01_Turn.mono_l k
    refine ⟨?_, ?_⟩
    · intro y0 y1 y2 y3
      unfold shuttleref01_Turn.l0
      repeat' first
      | (with_reducible exact ih0 _ _ _ _)
      | (with_reducible exact ih1 _ _ _ _ _ _)
      | (with_reducible exact LeO.refl _)
      | (with_reducible exact LeO.none _)
      | (with_reducible refine LeO.ite ?_ ?_)
      | (with_reducible refine LeO.bind ?_ (fun _ => ?_))
      | exact ih0 _ _ _ _
      | exact ih1 _ _ _ _ _ _
      | exact LeO.none _
      | refine LeO.ite ?_ ?_
      | refine LeO.bind ?_ (fun _ => ?_)
    · intro y0 y1 y2 y3 y4 y5
      unfold shuttleref01_Turn.l1
      repeat' first
      | (with_reducible exact ih0 _ _ _ _)
      | (with_reducible exact ih1 _ _ _ _ _ _)
      | (with_reducible exact LeO.refl _)
      | (with_reducible exact LeO.none _)
      | (with_reducible refine LeO.ite ?_ ?_)
      | (with_reducible refine LeO.bind ?_ (fun _ => ?_))
      | exact ih0 _ _ _ _
      | exact ih1 _ _ _ _ _ _
      | exact LeO.none _
      | refine LeO.ite ?_ ?_
      | refine LeO.bind ?_ (fun _ => ?_)
theorem shuttleref01_Turn.mono : ∀ a0 a1 k, LeO (shuttleref01_Turn.f k a0 a1) (shuttleref01_Turn.f (k + 1) a0 a1) := by
  intro a0 a1 k
  obtain ⟨ih0, ih1⟩ := shuttleref01_Turn.mono_l k
  unfold shuttleref01_Turn.f
  repeat' first
      | (with_reducible exact ih0 _ _ _ _)
      | (with_reducible exact ih1 _ _ _ _ _ _)
      | (with_reducible exact LeO.refl _)
      | (with_reducible exact LeO.none _)
      | (with_reducible refine LeO.ite ?_ ?_)
      | (with_reducible refine LeO.bind ?_ (fun _ => ?_))
      | exact ih0 _ _ _ _
      | exact ih1 _ _ _ _ _ _
      | exact LeO.none _
      | refine LeO.ite ?_ ?_
      | refine LeO.bind ?_ (fun _ => ?_)
set_option maxHeartbeats 8000000 in
set_option maxRecDepth 100000 in
theorem shuttleref01_Turn.calls (k : Nat) (A0 : Option Addr) (c0 : Nat) (l0 : List Int) (A1 : Option Addr) (c1 : Nat) (l1 : List Int) (r : List Int) (w : World) (hr0 : Kd.C (Kd.int .u8) w A0 l0.length l0) (hc0 : l0.length ≤ c0) (hr1 : Kd.C (Kd.int .i64) w A1 l1.length l1) (hc1 : l1.length ≤ c1) (h : shuttleref01_Turn.f k l0 l1 = some r) :
    Calls Try.prog 50 #[.slice A0 l0.length c0, .slice A1 l1.length c1] w fun e w' => ∃ v0_ : Value, e = .returned (v0_) ∧ Kd.R (Kd.int .u8) 5 w' w.heap.size (fun _ => True) v0_ r ∧ Below w.heap.size w w' := by
  have HR0 := Aside0.mk hr0
  have HC0 := Aside0.mk hc0
  clear hr0 hc0
  have HR1 := Aside0.mk hr1
  have HC1 := Aside0.mk hc1
  clear hr1 hc1
  have HB := Aside0.mk (Below.refl w.heap.size w)
  have H : (shuttleref01_Turn.l0 k l0 l1 ([] : List Int) 0) = some r := h
  clear h
  have H' := Aside0.mk H
  clear H
  go_enter Try.func50, Try.ntmps50
  go_wp2
  go_loopg [5, 6] k (fun kq v5 v6 w' => ∃ (x5_1 : List Int) (x6_1 : Int), v6 = .int .i64 x6_1 ∧ Aside0 (shuttleref01_Turn.l0 kq l0 l1 x5_1 x6_1 = some r) ∧ Aside0 (kq ≤ k) ∧ Aside0 (Kd.R (Kd.int .u8) 5 w' w.heap.size (fun _ => True) v5 x5_1) ∧ Aside0 (Below w.heap.size w w'))
  case atStart => exact ⟨(([] : List Int)), (0), (by first | rfl | (simp; done) | (simp [*]; done)), H', ⟨Nat.le_refl _⟩, ⟨by first | exact Kd.R_nil _ _ _ _ _ | exact Kd.N_nil _ _ _ _ _ | exact Kd.V_nil _ _ _ _ _ | exact Kd.Q_nil _ _ _ _ _ | exact Kd.S_nil _ _ _ _ _⟩, ⟨by repeat (first | (with_reducible first | exact HB.out | apply below_alloc | apply pw_below_drewN | apply below_drew1) | exact HB.out)⟩⟩
  case round =>
    clear H'
    try clear c1
    try clear p2
    obtain ⟨x5_1, x6_1, rfl, HA, HK1, HO_5, HB⟩ := hrel
    cases gk with
    | zero => exact absurd HA.out (by simp [shuttleref01_Turn.l0])
    | succ k1 =>
      have H := HA.out
      clear HA
      simp only [shuttleref01_Turn.l0] at H
      by_cases c3 : x6_1 < (l0.length : Int)
      · rw [if_pos c3] at H
        have c3b0 : decide (x6_1 < (l0.length : Int)) = true := decide_eq_true c3
        clear c3
        by_cases c4 : 0 ≤ x6_1
        · rw [if_pos c4] at H
          have c4b0 : decide (0 ≤ x6_1) = true := decide_eq_true c4
          clear c4
          have H' := Aside0.mk H
          clear H
          have p263 : 0 ≤ (x6_1 : Int) := of_decide_eq_true (by first | (with_reducible assumption) | assumption)
          have q263 : x6_1 < (l0.length : Int) := of_decide_eq_true (by first | (with_reducible assumption) | assumption)
          obtain ⟨ad263, e263, hx263_0⟩ := Kd.at_int HR0.out x6_1 p263 q263
          cases e263
          replace hx263_0 := (HB.out.cell (World.block_lt_of_cell? w _ hx263_0)).trans hx263_0
          replace p263 := eq_true p263
          replace q263 := eq_true q263
          go_wp2
          go_loopg [7, 8] k1 (fun kq v7 v8 w' => ∃ (x7_2 : Int) (x8_2 : Int), v7 = .int .u8 x7_2 ∧ v8 = .int .i64 x8_2 ∧ Aside0 (shuttleref01_Turn.l1 kq l0 l1 x5_1 x6_1 x7_2 x8_2 = some r) ∧ Aside0 (kq ≤ k1) ∧ Aside0 (Kd.R (Kd.int .u8) 5 w' w.heap.size (fun _ => True) u5 x5_1) ∧ Aside0 (Below w.heap.size w w'))
          case atStart => exact ⟨(rd l0 x6_1), (0), (by first | rfl | (simp; done) | (simp [*]; done)), (by first | rfl | (simp; done) | (simp [*]; done)), H', ⟨Nat.le_refl _⟩, ⟨by (with_reducible repeat (first | apply Kd.R_alloc | apply Kd.R_drewN | apply Kd.R_drew)); exact HO_5.out⟩, ⟨by repeat (first | (with_reducible first | exact HB.out | apply below_alloc | apply pw_below_drewN | apply below_drew1) | exact HB.out)⟩⟩
          case round =>
            clear H'
            try clear c1
            try clear p2
            try clear q2
            try clear hx2
            try clear c3
            try clear c3b0
            try clear c4
            try clear c4b0
            try clear hx263_0
            try clear p2
            try clear p263
            try clear q263
            obtain ⟨x7_2, x8_2, rfl, rfl, HA, HK2, HO_5, HB⟩ := hrel
            cases gk with
            | zero => exact absurd HA.out (by simp [shuttleref01_Turn.l1])
            | succ k2 =>
              have H := HA.out
              clear HA
              simp only [shuttleref01_Turn.l1] at H
              by_cases c5 : x8_2 < (l1.length : Int)
              · rw [if_pos c5] at H
                have c5b0 : decide (x8_2 < (l1.length : Int)) = true := decide_eq_true c5
                clear c5
                by_cases c6 : 0 ≤ x8_2
                · rw [if_pos c6] at H
                  have c6b0 : decide (0 ≤ x8_2) = true := decide_eq_true c6
                  clear c6
                  by_cases c7 : (rd l1 x8_2) = x6_1
                  · rw [if_pos c7] at H
                    have c7b0 : ((rd l1 x8_2) == x6_1) = true := beq_iff_eq.mpr c7
                    have c7b1 : ((rd l1 x8_2) != x6_1) = false := bne_eq_false_iff_eq.mpr c7
                    clear c7
                    have H' := Aside0.mk H
                    clear H
                    have p264 : 0 ≤ (x8_2 : Int) := of_decide_eq_true (by first | (with_reducible assumption) | assumption)
                    have q264 : x8_2 < (l1.length : Int) := of_decide_eq_true (by first | (with_reducible assumption) | assumption)
                    obtain ⟨ad264, e264, hx264_0⟩ := Kd.at_int HR1.out x8_2 p264 q264
                    cases e264
                    replace hx264_0 := (HB.out.cell (World.block_lt_of_cell? w _ hx264_0)).trans hx264_0
                    replace p264 := eq_true p264
                    replace q264 := eq_true q264
                    go_wp2
                    go_roundg k2
                    case measure => have := HK1.out; have := HK2.out; omega
                    case rel => exact ⟨(Go.bits .xor .u8 x7_2 1), (wrap64 (x8_2 + 1)), (by first | rfl | (simp; done) | (simp [*]; done)), (by first | rfl | (simp; done) | (simp [*]; done)), H', ⟨by have := HK1.out; have := HK2.out; omega⟩, ⟨by (with_reducible repeat (first | apply Kd.R_alloc | apply Kd.R_drewN | apply Kd.R_drew)); exact HO_5.out⟩, ⟨by repeat (first | (with_reducible first | exact HB.out | apply below_alloc | apply pw_below_drewN | apply below_drew1) | exact HB.out)⟩⟩
                  · rw [if_neg c7] at H
                    have c7b0 : ((rd l1 x8_2) == x6_1) = false := beq_eq_false_iff_ne.mpr c7
                    have c7b1 : ((rd l1 x8_2) != x6_1) = true := bne_iff_ne.mpr c7
                    have H' := Aside0.mk H
                    clear H
                    have p264 : 0 ≤ (x8_2 : Int) := of_decide_eq_true (by first | (with_reducible assumption) | assumption)
                    have q264 : x8_2 < (l1.length : Int) := of_decide_eq_true (by first | (with_reducible assumption) | assumption)
                    obtain ⟨ad264, e264, hx264_0⟩ := Kd.at_int HR1.out x8_2 p264 q264
                    cases e264
                    replace hx264_0 := (HB.out.cell (World.block_lt_of_cell? w _ hx264_0)).trans hx264_0
                    replace p264 := eq_true p264
                    replace q264 := eq_true q264
                    go_wp2
                    go_roundg k2
                    case measure => have := HK1.out; have := HK2.out; omega
                    case rel => exact ⟨(x7_2), (wrap64 (x8_2 + 1)), (by first | rfl | (simp; done) | (simp [*]; done)), (by first | rfl | (simp; done) | (simp [*]; done)), H', ⟨by have := HK1.out; have := HK2.out; omega⟩, ⟨by (with_reducible repeat (first | apply Kd.R_alloc | apply Kd.R_drewN | apply Kd.R_drew)); exact HO_5.out⟩, ⟨by repeat (first | (with_reducible first | exact HB.out | apply below_alloc | apply pw_below_drewN | apply below_drew1) | exact HB.out)⟩⟩
                · rw [if_neg c6] at H
                  exact absurd H (by simp)
              · rw [if_neg c5] at H
                have c5b0 : decide (x8_2 < (l1.length : Int)) = false := decide_eq_false c5
                clear c5
                by_cases c8 : x5_1.length < 140737488355328
                · rw [if_pos c8] at H
                  have LMc8 := Aside0.mk c8
                  clear c8
                  obtain ⟨y265, hy265⟩ : ∃ y_ : List Int, y_ = (x5_1 ++ [x7_2]) := ⟨_, rfl⟩
                  replace H : (shuttleref01_Turn.l0 k2 l0 l1 y265 (wrap64 (x6_1 + 1))) = some r := by first | (rw [hy265]; with_reducible exact H) | (have H2_ := (Option.bind_some _ _).symm.trans H; rw [hy265]; with_reducible exact H2_) | (have H2_ := (Option.bind_some _ _).symm.trans H; with_reducible exact H2_) | with_reducible exact H | (rw [hy265]; exact H) | exact H
                  have Ny265 := Aside0.mk hy265
                  clear hy265
                  have H' := Aside0.mk H
                  clear H
                  go_wp2_with (first | ((with_reducible refine gate_builtin (b := .append) (xs := #[.tmp 33, .tmp 35]) rfl ?_); at_builtin; refine Kd.R_append (Kd.int .u8) (w0 := w) w.heap.size rfl (.tmp 33) (.tmp 35) 31 5 (.int .u8 0) 1 rfl Try.underlying31 info5 rfl (by decide) (by omega) u5 x5_1 x7_2 [.int .u8 x7_2] (fun _ => True) (fun _ => False) rfl rfl ?aP (fun _ hk => hk.elim) ?aF ?aO ?aB ?aS ?aL ?_; (case aP => exact rfl); (case aB => exact (by repeat (first | (with_reducible first | exact HB.out | apply below_alloc | apply pw_below_drewN | apply below_drew1) | exact HB.out))); (case aF => exact (fun _ _ => trivial)); (case aO => exact (by (with_reducible repeat (first | apply Kd.R_alloc | apply Kd.R_drewN | apply Kd.R_drew)); exact HO_5.out)); (case aS => exact (below_size (by repeat (first | (with_reducible first | exact HB.out | apply below_alloc | apply pw_below_drewN | apply below_drew1) | exact HB.out)))); (case aL => have := LMc8.out; omega); intro v266 w9 ho hb hg hat; rw [← Ny265.out] at ho; have n0_ := Aside0.mk (hb); have n1_ := Aside0.mk (ho); clear HB; clear HO_5; have HB := n0_; have HO267 := n1_; clear n0_ n1_; clear ho hb hg hat))
                  go_roundg k2
                  case measure => have := HK1.out; have := HK2.out; omega
                  case rel => exact ⟨(y265), (wrap64 (x6_1 + 1)), (by first | rfl | (simp; done) | (simp [*]; done)), H', ⟨by have := HK1.out; have := HK2.out; omega⟩, ⟨by (with_reducible repeat (first | apply Kd.R_alloc | apply Kd.R_drewN | apply Kd.R_drew)); exact HO267.out⟩, ⟨by repeat (first | (with_reducible first | exact HB.out | apply below_alloc | apply pw_below_drewN | apply below_drew1) | exact HB.out)⟩⟩
                · rw [if_neg c8] at H
                  exact absurd H (by simp)
        · rw [if_neg c4] at H
          exact absurd H (by simp)
      · rw [if_neg c3] at H
        have c3b0 : decide (x6_1 < (l0.length : Int)) = false := decide_eq_false c3
        clear c3
        obtain rfl := Option.some.inj H
        go_wp2
        go_ret
        exact ⟨_, by first | rfl | (simp [errW_none, errW_some] <;> rfl) | (simp [*, errW_none, errW_some] <;> rfl), by (with_reducible repeat (first | apply Kd.R_alloc | apply Kd.R_drewN | apply Kd.R_drew)); exact HO_5.out, by repeat (first | (with_reducible first | exact HB.out | apply below_alloc | apply pw_below_drewN | apply below_drew1) | exact HB.out)⟩

end Go.Proofs.Ytfplmoeahbjfmaa.P

-- YtfplmoeahbjfmaaPCBit
namespace Go.Proofs.Ytfplmoeahbjfmaa.P
open Go.RowKit Go.Proofs.YtfplmoeahbjfmaaW.PrintWords Go.Proofs.YtfplmoeahbjfmaaW.PrintLast Go.Proofs.YtfplmoeahbjfmaaW.PrintMore
set_option linter.unusedVariables false

def bit (x : Int) : Prop := x = 0 ∨ x = 1
-- some are turned
def tv (at_ : List Int) (i : Int) (x : Int) : Int := at_.foldl (fun c a => if a = i then Go.bits .xor .u8 c 1 else c) x
def turned (l at_ : List Int) : List Int := (List.range l.length).map fun i : Nat => tv at_ (i : Int) (l.getD i 0)
theorem turned_length (l at_ : List Int) : (turned l at_).length = l.length := by simp [turned]
theorem xor1 {x : Int} (h : bit x) : Go.bits .xor .u8 x 1 = 1 - x := by
  rcases h with rfl | rfl <;> decide +kernel
theorem tv_bit (at_ : List Int) (i : Int) : ∀ x : Int, bit x → bit (tv at_ i x) := by
  unfold tv
  induction at_ with
  | nil => intro x h; exact h
  | cons a at_ ih =>
    intro x h
    rw [List.foldl_cons]
    refine ih _ ?_
    split
    · rw [xor1 h]; unfold bit at h ⊢; omega
    · exact h
theorem getD_bit {l : List Int} (h : ∀ x ∈ l, bit x) (i : Nat) : bit (l.getD i 0) := by
  by_cases hi : i < l.length
  · rw [List.getD_eq_getElem?_getD, List.getElem?_eq_getElem hi]; exact h _ (List.getElem_mem hi)
  · rw [List.getD_eq_getElem?_getD, List.getElem?_eq_none (by omega)]; exact .inl rfl
theorem turned_bit {l : List Int} (h : ∀ x ∈ l, bit x) (at_ : List Int) : ∀ x ∈ turned l at_, bit x := by
  intro x hx
  simp only [turned, List.mem_map] at hx
  obtain ⟨i, _, rfl⟩ := hx
  exact tv_bit _ _ _ (getD_bit h i)
theorem turn_l1 (l at_ : List Int) (ha : at_.length ≤ 1000) (hl : l.length ≤ 1000) (i : Nat) (hi : i < l.length) (acc : List Int) (hacc : acc.length ≤ 1000) (d : Nat) : ∀ (k j : Nat) (x : Int), j + d = at_.length →
    shuttleref01_Turn.l1 (k + d + 1) l at_ acc (i : Int) x (j : Int) = shuttleref01_Turn.l0 k l at_ (acc ++ [(at_.drop j).foldl (fun c a => if a = (i : Int) then Go.bits .xor .u8 c 1 else c) x]) ((i + 1 : Nat) : Int) := by
  induction d with
  | zero =>
    intro k j x hj
    simp only [shuttleref01_Turn.l1]
    rw [if_neg (by omega), if_pos (by omega), List.drop_eq_nil_of_le (by omega), wrap_succ i (by omega)]; rfl
  | succ d ih =>
    intro k j x hj
    have hlt : j < at_.length := by omega
    rw [show k + (d + 1) + 1 = (k + d + 1) + 1 from by omega]
    simp only [shuttleref01_Turn.l1]
    rw [if_pos (by omega), if_pos (by omega), rd_get at_ j hlt, wrap_succ j (by omega), drop_cons at_ j hlt, List.foldl_cons]
    by_cases e : at_[j] = (i : Int)
    · rw [if_pos e, if_pos e]; exact ih k (j + 1) _ (by omega)
    · rw [if_neg e, if_neg e]; exact ih k (j + 1) _ (by omega)
theorem turn_l0 (l at_ : List Int) (ha : at_.length ≤ 1000) (hl : l.length ≤ 1000) (d : Nat) : ∀ (k i : Nat), i + d = l.length → (at_.length + 2) * d < k →
    shuttleref01_Turn.l0 k l at_ ((turned l at_).take i) (i : Int) = some (turned l at_) := by
  induction d with
  | zero =>
    intro k i hi hk
    obtain ⟨k, rfl⟩ := pred (show 0 < k by omega)
    simp only [shuttleref01_Turn.l0]
    rw [if_neg (by omega), List.take_of_length_le (by rw [turned_length]; omega)]
  | succ d ih =>
    intro k i hi hk
    rw [Nat.mul_succ] at hk
    obtain ⟨k, rfl⟩ : ∃ m, k = (m + at_.length + 1) + 1 := ⟨k - at_.length - 2, by omega⟩
    have hlt : i < l.length := by omega
    have hT : i < (turned l at_).length := by rw [turned_length]; exact hlt
    simp only [shuttleref01_Turn.l0]
    rw [if_pos (by omega), if_pos (by omega), rd_getD]
    have e := turn_l1 l at_ ha hl i hlt ((turned l at_).take i) (by rw [List.length_take, turned_length]; omega) at_.length k 0 (l.getD i 0) (by omega)
    rw [show ((0 : Nat) : Int) = 0 from rfl] at e
    rw [e, List.drop_zero, show at_.foldl (fun c a => if a = (i : Int) then Go.bits .xor .u8 c 1 else c) (l.getD i 0) = (turned l at_)[i] from by simp [turned, tv], ← take_snoc _ i hT]
    exact ih k (i + 1) (by omega) (by omega)
theorem turn_f (l at_ : List Int) (ha : at_.length ≤ 1000) (hl : l.length ≤ 1000) (k : Nat) (hk : (at_.length + 2) * l.length < k) : shuttleref01_Turn.f k l at_ = some (turned l at_) :=
  turn_l0 l at_ ha hl l.length k 0 (by omega) hk
theorem turned_get (l at_ : List Int) (i : Nat) (h : i < (turned l at_).length) : (turned l at_)[i] = tv at_ (i : Int) (l.getD i 0) := by simp [turned]
theorem turned_nil (l : List Int) : turned l [] = l := by
  apply List.ext_getElem
  · rw [turned_length]
  · intro i h1 h2
    rw [turned_get, List.getD_eq_getElem?_getD, List.getElem?_eq_getElem h2]; rfl
theorem turned_out (l r : List Int) (a : Int) (h : a < 0 ∨ (l.length : Int) ≤ a) : turned l (a :: r) = turned l r := by
  apply List.ext_getElem
  · rw [turned_length, turned_length]
  · intro i h1 h2
    rw [turned_get, turned_get]
    have hi : i < l.length := by rw [turned_length] at h1; exact h1
    show tv r (i : Int) (if a = (i : Int) then _ else _) = _
    rw [if_neg (by omega)]
theorem turned_in (l r : List Int) (n : Nat) (h : n < l.length) : turned l ((n : Int) :: r) = turned (l.set n (Go.bits .xor .u8 (l.getD n 0) 1)) r := by
  apply List.ext_getElem
  · rw [turned_length, turned_length, List.length_set]
  · intro i h1 h2
    rw [turned_get, turned_get]
    have hi : i < l.length := by rw [turned_length] at h1; exact h1
    show tv r (i : Int) (if (n : Int) = (i : Int) then _ else _) = _
    by_cases e : n = i
    · subst e
      rw [if_pos rfl, List.getD_eq_getElem?_getD (l := l.set n _), List.getElem?_set_self h]; rfl
    · rw [if_neg (by omega), List.getD_eq_getElem?_getD (l := l.set n _), List.getElem?_set_ne e, ← List.getD_eq_getElem?_getD]
theorem bturn_l0 (at_ : List Int) (ha : at_.length ≤ 1000) (d : Nat) : ∀ (k i : Nat) (x : List Int), x.length ≤ 1000 → i + d = at_.length → d < k →
    bits_Turn.l0 k x at_ (at_.length : Int) (i : Int) = some (turned x (at_.drop i)) := by
  induction d with
  | zero =>
    intro k i x hx hi hk
    obtain ⟨k, rfl⟩ := pred hk
    simp only [bits_Turn.l0]
    rw [if_neg (by omega), List.drop_eq_nil_of_le (by omega), turned_nil]
  | succ d ih =>
    intro k i x hx hi hk
    obtain ⟨k, rfl⟩ := pred hk
    have hlt : i < at_.length := by omega
    simp only [bits_Turn.l0]
    rw [if_pos (by omega), if_pos (by omega), if_pos (by omega), rd_get at_ i hlt, drop_cons at_ i hlt, wrap_succ i (by omega)]
    generalize at_[i] = a
    by_cases h0 : a ≥ 0
    · obtain ⟨n, rfl⟩ := Int.eq_ofNat_of_zero_le h0
      rw [if_pos h0]
      by_cases h1 : (n : Int) < (x.length : Int)
      · rw [if_pos h1, if_pos h0, ih k (i + 1) _ (by rw [List.length_set]; exact hx) (by omega) (by omega), turned_in x _ n (by omega), rd_getD, Int.toNat_natCast]
      · rw [if_neg h1, ih k (i + 1) _ hx (by omega) (by omega), turned_out x _ _ (by omega)]
    · rw [if_neg h0, ih k (i + 1) _ hx (by omega) (by omega), turned_out x _ _ (by omega)]
theorem bturn_f (l at_ : List Int) (hl : l.length ≤ 1000) (ha : at_.length ≤ 1000) (k : Nat) (hk : at_.length < k) : bits_Turn.f k l at_ = some (turned l at_) := by
  unfold bits_Turn.f slices_Clone_byte_byte.f
  rw [if_pos (by omega), Option.bind_some]
  have := bturn_l0 at_ ha at_.length k 0 l hl (by omega) hk
  rwa [List.drop_zero] at this
theorem bytes_some {l : List Int} (h : ∀ x ∈ l, bit x) (hl : l.length ≤ 10000) (k : Nat) (hk : l.length < k) : bits_Bytes.f k l = some ((List.range ((l.length + 7) / 8)).map (byte l), 0) := by
  unfold bits_Bytes.f
  have hb : l.any big = false := by
    rw [List.any_eq_false]; intro x hx
    have := h x hx
    unfold bit at this; unfold big; simp; omega
  rw [right_f l (by omega) k hk, hb, Option.bind_some, if_pos (by decide), if_pos (by omega)]
end Go.Proofs.Ytfplmoeahbjfmaa.P

-- YtfplmoeahbjfmaaP43
namespace Go.Proofs.Ytfplmoeahbjfmaa.P
open Go.RowKit Go.Proofs.YtfplmoeahbjfmaaW.PrintWords Go.Proofs.YtfplmoeahbjfmaaW.PrintLast Go.Proofs.YtfplmoeahbjfmaaW.PrintMore
attribute [local go_sem] max2_int min2_int max_two min_two max_three min_three max_four min_four   -- for this text's walks alone
set_option linter.unusedVariables false
set_option linter.unusedSimpArgs false

/-! ### bits_Of: function 47 -/
mutual
def bits_Of.l0 : Nat → List Int → List Int → Int → Int → Option (List Int)
  | 0, _, _, _, _ => none
  | k + 1, x3, x7, x8, x9 => if x9 < x8 then (if 0 ≤ x9 then (if x9 < (x7.length : Int) then (bits_Of.l1 k x3 (rd x7 x9) x7 x8 x9 0) else (none)) else (none)) else (some x3)
def bits_Of.l1 : Nat → List Int → Int → List Int → Int → Int → Int → Option (List Int)
  | 0, _, _, _, _, _, _ => none
  | k + 1, x3, x5, x7, x8, x9, x13 => if x13 < 8 then (if 0 ≤ (wrap64 (7 - x13)) then (if x3.length < 140737488355328 then (bits_Of.l1 k (x3 ++ [Go.bits .and .u8 (shr .u8 x5 (wrap64 (7 - x13))) 1]) x5 x7 x8 x9 (wrap64 (x13 + 1))) else (none)) else (none)) else (bits_Of.l0 k x3 x7 x8 (wrap64 (x9 + 1)))
end
def bits_Of.f (k : Nat) (l0 : List Int) : Option (List Int) := bits_Of.l0 k ([] : List Int) l0 (l0.length : Int) 0
theorem bits_Of.mono_l : ∀ k, (∀ y0 y1 y2 y3, LeO (bits_Of.l0 k y0 y1 y2 y3) (bits_Of.l0 (k + 1) y0 y1 y2 y3)) ∧ (∀ y0 y1 y2 y3 y4 y5, LeO (bits_Of.l1 k y0 y1 y2 y3 y4 y5) (bits_Of.l1 (k + 1) y0 y1 y2 y3 y4 y5))
  | 0 => ⟨fun _ _ _ _ r h => by simp [bits_Of.l0] at h, fun _ _ _ _ _ _ r h => by simp [bits_Of.l1] at h⟩
  | k + 1 => by
    obtain ⟨ih0, ih1⟩ := bits_Of.mono_l k
    refine ⟨?_, ?_⟩
    · intro y0 y1 y2 y3
      unfold bits_Of.l0
      repeat' first
      | (with_reducible exact ih0 _ _ _ _)
      | (with_reducible exact ih1 _ _ _ _ _ _)
      | (with_reducible exact LeO.refl _)
      | (with_reducible exact LeO.none _)
      | (with_reducible refine LeO.ite ?_ ?_)
      | (with_reducible refine LeO.bind ?_ (fun _ => ?_))
      | exact ih0 _ _ _ _
      | exact ih1 _ _ _ _ _ _
      | exact LeO.none _
      | refine LeO.ite ?_ ?_
      | refine LeO.bind ?_ (fun _ => ?_)
    · intro y0 y1 y2 y3 y4 y5
      unfold bits_Of.l1
      repeat' first
      | (with_reducible exact ih0 _ _ _ _)
      | (with_reducible exact ih1 _ _ _ _ _ _)
      | (with_reducible exact LeO.refl _)
      | (with_reducible exact LeO.none _)
      | (with_reducible refine LeO.ite ?_ ?_)
      | (with_reducible refine LeO.bind ?_ (fun _ => ?_))
      | exact ih0 _ _ _ _
      | exact ih1 _ _ _ _ _ _
      | exact LeO.none _
      | refine LeO.ite ?_ ?_
      | refine LeO.bind ?_ (fun _ => ?_)
theorem bits_Of.mono : ∀ a0 k, LeO (bits_Of.f k a0) (bits_Of.f (k + 1) a0) := by
  intro a0 k
  obtain ⟨ih0, ih1⟩ := bits_Of.mono_l k
  unfold bits_Of.f
  repeat' first
      | (with_reducible exact ih0 _ _ _ _)
      | (with_reducible exact ih1 _ _ _ _ _ _)
      | (with_reducible exact LeO.refl _)
      | (with_reducible exact LeO.none _)
      | (with_reducible refine LeO.ite ?_ ?_)
      | (with_reducible refine LeO.bind ?_ (fun _ => ?_))
      | exact ih0 _ _ _ _
      | exact ih1 _ _ _ _ _ _
      | exact LeO.none _
      | refine LeO.ite ?_ ?_
      | refine LeO.bind ?_ (fun _ => ?_)
set_option maxHeartbeats 8000000 in
set_option maxRecDepth 100000 in
theorem bits_Of.calls (k : Nat) (A0 : Option Addr) (c0 : Nat) (l0 : List Int) (r : List Int) (w : World) (hr0 : Kd.C (Kd.int .u8) w A0 l0.length l0) (hc0 : l0.length ≤ c0) (h : bits_Of.f k l0 = some r) :
    Calls Try.prog 47 #[.slice A0 l0.length c0] w fun e w' => ∃ v0_ : Value, e = .returned (v0_) ∧ Kd.R (Kd.int .u8) 5 w' w.heap.size (fun _ => True) v0_ r ∧ Below w.heap.size w w' := by
  have HR0 := Aside0.mk hr0
  have HC0 := Aside0.mk hc0
  clear hr0 hc0
  have HB := Aside0.mk (Below.refl w.heap.size w)
  have H : (bits_Of.l0 k ([] : List Int) l0 (l0.length : Int) 0) = some r := h
  clear h
  have H' := Aside0.mk H
  clear H
  go_enter Try.func47, Try.ntmps47
  go_wp2
  go_loopg [3, 9] k (fun kq v3 v9 w' => ∃ (x3_1 : List Int) (x9_1 : Int), v9 = .int .i64 x9_1 ∧ Aside0 (bits_Of.l0 kq x3_1 l0 (l0.length : Int) x9_1 = some r) ∧ Aside0 (kq ≤ k) ∧ Aside0 (Kd.R (Kd.int .u8) 5 w' w.heap.size (fun _ => True) v3 x3_1) ∧ Aside0 (Below w.heap.size w w'))
  case atStart => exact ⟨(([] : List Int)), (0), (by first | rfl | (simp; done) | (simp [*]; done)), H', ⟨Nat.le_refl _⟩, ⟨by first | exact Kd.R_nil _ _ _ _ _ | exact Kd.N_nil _ _ _ _ _ | exact Kd.V_nil _ _ _ _ _ | exact Kd.Q_nil _ _ _ _ _ | exact Kd.S_nil _ _ _ _ _⟩, ⟨by repeat (first | (with_reducible first | exact HB.out | apply below_alloc | apply pw_below_drewN | apply below_drew1) | exact HB.out)⟩⟩
  case round =>
    clear H'
    obtain ⟨x3_1, x9_1, rfl, HA, HK1, HO_3, HB⟩ := hrel
    cases gk with
    | zero => exact absurd HA.out (by simp [bits_Of.l0])
    | succ k1 =>
      have H := HA.out
      clear HA
      simp only [bits_Of.l0] at H
      by_cases c2 : x9_1 < (l0.length : Int)
      · rw [if_pos c2] at H
        have c2b0 : decide (x9_1 < (l0.length : Int)) = true := decide_eq_true c2
        clear c2
        by_cases c3 : 0 ≤ x9_1
        · rw [if_pos c3] at H
          have c3b0 : decide (0 ≤ x9_1) = true := decide_eq_true c3
          clear c3
          by_cases c4 : x9_1 < (l0.length : Int)
          · rw [if_pos c4] at H
            have c4b0 : decide (x9_1 < (l0.length : Int)) = true := decide_eq_true c4
            clear c4
            have H' := Aside0.mk H
            clear H
            have p221 : 0 ≤ (x9_1 : Int) := of_decide_eq_true (by first | (with_reducible assumption) | assumption)
            have q221 : x9_1 < (l0.length : Int) := of_decide_eq_true (by first | (with_reducible assumption) | assumption)
            obtain ⟨ad221, e221, hx221_0⟩ := Kd.at_int HR0.out x9_1 p221 q221
            cases e221
            replace hx221_0 := (HB.out.cell (World.block_lt_of_cell? w _ hx221_0)).trans hx221_0
            replace p221 := eq_true p221
            replace q221 := eq_true q221
            go_wp2
            go_loopg [3, 13] k1 (fun kq v3 v13 w' => ∃ (x3_2 : List Int) (x13_2 : Int), v13 = .int .i64 x13_2 ∧ Aside0 (bits_Of.l1 kq x3_2 (rd l0 x9_1) l0 (l0.length : Int) x9_1 x13_2 = some r) ∧ Aside0 (kq ≤ k1) ∧ Aside0 (Kd.R (Kd.int .u8) 5 w' w.heap.size (fun _ => True) v3 x3_2) ∧ Aside0 (Below w.heap.size w w'))
            case atStart => exact ⟨(x3_1), (0), (by first | rfl | (simp; done) | (simp [*]; done)), H', ⟨Nat.le_refl _⟩, ⟨by (with_reducible repeat (first | apply Kd.R_alloc | apply Kd.R_drewN | apply Kd.R_drew)); exact HO_3.out⟩, ⟨by repeat (first | (with_reducible first | exact HB.out | apply below_alloc | apply pw_below_drewN | apply below_drew1) | exact HB.out)⟩⟩
            case round =>
              clear H'
              try clear c2
              try clear c2b0
              try clear p2
              try clear q2
              try clear hx2
              try clear c3
              try clear c3b0
              try clear c4
              try clear c4b0
              try clear hx221_0
              try clear p221
              try clear q221
              obtain ⟨x3_2, x13_2, rfl, HA, HK2, HO_3, HB⟩ := hrel
              cases gk with
              | zero => exact absurd HA.out (by simp [bits_Of.l1])
              | succ k2 =>
                have H := HA.out
                clear HA
                simp only [bits_Of.l1] at H
                by_cases c5 : x13_2 < 8
                · rw [if_pos c5] at H
                  have c5b0 : decide (x13_2 < 8) = true := decide_eq_true c5
                  clear c5
                  obtain ⟨ji6, hji6⟩ : ∃ j_ : Int, (wrap64 (7 - x13_2)) = j_ := ⟨_, rfl⟩
                  replace H : (if 0 ≤ (ji6) then (if x3_2.length < 140737488355328 then (bits_Of.l1 k2 (x3_2 ++ [Go.bits .and .u8 (shr .u8 (rd l0 x9_1) (ji6)) 1]) (rd l0 x9_1) l0 (l0.length : Int) x9_1 (wrap64 (x13_2 + 1))) else (none)) else (none)) = some r := by first | (rw [hji6] at H; exact H) | (simp only [hji6] at H ⊢; exact H)
                  have hji6w : (IntKind.i64.wrap (7 - x13_2)) = ji6 := (i64_w _).trans hji6
                  by_cases c7 : 0 ≤ (ji6)
                  · rw [if_pos c7] at H
                    have c7b0 := eq_true c7
                    have c7b1 : decide (0 ≤ (ji6)) = true := decide_eq_true c7
                    clear c7
                    obtain ⟨ji8, hji8⟩ : ∃ j_ : Int, (shr .u8 (rd l0 x9_1) (ji6)) = j_ := ⟨_, rfl⟩
                    replace H : (if x3_2.length < 140737488355328 then (bits_Of.l1 k2 (x3_2 ++ [Go.bits .and .u8 (ji8) 1]) (rd l0 x9_1) l0 (l0.length : Int) x9_1 (wrap64 (x13_2 + 1))) else (none)) = some r := by first | (rw [hji8] at H; exact H) | (simp only [hji8] at H ⊢; exact H)
                    have hji8_ : ((rd l0 x9_1) / 2 ^ min (ji6).toNat 8) = ji8 := hji8
                    have hji8z : (ji6) ≤ 8 → ((rd l0 x9_1) / 2 ^ (ji6).toNat) = ji8 := shr_small hji8
                    by_cases c9 : x3_2.length < 140737488355328
                    · rw [if_pos c9] at H
                      have LMc9 := Aside0.mk c9
                      clear c9
                      obtain ⟨y222, hy222⟩ : ∃ y_ : List Int, y_ = (x3_2 ++ [Go.bits .and .u8 (ji8) 1]) := ⟨_, rfl⟩
                      replace H : (bits_Of.l1 k2 y222 (rd l0 x9_1) l0 (l0.length : Int) x9_1 (wrap64 (x13_2 + 1))) = some r := by first | (rw [hy222]; with_reducible exact H) | (have H2_ := (Option.bind_some _ _).symm.trans H; rw [hy222]; with_reducible exact H2_) | (have H2_ := (Option.bind_some _ _).symm.trans H; with_reducible exact H2_) | with_reducible exact H | (rw [hy222]; exact H) | exact H
                      have Ny222 := Aside0.mk hy222
                      clear hy222
                      have H' := Aside0.mk H
                      clear H
                      go_wp2_with (first | ((with_reducible refine gate_builtin (b := .append) (xs := #[.tmp 16, .tmp 22]) rfl ?_); at_builtin; refine Kd.R_append (Kd.int .u8) (w0 := w) w.heap.size rfl (.tmp 16) (.tmp 22) 31 5 (.int .u8 0) 1 rfl Try.underlying31 info5 rfl (by decide) (by omega) u3 x3_2 (Go.bits .and .u8 (ji8) 1) [.int .u8 (Go.bits .and .u8 (ji8) 1)] (fun _ => True) (fun _ => False) rfl rfl ?aP (fun _ hk => hk.elim) ?aF ?aO ?aB ?aS ?aL ?_; (case aP => exact rfl); (case aB => exact (by repeat (first | (with_reducible first | exact HB.out | apply below_alloc | apply pw_below_drewN | apply below_drew1) | exact HB.out))); (case aF => exact (fun _ _ => trivial)); (case aO => exact (by (with_reducible repeat (first | apply Kd.R_alloc | apply Kd.R_drewN | apply Kd.R_drew)); exact HO_3.out)); (case aS => exact (below_size (by repeat (first | (with_reducible first | exact HB.out | apply below_alloc | apply pw_below_drewN | apply below_drew1) | exact HB.out)))); (case aL => have := LMc9.out; omega); intro v223 w10 ho hb hg hat; rw [← Ny222.out] at ho; have n0_ := Aside0.mk (hb); have n1_ := Aside0.mk (ho); clear HB; clear HO_3; have HB := n0_; have HO224 := n1_; clear n0_ n1_; clear ho hb hg hat))
                      go_roundg k2
                      case measure => have := HK1.out; have := HK2.out; omega
                      case rel => exact ⟨(y222), (wrap64 (x13_2 + 1)), (by first | rfl | (simp; done) | (simp [*]; done)), H', ⟨by have := HK1.out; have := HK2.out; omega⟩, ⟨by (with_reducible repeat (first | apply Kd.R_alloc | apply Kd.R_drewN | apply Kd.R_drew)); exact HO224.out⟩, ⟨by repeat (first | (with_reducible first | exact HB.out | apply below_alloc | apply pw_below_drewN | apply below_drew1) | exact HB.out)⟩⟩
                    · rw [if_neg c9] at H
                      exact absurd H (by simp)
                  · rw [if_neg c7] at H
                    exact absurd H (by simp)
                · rw [if_neg c5] at H
                  have c5b0 : decide (x13_2 < 8) = false := decide_eq_false c5
                  clear c5
                  have H' := Aside0.mk H
                  clear H
                  go_wp2
                  go_roundg k2
                  case measure => have := HK1.out; have := HK2.out; omega
                  case rel => exact ⟨(x3_2), (wrap64 (x9_1 + 1)), (by first | rfl | (simp; done) | (simp [*]; done)), H', ⟨by have := HK1.out; have := HK2.out; omega⟩, ⟨by (with_reducible repeat (first | apply Kd.R_alloc | apply Kd.R_drewN | apply Kd.R_drew)); exact HO_3.out⟩, ⟨by repeat (first | (with_reducible first | exact HB.out | apply below_alloc | apply pw_below_drewN | apply below_drew1) | exact HB.out)⟩⟩
          · rw [if_neg c4] at H
            exact absurd H (by simp)
        · rw [if_neg c3] at H
          exact absurd H (by simp)
      · rw [if_neg c2] at H
        have c2b0 : decide (x9_1 < (l0.length : Int)) = false := decide_eq_false c2
        clear c2
        obtain rfl := Option.some.inj H
        go_wp2
        go_ret
        exact ⟨_, by first | rfl | (simp [errW_none, errW_some] <;> rfl) | (simp [*, errW_none, errW_some] <;> rfl), by (with_reducible repeat (first | apply Kd.R_alloc | apply Kd.R_drewN | apply Kd.R_drew)); exact HO_3.out, by repeat (first | (with_reducible first | exact HB.out | apply below_alloc | apply pw_below_drewN | apply below_drew1) | exact HB.out)⟩

end Go.Proofs.Ytfplmoeahbjfmaa.P

-- YtfplmoeahbjfmaaP53
namespace Go.Proofs.Ytfplmoeahbjfmaa.P
open Go.RowKit Go.Proofs.YtfplmoeahbjfmaaW.PrintWords Go.Proofs.YtfplmoeahbjfmaaW.PrintLast Go.Proofs.YtfplmoeahbjfmaaW.PrintMore
attribute [local go_sem] max2_int min2_int max_two min_two max_three min_three max_four min_four   -- for this text's walks alone
set_option linter.unusedVariables false
set_option linter.unusedSimpArgs false

/-! ### shuttleref01_Of: function 51 -/
mutual
def shuttleref01_Of.l0 : Nat → List Int → List Int → Int → Option (List Int)
  | 0, _, _, _ => none
  | k + 1, x0, x3, x4 => if x4 < (x0.length : Int) then (if 0 ≤ x4 then (shuttleref01_Of.l1 k x0 x3 x4 (wrap64 (rd x0 x4)) 128) else (none)) else (some x3)
def shuttleref01_Of.l1 : Nat → List Int → List Int → Int → Int → Int → Option (List Int)
  | 0, _, _, _, _, _ => none
  | k + 1, x0, x3, x4, x5, x6 => if x6 > 0 then (if x6 = 0 then (none) else (if x3.length < 140737488355328 then (shuttleref01_Of.l1 k x0 (x3 ++ [(Int.tmod (wrap64 (Int.tdiv x5 x6)) 2) % 256]) x4 x5 (wrap64 (Int.tdiv x6 2))) else (none))) else (shuttleref01_Of.l0 k x0 x3 (wrap64 (x4 + 1)))
end
def shuttleref01_Of.f (k : Nat) (l0 : List Int) : Option (List Int) := shuttleref01_Of.l0 k l0 ([] : List Int) 0
theorem shuttleref01_Of.mono_l : ∀ k, (∀ y0 y1 y2, LeO (shuttleref01_Of.l0 k y0 y1 y2) (shuttleref01_Of.l0 (k + 1) y0 y1 y2)) ∧ (∀ y0 y1 y2 y3 y4, LeO (shuttleref01_Of.l1 k y0 y1 y2 y3 y4) (shuttleref01_Of.l1 (k + 1) y0 y1 y2 y3 y4))
  | 0 => ⟨fun _ _ _ r h => by simp [shuttleref01_Of.l0] at h, fun _ _ _ _ _ r h => by simp [shuttleref01_Of.l1] at h⟩
  | k + 1 => by
    obtain ⟨ih0, ih1⟩ := shuttleref01_Of.mono_l k
    refine ⟨?_, ?_⟩
    · intro y0 y1 y2
      unfold shuttleref01_Of.l0
      repeat' first
      | (with_reducible exact ih0 _ _ _)
      | (with_reducible exact ih1 _ _ _ _ _)
      | (with_reducible exact LeO.refl _)
      | (with_reducible exact LeO.none _)
      | (with_reducible refine LeO.ite ?_ ?_)
      | (with_reducible refine LeO.bind ?_ (fun _ => ?_))
      | exact ih0 _ _ _
      | exact ih1 _ _ _ _ _
      | exact LeO.none _
      | refine LeO.ite ?_ ?_
      | refine LeO.bind ?_ (fun _ => ?_)
    · intro y0 y1 y2 y3 y4
      unfold shuttleref01_Of.l1
      repeat' first
      | (with_reducible exact ih0 _ _ _)
      | (with_reducible exact ih1 _ _ _ _ _)
      | (with_reducible exact LeO.refl _)
      | (with_reducible exact LeO.none _)
      | (with_reducible refine LeO.ite ?_ ?_)
      | (with_reducible refine LeO.bind ?_ (fun _ => ?_))
      | exact ih0 _ _ _
      | exact ih1 _ _ _ _ _
      | exact LeO.none _
      | refine LeO.ite ?_ ?_
      | refine LeO.bind ?_ (fun _ => ?_)
theorem shuttleref01_Of.mono : ∀ a0 k, LeO (shuttleref01_Of.f k a0) (shuttleref01_Of.f (k + 1) a0) := by
  intro a0 k
  obtain ⟨ih0, ih1⟩ := shuttleref01_Of.mono_l k
  unfold shuttleref01_Of.f
  repeat' first
      | (with_reducible exact ih0 _ _ _)
      | (with_reducible exact ih1 _ _ _ _ _)
      | (with_reducible exact LeO.refl _)
      | (with_reducible exact LeO.none _)
      | (with_reducible refine LeO.ite ?_ ?_)
      | (with_reducible refine LeO.bind ?_ (fun _ => ?_))
      | exact ih0 _ _ _
      | exact ih1 _ _ _ _ _
      | exact LeO.none _
      | refine LeO.ite ?_ ?_
      | refine LeO.bind ?_ (fun _ => ?_)
set_option maxHeartbeats 8000000 in
set_option maxRecDepth 100000 in
theorem shuttleref01_Of.calls (k : Nat) (A0 : Option Addr) (c0 : Nat) (l0 : List Int) (r : List Int) (w : World) (hr0 : Kd.C (Kd.int .u8) w A0 l0.length l0) (hc0 : l0.length ≤ c0) (h : shuttleref01_Of.f k l0 = some r) :
    Calls Try.prog 51 #[.slice A0 l0.length c0] w fun e w' => ∃ v0_ : Value, e = .returned (v0_) ∧ Kd.R (Kd.int .u8) 5 w' w.heap.size (fun _ => True) v0_ r ∧ Below w.heap.size w w' := by
  have HR0 := Aside0.mk hr0
  have HC0 := Aside0.mk hc0
  clear hr0 hc0
  have HB := Aside0.mk (Below.refl w.heap.size w)
  have H : (shuttleref01_Of.l0 k l0 ([] : List Int) 0) = some r := h
  clear h
  have H' := Aside0.mk H
  clear H
  go_enter Try.func51, Try.ntmps51
  go_wp2
  go_loopg [3, 4] k (fun kq v3 v4 w' => ∃ (x3_1 : List Int) (x4_1 : Int), v4 = .int .i64 x4_1 ∧ Aside0 (shuttleref01_Of.l0 kq l0 x3_1 x4_1 = some r) ∧ Aside0 (kq ≤ k) ∧ Aside0 (Kd.R (Kd.int .u8) 5 w' w.heap.size (fun _ => True) v3 x3_1) ∧ Aside0 (Below w.heap.size w w'))
  case atStart => exact ⟨(([] : List Int)), (0), (by first | rfl | (simp; done) | (simp [*]; done)), H', ⟨Nat.le_refl _⟩, ⟨by first | exact Kd.R_nil _ _ _ _ _ | exact Kd.N_nil _ _ _ _ _ | exact Kd.V_nil _ _ _ _ _ | exact Kd.Q_nil _ _ _ _ _ | exact Kd.S_nil _ _ _ _ _⟩, ⟨by repeat (first | (with_reducible first | exact HB.out | apply below_alloc | apply pw_below_drewN | apply below_drew1) | exact HB.out)⟩⟩
  case round =>
    clear H'
    obtain ⟨x3_1, x4_1, rfl, HA, HK1, HO_3, HB⟩ := hrel
    cases gk with
    | zero => exact absurd HA.out (by simp [shuttleref01_Of.l0])
    | succ k1 =>
      have H := HA.out
      clear HA
      simp only [shuttleref01_Of.l0] at H
      by_cases c2 : x4_1 < (l0.length : Int)
      · rw [if_pos c2] at H
        have c2b0 : decide (x4_1 < (l0.length : Int)) = true := decide_eq_true c2
        clear c2
        by_cases c3 : 0 ≤ x4_1
        · rw [if_pos c3] at H
          have c3b0 : decide (0 ≤ x4_1) = true := decide_eq_true c3
          clear c3
          have H' := Aside0.mk H
          clear H
          have p268 : 0 ≤ (x4_1 : Int) := of_decide_eq_true (by first | (with_reducible assumption) | assumption)
          have q268 : x4_1 < (l0.length : Int) := of_decide_eq_true (by first | (with_reducible assumption) | assumption)
          obtain ⟨ad268, e268, hx268_0⟩ := Kd.at_int HR0.out x4_1 p268 q268
          cases e268
          replace hx268_0 := (HB.out.cell (World.block_lt_of_cell? w _ hx268_0)).trans hx268_0
          replace p268 := eq_true p268
          replace q268 := eq_true q268
          go_wp2
          go_loopg [3, 6] k1 (fun kq v3 v6 w' => ∃ (x3_2 : List Int) (x6_2 : Int), v6 = .int .i64 x6_2 ∧ Aside0 (shuttleref01_Of.l1 kq l0 x3_2 x4_1 (wrap64 (rd l0 x4_1)) x6_2 = some r) ∧ Aside0 (kq ≤ k1) ∧ Aside0 (Kd.R (Kd.int .u8) 5 w' w.heap.size (fun _ => True) v3 x3_2) ∧ Aside0 (Below w.heap.size w w'))
          case atStart => exact ⟨(x3_1), (128), (by first | rfl | (simp; done) | (simp [*]; done)), H', ⟨Nat.le_refl _⟩, ⟨by (with_reducible repeat (first | apply Kd.R_alloc | apply Kd.R_drewN | apply Kd.R_drew)); exact HO_3.out⟩, ⟨by repeat (first | (with_reducible first | exact HB.out | apply below_alloc | apply pw_below_drewN | apply below_drew1) | exact HB.out)⟩⟩
          case round =>
            clear H'
            try clear c2
            try clear c2b0
            try clear p2
            try clear q2
            try clear hx2
            try clear c3
            try clear c3b0
            try clear hx268_0
            try clear p268
            try clear q268
            obtain ⟨x3_2, x6_2, rfl, HA, HK2, HO_3, HB⟩ := hrel
            cases gk with
            | zero => exact absurd HA.out (by simp [shuttleref01_Of.l1])
            | succ k2 =>
              have H := HA.out
              clear HA
              simp only [shuttleref01_Of.l1] at H
              by_cases c4 : x6_2 > 0
              · rw [if_pos c4] at H
                have c4b0 : decide (0 < x6_2) = true := decide_eq_true c4
                clear c4
                by_cases c5 : x6_2 = 0
                · rw [if_pos c5] at H
                  exact absurd H (by simp)
                · rw [if_neg c5] at H
                  have c5b0 : (x6_2 == 0) = false := beq_eq_false_iff_ne.mpr c5
                  have c5b1 : (x6_2 != 0) = true := bne_iff_ne.mpr c5
                  by_cases c6 : x3_2.length < 140737488355328
                  · rw [if_pos c6] at H
                    have LMc6 := Aside0.mk c6
                    clear c6
                    obtain ⟨y269, hy269⟩ : ∃ y_ : List Int, y_ = (x3_2 ++ [(Int.tmod (wrap64 (Int.tdiv (wrap64 (rd l0 x4_1)) x6_2)) 2) % 256]) := ⟨_, rfl⟩
                    replace H : (shuttleref01_Of.l1 k2 l0 y269 x4_1 (wrap64 (rd l0 x4_1)) (wrap64 (Int.tdiv x6_2 2))) = some r := by first | (rw [hy269]; with_reducible exact H) | (have H2_ := (Option.bind_some _ _).symm.trans H; rw [hy269]; with_reducible exact H2_) | (have H2_ := (Option.bind_some _ _).symm.trans H; with_reducible exact H2_) | with_reducible exact H | (rw [hy269]; exact H) | exact H
                    have Ny269 := Aside0.mk hy269
                    clear hy269
                    have H' := Aside0.mk H
                    clear H
                    go_wp2_with (first | ((with_reducible refine gate_builtin (b := .append) (xs := #[.tmp 22, .tmp 28]) rfl ?_); at_builtin; refine Kd.R_append (Kd.int .u8) (w0 := w) w.heap.size rfl (.tmp 22) (.tmp 28) 31 5 (.int .u8 0) 1 rfl Try.underlying31 info5 rfl (by decide) (by omega) u3 x3_2 ((Int.tmod (wrap64 (Int.tdiv (wrap64 (rd l0 x4_1)) x6_2)) 2) % 256) [.int .u8 ((Int.tmod (wrap64 (Int.tdiv (wrap64 (rd l0 x4_1)) x6_2)) 2) % 256)] (fun _ => True) (fun _ => False) rfl rfl ?aP (fun _ hk => hk.elim) ?aF ?aO ?aB ?aS ?aL ?_; (case aP => exact rfl); (case aB => exact (by repeat (first | (with_reducible first | exact HB.out | apply below_alloc | apply pw_below_drewN | apply below_drew1) | exact HB.out))); (case aF => exact (fun _ _ => trivial)); (case aO => exact (by (with_reducible repeat (first | apply Kd.R_alloc | apply Kd.R_drewN | apply Kd.R_drew)); exact HO_3.out)); (case aS => exact (below_size (by repeat (first | (with_reducible first | exact HB.out | apply below_alloc | apply pw_below_drewN | apply below_drew1) | exact HB.out)))); (case aL => have := LMc6.out; omega); intro v270 w7 ho hb hg hat; rw [← Ny269.out] at ho; have n0_ := Aside0.mk (hb); have n1_ := Aside0.mk (ho); clear HB; clear HO_3; have HB := n0_; have HO271 := n1_; clear n0_ n1_; clear ho hb hg hat))
                    go_roundg k2
                    case measure => have := HK1.out; have := HK2.out; omega
                    case rel => exact ⟨(y269), (wrap64 (Int.tdiv x6_2 2)), (by first | rfl | (simp; done) | (simp [*]; done)), H', ⟨by have := HK1.out; have := HK2.out; omega⟩, ⟨by (with_reducible repeat (first | apply Kd.R_alloc | apply Kd.R_drewN | apply Kd.R_drew)); exact HO271.out⟩, ⟨by repeat (first | (with_reducible first | exact HB.out | apply below_alloc | apply pw_below_drewN | apply below_drew1) | exact HB.out)⟩⟩
                  · rw [if_neg c6] at H
                    exact absurd H (by simp)
              · rw [if_neg c4] at H
                have c4b0 : decide (0 < x6_2) = false := decide_eq_false c4
                clear c4
                have H' := Aside0.mk H
                clear H
                go_wp2
                go_roundg k2
                case measure => have := HK1.out; have := HK2.out; omega
                case rel => exact ⟨(x3_2), (wrap64 (x4_1 + 1)), (by first | rfl | (simp; done) | (simp [*]; done)), H', ⟨by have := HK1.out; have := HK2.out; omega⟩, ⟨by (with_reducible repeat (first | apply Kd.R_alloc | apply Kd.R_drewN | apply Kd.R_drew)); exact HO_3.out⟩, ⟨by repeat (first | (with_reducible first | exact HB.out | apply below_alloc | apply pw_below_drewN | apply below_drew1) | exact HB.out)⟩⟩
        · rw [if_neg c3] at H
          exact absurd H (by simp)
      · rw [if_neg c2] at H
        have c2b0 : decide (x4_1 < (l0.length : Int)) = false := decide_eq_false c2
        clear c2
        obtain rfl := Option.some.inj H
        go_wp2
        go_ret
        exact ⟨_, by first | rfl | (simp [errW_none, errW_some] <;> rfl) | (simp [*, errW_none, errW_some] <;> rfl), by (with_reducible repeat (first | apply Kd.R_alloc | apply Kd.R_drewN | apply Kd.R_drew)); exact HO_3.out, by repeat (first | (with_reducible first | exact HB.out | apply below_alloc | apply pw_below_drewN | apply below_drew1) | exact HB.out)⟩

end Go.Proofs.Ytfplmoeahbjfmaa.P

-- YtfplmoeahbjfmaaPCOf
namespace Go.Proofs.Ytfplmoeahbjfmaa.P
open Go.RowKit Go.Proofs.YtfplmoeahbjfmaaW.PrintWords Go.Proofs.YtfplmoeahbjfmaaW.PrintLast Go.Proofs.YtfplmoeahbjfmaaW.PrintMore
set_option linter.unusedVariables false

def bits8 (x : Int) : List Int := [x / 128 % 2, x / 64 % 2, x / 32 % 2, x / 16 % 2, x / 8 % 2, x / 4 % 2, x / 2 % 2, x / 1 % 2]
def ofl (l : List Int) : List Int := l.flatMap bits8
theorem ofl_cons (x : Int) (l : List Int) : ofl (x :: l) = bits8 x ++ ofl l := by simp [ofl]
theorem ofl_snoc (l : List Int) (x : Int) : ofl (l ++ [x]) = ofl l ++ bits8 x := by simp [ofl]
theorem ofl_length (l : List Int) : (ofl l).length = 8 * l.length := by
  induction l with
  | nil => rfl
  | cons x l ih => rw [ofl_cons, List.length_append, ih, List.length_cons]; show 8 + _ = _; omega
theorem ofl_bit (l : List Int) : ∀ x ∈ ofl l, 0 ≤ x ∧ x ≤ 1 := by
  intro x hx
  simp only [ofl, List.mem_flatMap] at hx
  obtain ⟨y, _, hy⟩ := hx
  simp only [bits8, List.mem_cons, List.not_mem_nil, or_false] at hy
  rcases hy with rfl | rfl | rfl | rfl | rfl | rfl | rfl | rfl <;> omega
def bv (x : Int) (s : Int) : Int := Go.bits .and .u8 (shr .u8 x s) 1
theorem bv_all : ∀ r : Fin 256, [bv (r.val : Int) 7, bv (r.val : Int) 6, bv (r.val : Int) 5, bv (r.val : Int) 4, bv (r.val : Int) 3, bv (r.val : Int) 2, bv (r.val : Int) 1, bv (r.val : Int) 0] = bits8 (r.val : Int) := by decide +kernel
theorem bv_eq (x : Int) (h : 0 ≤ x ∧ x ≤ 255) : [bv x 7, bv x 6, bv x 5, bv x 4, bv x 3, bv x 2, bv x 1, bv x 0] = bits8 x := by
  obtain ⟨n, rfl⟩ := Int.eq_ofNat_of_zero_le h.1
  exact bv_all ⟨n, by omega⟩
theorem bof_step (k : Nat) (acc : List Int) (x : Int) (l : List Int) (n i j s : Int) (hj : j < 8) (hs : wrap64 (7 - j) = s) (h0 : 0 ≤ s) (ha : acc.length < 140737488355328) :
    bits_Of.l1 (k + 1) acc x l n i j = bits_Of.l1 k (acc ++ [bv x s]) x l n i (wrap64 (j + 1)) := by
  rw [bits_Of.l1.eq_2, if_pos hj, hs, if_pos h0, if_pos ha]; rfl
theorem bof_l1 (k : Nat) (acc : List Int) (x : Int) (hx : 0 ≤ x ∧ x ≤ 255) (l : List Int) (n i : Int) (ha : acc.length < 100000) :
    bits_Of.l1 (k + 9) acc x l n i 0 = bits_Of.l0 k (acc ++ bits8 x) l n (wrap64 (i + 1)) := by
  rw [bof_step (k + 8) acc x l n i 0 7 (by omega) (by unfold wrap64; omega) (by omega) (by omega), show wrap64 (0 + 1) = 1 from by unfold wrap64; omega,
    bof_step (k + 7) _ x l n i 1 6 (by omega) (by unfold wrap64; omega) (by omega) (by simp; omega), show wrap64 (1 + 1) = 2 from by unfold wrap64; omega,
    bof_step (k + 6) _ x l n i 2 5 (by omega) (by unfold wrap64; omega) (by omega) (by simp; omega), show wrap64 (2 + 1) = 3 from by unfold wrap64; omega,
    bof_step (k + 5) _ x l n i 3 4 (by omega) (by unfold wrap64; omega) (by omega) (by simp; omega), show wrap64 (3 + 1) = 4 from by unfold wrap64; omega,
    bof_step (k + 4) _ x l n i 4 3 (by omega) (by unfold wrap64; omega) (by omega) (by simp; omega), show wrap64 (4 + 1) = 5 from by unfold wrap64; omega,
    bof_step (k + 3) _ x l n i 5 2 (by omega) (by unfold wrap64; omega) (by omega) (by simp; omega), show wrap64 (5 + 1) = 6 from by unfold wrap64; omega,
    bof_step (k + 2) _ x l n i 6 1 (by omega) (by unfold wrap64; omega) (by omega) (by simp; omega), show wrap64 (6 + 1) = 7 from by unfold wrap64; omega,
    bof_step (k + 1) _ x l n i 7 0 (by omega) (by unfold wrap64; omega) (by omega) (by simp; omega), show wrap64 (7 + 1) = 8 from by unfold wrap64; omega,
    bits_Of.l1.eq_2, if_neg (by omega), ← bv_eq x hx]
  simp only [List.append_assoc, List.cons_append, List.nil_append]
theorem bof_l0 (l : List Int) (hw : ∀ x ∈ l, 0 ≤ x ∧ x ≤ 255) (hl : l.length ≤ 10000) (d : Nat) : ∀ k i : Nat, i + d = l.length → 10 * d < k →
    bits_Of.l0 k (ofl (l.take i)) l (l.length : Int) (i : Int) = some (ofl l) := by
  induction d with
  | zero =>
    intro k i hi hk
    obtain ⟨k, rfl⟩ := pred (show 0 < k by omega)
    rw [bits_Of.l0.eq_2, if_neg (by omega), List.take_of_length_le (by omega)]
  | succ d ih =>
    intro k i hi hk
    obtain ⟨k, rfl⟩ : ∃ m, k = (m + 9) + 1 := ⟨k - 10, by omega⟩
    have hlt : i < l.length := by omega
    rw [bits_Of.l0.eq_2, if_pos (by omega), if_pos (by omega), if_pos (by omega), rd_get l i hlt,
      bof_l1 k _ _ (hw _ (List.getElem_mem hlt)) l _ _ (by rw [ofl_length, List.length_take]; omega), ← ofl_snoc, ← take_snoc l i hlt, wrap_succ i (by omega)]
    exact ih k (i + 1) (by omega) (by omega)
theorem bof_f (l : List Int) (hw : ∀ x ∈ l, 0 ≤ x ∧ x ≤ 255) (hl : l.length ≤ 10000) (k : Nat) (hk : 10 * l.length < k) : bits_Of.f k l = some (ofl l) :=
  bof_l0 l hw hl l.length k 0 (by omega) hk
-- the reference
theorem rof_step (k : Nat) (l acc : List Int) (i x p q v : Int) (hp : 0 < p) (hv : Int.tmod (wrap64 (Int.tdiv x p)) 2 % 256 = v) (hq : wrap64 (Int.tdiv p 2) = q) (ha : acc.length < 140737488355328) :
    shuttleref01_Of.l1 (k + 1) l acc i x p = shuttleref01_Of.l1 k l (acc ++ [v]) i x q := by
  rw [shuttleref01_Of.l1.eq_2, if_pos (by omega), if_neg (by omega), if_pos ha, hv, hq]
theorem rv (x p : Int) (hx : 0 ≤ x ∧ x ≤ 255) (hp : 0 < p) : Int.tmod (wrap64 (Int.tdiv x p)) 2 % 256 = x / p % 2 := by
  have h1 : 0 ≤ x / p := Int.ediv_nonneg hx.1 (by omega)
  have h2 : x / p ≤ x := Int.ediv_le_self p hx.1
  rw [Int.tdiv_eq_ediv_of_nonneg hx.1, wrap_in (by omega) (by omega), Int.tmod_eq_emod_of_nonneg h1]
  omega
theorem rof_l1 (k : Nat) (l acc : List Int) (i x : Int) (hx : 0 ≤ x ∧ x ≤ 255) (ha : acc.length < 100000) :
    shuttleref01_Of.l1 (k + 9) l acc i x 128 = shuttleref01_Of.l0 k l (acc ++ bits8 x) (wrap64 (i + 1)) := by
  rw [rof_step (k + 8) l acc i x 128 64 _ (by omega) (rv x 128 hx (by omega)) (by unfold wrap64; decide) (by omega),
    rof_step (k + 7) l _ i x 64 32 _ (by omega) (rv x 64 hx (by omega)) (by unfold wrap64; decide) (by simp; omega),
    rof_step (k + 6) l _ i x 32 16 _ (by omega) (rv x 32 hx (by omega)) (by unfold wrap64; decide) (by simp; omega),
    rof_step (k + 5) l _ i x 16 8 _ (by omega) (rv x 16 hx (by omega)) (by unfold wrap64; decide) (by simp; omega),
    rof_step (k + 4) l _ i x 8 4 _ (by omega) (rv x 8 hx (by omega)) (by unfold wrap64; decide) (by simp; omega),
    rof_step (k + 3) l _ i x 4 2 _ (by omega) (rv x 4 hx (by omega)) (by unfold wrap64; decide) (by simp; omega),
    rof_step (k + 2) l _ i x 2 1 _ (by omega) (rv x 2 hx (by omega)) (by unfold wrap64; decide) (by simp; omega),
    rof_step (k + 1) l _ i x 1 0 _ (by omega) (rv x 1 hx (by omega)) (by unfold wrap64; decide) (by simp; omega),
    shuttleref01_Of.l1.eq_2, if_neg (by omega)]
  simp only [List.append_assoc, List.cons_append, List.nil_append]
  rfl
theorem rof_l0 (l : List Int) (hw : ∀ x ∈ l, 0 ≤ x ∧ x ≤ 255) (hl : l.length ≤ 10000) (d : Nat) : ∀ k i : Nat, i + d = l.length → 10 * d < k →
    shuttleref01_Of.l0 k l (ofl (l.take i)) (i : Int) = some (ofl l) := by
  induction d with
  | zero =>
    intro k i hi hk
    obtain ⟨k, rfl⟩ := pred (show 0 < k by omega)
    rw [shuttleref01_Of.l0.eq_2, if_neg (by omega), List.take_of_length_le (by omega)]
  | succ d ih =>
    intro k i hi hk
    obtain ⟨k, rfl⟩ : ∃ m, k = (m + 9) + 1 := ⟨k - 10, by omega⟩
    have hlt : i < l.length := by omega
    have hx := hw _ (List.getElem_mem hlt)
    rw [shuttleref01_Of.l0.eq_2, if_pos (by omega), if_pos (by omega), rd_get l i hlt, wrap_in (n := l[i]) (by omega) (by omega),
      rof_l1 k l _ _ _ hx (by rw [ofl_length, List.length_take]; omega), ← ofl_snoc, ← take_snoc l i hlt, wrap_succ i (by omega)]
    exact ih k (i + 1) (by omega) (by omega)
theorem rof_f (l : List Int) (hw : ∀ x ∈ l, 0 ≤ x ∧ x ≤ 255) (hl : l.length ≤ 10000) (k : Nat) (hk : 10 * l.length < k) : shuttleref01_Of.f k l = some (ofl l) :=
  rof_l0 l hw hl l.length k 0 (by omega) hk
-- and back
theorem byOf_congr (l l' : List Int) (x y : Nat) : ∀ m, (∀ k, k < m → l.getD (8 * x + k) 0 = l'.getD (8 * y + k) 0) → byOf l x m = byOf l' y m
  | 0, _ => rfl
  | m + 1, h => by
    unfold byOf
    rw [byOf_congr l l' x y m (fun k hk => h k (by omega)), h m (by omega)]
theorem by_all : ∀ r : Fin 256, byOf (bits8 (r.val : Int)) 0 8 = (r.val : Int) := by decide +kernel
theorem ofl_getD : ∀ (l : List Int) (j : Nat) (h : j < l.length) (k : Nat), k < 8 → (ofl l).getD (8 * j + k) 0 = (bits8 l[j]).getD (8 * 0 + k) 0
  | [], _, h, _, _ => absurd h (Nat.not_lt_zero _)
  | x :: l, 0, _, k, hk => by
    rw [ofl_cons, List.getD_eq_getElem?_getD, List.getD_eq_getElem?_getD, List.getElem?_append_left (show _ < 8 by omega)]; rfl
  | x :: l, j + 1, h, k, hk => by
    have ih := ofl_getD l j (by simpa using h) k hk
    rw [ofl_cons, List.getD_eq_getElem?_getD, List.getElem?_append_right (show 8 ≤ _ by omega), show 8 * (j + 1) + k - (bits8 x).length = 8 * j + k from by show _ - 8 = _; omega, ← List.getD_eq_getElem?_getD, ih]
    rfl
theorem byte_ofl (l : List Int) (hw : ∀ x ∈ l, 0 ≤ x ∧ x ≤ 255) (j : Nat) (h : j < l.length) : byte (ofl l) j = l[j] := by
  unfold byte
  rw [ofl_length, show min 8 (8 * l.length - 8 * j) = 8 from by omega, byOf_congr (ofl l) (bits8 l[j]) j 0 8 (ofl_getD l j h)]
  have hx := hw _ (List.getElem_mem h)
  obtain ⟨n, hn⟩ := Int.eq_ofNat_of_zero_le hx.1
  rw [hn] at hx ⊢
  exact by_all ⟨n, by omega⟩
theorem ofl_right (l : List Int) : (ofl l).any big = false := by
  rw [List.any_eq_false]
  intro x hx
  have := ofl_bit l x hx
  unfold big
  rw [decide_eq_false (by omega)]; decide
theorem bytes_ofl (l : List Int) (hw : ∀ x ∈ l, 0 ≤ x ∧ x ≤ 255) (hl : l.length ≤ 10000) (k : Nat) (hk : 8 * l.length < k) : bits_Bytes.f k (ofl l) = some (l, 0) := by
  have hn := ofl_length l
  unfold bits_Bytes.f
  rw [right_f (ofl l) (by omega) k (by omega), ofl_right, Option.bind_some, if_pos (by decide), if_pos (by omega), hn, show (8 * l.length + 7) / 8 = l.length from by omega]
  have : (List.range l.length).map (byte (ofl l)) = l := by
    apply List.ext_getElem
    · simp
    · intro i h1 h2
      rw [List.getElem_map, List.getElem_range, byte_ofl l hw i h2]
  rw [this]

end Go.Proofs.Ytfplmoeahbjfmaa.P

-- YtfplmoeahbjfmaaP51
namespace Go.Proofs.Ytfplmoeahbjfmaa.P
open Go.RowKit Go.Proofs.YtfplmoeahbjfmaaW.PrintWords Go.Proofs.YtfplmoeahbjfmaaW.PrintLast Go.Proofs.YtfplmoeahbjfmaaW.PrintMore
attribute [local go_sem] max2_int min2_int max_two min_two max_three min_three max_four min_four   -- for this text's walks alone
set_option linter.unusedVariables false
set_option linter.unusedSimpArgs false

/-! ### shuttleref01_Bytes: function 49 -/
mutual
def shuttleref01_Bytes.l0 : Nat → List Int → List Int → Int → Option (List Int)
  | 0, _, _, _ => none
  | k + 1, x0, x3, x4 => if x4 < (x0.length : Int) then (shuttleref01_Bytes.l1 k x0 x3 x4 0 0) else (some x3)
def shuttleref01_Bytes.l1 : Nat → List Int → List Int → Int → Int → Int → Option (List Int)
  | 0, _, _, _, _, _ => none
  | k + 1, x0, x3, x4, x5, x6 => if x6 < 8 then (if (wrap64 (x4 + x6)) < (x0.length : Int) then (if 0 ≤ (wrap64 (x4 + x6)) then (shuttleref01_Bytes.l1 k x0 x3 x4 (wrap64 ((wrap64 (2 * x5)) + (wrap64 (rd x0 (wrap64 (x4 + x6)))))) (wrap64 (x6 + 1))) else (none)) else (shuttleref01_Bytes.l1 k x0 x3 x4 (wrap64 (2 * x5)) (wrap64 (x6 + 1)))) else (if x3.length < 140737488355328 then (shuttleref01_Bytes.l0 k x0 (x3 ++ [(x5) % 256]) (wrap64 (x4 + 8))) else (none))
end
def shuttleref01_Bytes.f (k : Nat) (l0 : List Int) : Option (List Int) := shuttleref01_Bytes.l0 k l0 ([] : List Int) 0
theorem shuttleref01_Bytes.mono_l : ∀ k, (∀ y0 y1 y2, LeO (shuttleref01_Bytes.l0 k y0 y1 y2) (shuttleref01_Bytes.l0 (k + 1) y0 y1 y2)) ∧ (∀ y0 y1 y2 y3 y4, LeO (shuttleref01_Bytes.l1 k y0 y1 y2 y3 y4) (shuttleref01_Bytes.l1 (k + 1) y0 y1 y2 y3 y4))
  | 0 => ⟨fun _ _ _ r h => by simp [shuttleref01_Bytes.l0] at h, fun _ _ _ _ _ r h => by simp [shuttleref01_Bytes.l1] at h⟩
  | k + 1 => by
    obtain ⟨ih0, ih1⟩ := shuttleref01_Bytes.mono_l k
    refine ⟨?_, ?_⟩
    · intro y0 y1 y2
      unfold shuttleref01_Bytes.l0
      repeat' first
      | (with_reducible exact ih0 _ _ _)
      | (with_reducible exact ih1 _ _ _ _ _)
      | (with_reducible exact LeO.refl _)
      | (with_reducible exact LeO.none _)
      | (with_reducible refine LeO.ite ?_ ?_)
      | (with_reducible refine LeO.bind ?_ (fun _ => ?_))
      | exact ih0 _ _ _
      | exact ih1 _ _ _ _ _
      | exact LeO.none _
      | refine LeO.ite ?_ ?_
      | refine LeO.bind ?_ (fun _ => ?_)
    · intro y0 y1 y2 y3 y4
      unfold shuttleref01_Bytes.l1
      repeat' first
      | (with_reducible exact ih0 _ _ _)
      | (with_reducible exact ih1 _ _ _ _ _)
      | (with_reducible exact LeO.refl _)
      | (with_reducible exact LeO.none _)
      | (with_reducible refine LeO.ite ?_ ?_)
      | (with_reducible refine LeO.bind ?_ (fun _ => ?_))
      | exact ih0 _ _ _
      | exact ih1 _ _ _ _ _
      | exact LeO.none _
      | refine LeO.ite ?_ ?_
      | refine LeO.bind ?_ (fun _ => ?_)
theorem shuttleref01_Bytes.mono : ∀ a0 k, LeO (shuttleref01_Bytes.f k a0) (shuttleref01_Bytes.f (k + 1) a0) := by
  intro a0 k
  obtain ⟨ih0, ih1⟩ := shuttleref01_Bytes.mono_l k
  unfold shuttleref01_Bytes.f
  repeat' first
      | (with_reducible exact ih0 _ _ _)
      | (with_reducible exact ih1 _ _ _ _ _)
      | (with_reducible exact LeO.refl _)
      | (with_reducible exact LeO.none _)
      | (with_reducible refine LeO.ite ?_ ?_)
      | (with_reducible refine LeO.bind ?_ (fun _ => ?_))
      | exact ih0 _ _ _
      | exact ih1 _ _ _ _ _
      | exact LeO.none _
      | refine LeO.ite ?_ ?_
      | refine LeO.bind ?_ (fun _ => ?_)
set_option maxHeartbeats 8000000 in
set_option maxRecDepth 100000 in
theorem shuttleref01_Bytes.calls (k : Nat) (A0 : Option Addr) (c0 : Nat) (l0 : List Int) (r : List Int) (w : World) (hr0 : Kd.C (Kd.int .u8) w A0 l0.length l0) (hc0 : l0.length ≤ c0) (h : shuttleref01_Bytes.f k l0 = some r) :
    Calls Try.prog 49 #[.slice A0 l0.length c0] w fun e w' => ∃ v0_ : Value, e = .returned (v0_) ∧ Kd.R (Kd.int .u8) 5 w' w.heap.size (fun _ => True) v0_ r ∧ Below w.heap.size w w' := by
  have HR0 := Aside0.mk hr0
  have HC0 := Aside0.mk hc0
  clear hr0 hc0
  have HB := Aside0.mk (Below.refl w.heap.size w)
  have H : (shuttleref01_Bytes.l0 k l0 ([] : List Int) 0) = some r := h
  clear h
  have H' := Aside0.mk H
  clear H
  go_enter Try.func49, Try.ntmps49
  go_wp2
  go_loopg [3, 4] k (fun kq v3 v4 w' => ∃ (x3_1 : List Int) (x4_1 : Int), v4 = .int .i64 x4_1 ∧ Aside0 (shuttleref01_Bytes.l0 kq l0 x3_1 x4_1 = some r) ∧ Aside0 (kq ≤ k) ∧ Aside0 (Kd.R (Kd.int .u8) 5 w' w.heap.size (fun _ => True) v3 x3_1) ∧ Aside0 (Below w.heap.size w w'))
  case atStart => exact ⟨(([] : List Int)), (0), (by first | rfl | (simp; done) | (simp [*]; done)), H', ⟨Nat.le_refl _⟩, ⟨by first | exact Kd.R_nil _ _ _ _ _ | exact Kd.N_nil _ _ _ _ _ | exact Kd.V_nil _ _ _ _ _ | exact Kd.Q_nil _ _ _ _ _ | exact Kd.S_nil _ _ _ _ _⟩, ⟨by repeat (first | (with_reducible first | exact HB.out | apply below_alloc | apply pw_below_drewN | apply below_drew1) | exact HB.out)⟩⟩
  case round =>
    clear H'
    obtain ⟨x3_1, x4_1, rfl, HA, HK1, HO_3, HB⟩ := hrel
    cases gk with
    | zero => exact absurd HA.out (by simp [shuttleref01_Bytes.l0])
    | succ k1 =>
      have H := HA.out
      clear HA
      simp only [shuttleref01_Bytes.l0] at H
      by_cases c2 : x4_1 < (l0.length : Int)
      · rw [if_pos c2] at H
        have c2b0 : decide (x4_1 < (l0.length : Int)) = true := decide_eq_true c2
        clear c2
        have H' := Aside0.mk H
        clear H
        go_wp2
        go_loopg [5, 6] k1 (fun kq v5 v6 w' => ∃ (x5_2 : Int) (x6_2 : Int), v5 = .int .i64 x5_2 ∧ v6 = .int .i64 x6_2 ∧ Aside0 (shuttleref01_Bytes.l1 kq l0 x3_1 x4_1 x5_2 x6_2 = some r) ∧ Aside0 (kq ≤ k1) ∧ Aside0 (Kd.R (Kd.int .u8) 5 w' w.heap.size (fun _ => True) u3 x3_1) ∧ Aside0 (Below w.heap.size w w'))
        case atStart => exact ⟨(0), (0), (by first | rfl | (simp; done) | (simp [*]; done)), (by first | rfl | (simp; done) | (simp [*]; done)), H', ⟨Nat.le_refl _⟩, ⟨by (with_reducible repeat (first | apply Kd.R_alloc | apply Kd.R_drewN | apply Kd.R_drew)); exact HO_3.out⟩, ⟨by repeat (first | (with_reducible first | exact HB.out | apply below_alloc | apply pw_below_drewN | apply below_drew1) | exact HB.out)⟩⟩
        case round =>
          clear H'
          try clear c2
          try clear c2b0
          try clear p2
          obtain ⟨x5_2, x6_2, rfl, rfl, HA, HK2, HO_3, HB⟩ := hrel
          cases gk with
          | zero => exact absurd HA.out (by simp [shuttleref01_Bytes.l1])
          | succ k2 =>
            have H := HA.out
            clear HA
            simp only [shuttleref01_Bytes.l1] at H
            by_cases c3 : x6_2 < 8
            · rw [if_pos c3] at H
              have c3b0 : decide (x6_2 < 8) = true := decide_eq_true c3
              clear c3
              by_cases c4 : (wrap64 (x4_1 + x6_2)) < (l0.length : Int)
              · rw [if_pos c4] at H
                have c4b0 : decide ((wrap64 (x4_1 + x6_2)) < (l0.length : Int)) = true := decide_eq_true c4
                clear c4
                obtain ⟨ji5, hji5⟩ : ∃ j_ : Int, (wrap64 (x4_1 + x6_2)) = j_ := ⟨_, rfl⟩
                replace H : (if 0 ≤ (ji5) then (shuttleref01_Bytes.l1 k2 l0 x3_1 x4_1 (wrap64 ((wrap64 (2 * x5_2)) + (wrap64 (rd l0 (ji5))))) (wrap64 (x6_2 + 1))) else (none)) = some r := by first | (rw [hji5] at H; exact H) | (simp only [hji5] at H ⊢; exact H)
                (try rw [hji5] at c4b0)
                have hji5w : (IntKind.i64.wrap (x4_1 + x6_2)) = ji5 := (i64_w _).trans hji5
                by_cases c6 : 0 ≤ (ji5)
                · rw [if_pos c6] at H
                  have c6b0 : decide (0 ≤ (ji5)) = true := decide_eq_true c6
                  clear c6
                  have H' := Aside0.mk H
                  clear H
                  have p259 : 0 ≤ ((ji5) : Int) := of_decide_eq_true (by first | (with_reducible assumption) | assumption)
                  have q259 : (ji5) < (l0.length : Int) := of_decide_eq_true (by first | (with_reducible assumption) | assumption)
                  obtain ⟨ad259, e259, hx259_0⟩ := Kd.at_int HR0.out (ji5) p259 q259
                  cases e259
                  replace hx259_0 := (HB.out.cell (World.block_lt_of_cell? w _ hx259_0)).trans hx259_0
                  replace p259 := eq_true p259
                  replace q259 := eq_true q259
                  go_wp2
                  go_roundg k2
                  case measure => have := HK1.out; have := HK2.out; omega
                  case rel => exact ⟨(wrap64 ((wrap64 (2 * x5_2)) + (wrap64 (rd l0 (ji5))))), (wrap64 (x6_2 + 1)), (by first | rfl | (simp; done) | (simp only [← hji5] <;> (first | rfl | simp)) | (simp [*]; done)), (by first | rfl | (simp; done) | (simp [*]; done)), H', ⟨by have := HK1.out; have := HK2.out; omega⟩, ⟨by (with_reducible repeat (first | apply Kd.R_alloc | apply Kd.R_drewN | apply Kd.R_drew)); exact HO_3.out⟩, ⟨by repeat (first | (with_reducible first | exact HB.out | apply below_alloc | apply pw_below_drewN | apply below_drew1) | exact HB.out)⟩⟩
                · rw [if_neg c6] at H
                  exact absurd H (by simp)
              · rw [if_neg c4] at H
                have c4b0 : decide ((wrap64 (x4_1 + x6_2)) < (l0.length : Int)) = false := decide_eq_false c4
                clear c4
                have H' := Aside0.mk H
                clear H
                go_wp2
                go_roundg k2
                case measure => have := HK1.out; have := HK2.out; omega
                case rel => exact ⟨(wrap64 (2 * x5_2)), (wrap64 (x6_2 + 1)), (by first | rfl | (simp; done) | (simp [*]; done)), (by first | rfl | (simp; done) | (simp [*]; done)), H', ⟨by have := HK1.out; have := HK2.out; omega⟩, ⟨by (with_reducible repeat (first | apply Kd.R_alloc | apply Kd.R_drewN | apply Kd.R_drew)); exact HO_3.out⟩, ⟨by repeat (first | (with_reducible first | exact HB.out | apply below_alloc | apply pw_below_drewN | apply below_drew1) | exact HB.out)⟩⟩
            · rw [if_neg c3] at H
              have c3b0 : decide (x6_2 < 8) = false := decide_eq_false c3
              clear c3
              by_cases c7 : x3_1.length < 140737488355328
              · rw [if_pos c7] at H
                have LMc7 := Aside0.mk c7
                clear c7
                obtain ⟨y260, hy260⟩ : ∃ y_ : List Int, y_ = (x3_1 ++ [(x5_2) % 256]) := ⟨_, rfl⟩
                replace H : (shuttleref01_Bytes.l0 k2 l0 y260 (wrap64 (x4_1 + 8))) = some r := by first | (rw [hy260]; with_reducible exact H) | (have H2_ := (Option.bind_some _ _).symm.trans H; rw [hy260]; with_reducible exact H2_) | (have H2_ := (Option.bind_some _ _).symm.trans H; with_reducible exact H2_) | with_reducible exact H | (rw [hy260]; exact H) | exact H
                have Ny260 := Aside0.mk hy260
                clear hy260
                have H' := Aside0.mk H
                clear H
                go_wp2_with (first | ((with_reducible refine gate_builtin (b := .append) (xs := #[.tmp 34, .tmp 37]) rfl ?_); at_builtin; refine Kd.R_append (Kd.int .u8) (w0 := w) w.heap.size rfl (.tmp 34) (.tmp 37) 31 5 (.int .u8 0) 1 rfl Try.underlying31 info5 rfl (by decide) (by omega) u3 x3_1 ((x5_2) % 256) [.int .u8 ((x5_2) % 256)] (fun _ => True) (fun _ => False) rfl rfl ?aP (fun _ hk => hk.elim) ?aF ?aO ?aB ?aS ?aL ?_; (case aP => exact rfl); (case aB => exact (by repeat (first | (with_reducible first | exact HB.out | apply below_alloc | apply pw_below_drewN | apply below_drew1) | exact HB.out))); (case aF => exact (fun _ _ => trivial)); (case aO => exact (by (with_reducible repeat (first | apply Kd.R_alloc | apply Kd.R_drewN | apply Kd.R_drew)); exact HO_3.out)); (case aS => exact (below_size (by repeat (first | (with_reducible first | exact HB.out | apply below_alloc | apply pw_below_drewN | apply below_drew1) | exact HB.out)))); (case aL => have := LMc7.out; omega); intro v261 w8 ho hb hg hat; rw [← Ny260.out] at ho; have n0_ := Aside0.mk (hb); have n1_ := Aside0.mk (ho); clear HB; clear HO_3; have HB := n0_; have HO262 := n1_; clear n0_ n1_; clear ho hb hg hat))
                go_roundg k2
                case measure => have := HK1.out; have := HK2.out; omega
                case rel => exact ⟨(y260), (wrap64 (x4_1 + 8)), (by first | rfl | (simp; done) | (simp [*]; done)), H', ⟨by have := HK1.out; have := HK2.out; omega⟩, ⟨by (with_reducible repeat (first | apply Kd.R_alloc | apply Kd.R_drewN | apply Kd.R_drew)); exact HO262.out⟩, ⟨by repeat (first | (with_reducible first | exact HB.out | apply below_alloc | apply pw_below_drewN | apply below_drew1) | exact HB.out)⟩⟩
              · rw [if_neg c7] at H
                exact absurd H (by simp)
      · rw [if_neg c2] at H
        have c2b0 : decide (x4_1 < (l0.length : Int)) = false := decide_eq_false c2
        clear c2
        obtain rfl := Option.some.inj H
        go_wp2
        go_ret
        exact ⟨_, by first | rfl | (simp [errW_none, errW_some] <;> rfl) | (simp [*, errW_none, errW_some] <;> rfl), by (with_reducible repeat (first | apply Kd.R_alloc | apply Kd.R_drewN | apply Kd.R_drew)); exact HO_3.out, by repeat (first | (with_reducible first | exact HB.out | apply below_alloc | apply pw_below_drewN | apply below_drew1) | exact HB.out)⟩

end Go.Proofs.Ytfplmoeahbjfmaa.P

-- YtfplmoeahbjfmaaPCList
namespace Go.Proofs.Ytfplmoeahbjfmaa.P
open Go.RowKit Go.Proofs.YtfplmoeahbjfmaaW.PrintWords Go.Proofs.YtfplmoeahbjfmaaW.PrintLast Go.Proofs.YtfplmoeahbjfmaaW.PrintMore
set_option linter.unusedVariables false

def rb (l : List Int) (x : Nat) : Nat → Int
  | 0 => 0
  | m + 1 => 2 * rb l x m + l.getD (8 * x + m) 0
theorem bit01 {x : Int} (h : bit x) : 0 ≤ x ∧ x ≤ 1 := by unfold bit at h; omega
theorem rb_in (l : List Int) (h : ∀ x ∈ l, bit x) (x : Nat) (m : Nat) : 0 ≤ rb l x m ∧ rb l x m + 1 ≤ ((2 ^ m : Nat) : Int) := by
  induction m with
  | zero => simp [rb]
  | succ m ih =>
    have hb := getD_bit h (8 * x + m)
    unfold bit at hb
    unfold rb
    rw [Nat.pow_succ]
    omega
theorem rb_256 (l : List Int) (h : ∀ x ∈ l, bit x) (x : Nat) (m : Nat) (hm : m ≤ 8) : 0 ≤ rb l x m ∧ rb l x m ≤ 255 := by
  have h1 := rb_in l h x m
  have h2 : 2 ^ m ≤ 2 ^ 8 := Nat.pow_le_pow_right (by omega) hm
  omega
theorem rb_congr (l l' : List Int) (x y : Nat) : ∀ m, (∀ k, k < m → l.getD (8 * x + k) 0 = l'.getD (8 * y + k) 0) → rb l x m = rb l' y m
  | 0, _ => rfl
  | m + 1, h => by
    unfold rb
    rw [rb_congr l l' x y m (fun k hk => h k (by omega)), h m (by omega)]
theorem rb_all : ∀ r : Fin 256, rb (bits8 (r.val : Int)) 0 8 = (r.val : Int) := by decide +kernel
theorem by_short : ∀ r : Fin 256, ∀ m : Fin 9, (∀ k : Fin 8, m.val ≤ k.val → (bits8 (r.val : Int)).getD (8 * 0 + k.val) 0 = 0) → byOf (bits8 (r.val : Int)) 0 m.val = (r.val : Int) := by decide +kernel
theorem eight (l : List Int) (h : ∀ x ∈ l, bit x) (x : Nat) : ∃ r : Fin 256, ∀ k, k < 8 → l.getD (8 * x + k) 0 = (bits8 (r.val : Int)).getD (8 * 0 + k) 0 := by
  have b0 := getD_bit h (8 * x + 0)
  have b1 := getD_bit h (8 * x + 1)
  have b2 := getD_bit h (8 * x + 2)
  have b3 := getD_bit h (8 * x + 3)
  have b4 := getD_bit h (8 * x + 4)
  have b5 := getD_bit h (8 * x + 5)
  have b6 := getD_bit h (8 * x + 6)
  have b7 := getD_bit h (8 * x + 7)
  replace b0 := bit01 b0
  replace b1 := bit01 b1
  replace b2 := bit01 b2
  replace b3 := bit01 b3
  replace b4 := bit01 b4
  replace b5 := bit01 b5
  replace b6 := bit01 b6
  replace b7 := bit01 b7
  suffices hh : ∃ r : Fin 256, l.getD (8 * x + 0) 0 = (r.val : Int) / 128 % 2 ∧ l.getD (8 * x + 1) 0 = (r.val : Int) / 64 % 2 ∧ l.getD (8 * x + 2) 0 = (r.val : Int) / 32 % 2 ∧ l.getD (8 * x + 3) 0 = (r.val : Int) / 16 % 2 ∧ l.getD (8 * x + 4) 0 = (r.val : Int) / 8 % 2 ∧ l.getD (8 * x + 5) 0 = (r.val : Int) / 4 % 2 ∧ l.getD (8 * x + 6) 0 = (r.val : Int) / 2 % 2 ∧ l.getD (8 * x + 7) 0 = (r.val : Int) / 1 % 2 by
    obtain ⟨r, h0, h1, h2, h3, h4, h5, h6, h7⟩ := hh
    refine ⟨r, ?_⟩
    intro k hk
    have hk' : k = 0 ∨ k = 1 ∨ k = 2 ∨ k = 3 ∨ k = 4 ∨ k = 5 ∨ k = 6 ∨ k = 7 := by omega
    rcases hk' with rfl | rfl | rfl | rfl | rfl | rfl | rfl | rfl
    · exact h0
    · exact h1
    · exact h2
    · exact h3
    · exact h4
    · exact h5
    · exact h6
    · exact h7
  generalize l.getD (8 * x + 0) 0 = c0 at *
  generalize l.getD (8 * x + 1) 0 = c1 at *
  generalize l.getD (8 * x + 2) 0 = c2 at *
  generalize l.getD (8 * x + 3) 0 = c3 at *
  generalize l.getD (8 * x + 4) 0 = c4 at *
  generalize l.getD (8 * x + 5) 0 = c5 at *
  generalize l.getD (8 * x + 6) 0 = c6 at *
  generalize l.getD (8 * x + 7) 0 = c7 at *
  obtain ⟨n, hn⟩ := Int.eq_ofNat_of_zero_le (a := 128 * c0 + 64 * c1 + 32 * c2 + 16 * c3 + 8 * c4 + 4 * c5 + 2 * c6 + c7) (by omega)
  refine ⟨⟨n, by omega⟩, ?_, ?_, ?_, ?_, ?_, ?_, ?_, ?_⟩ <;> (show _ = (n : Int) / _ % 2; rw [show (n : Int) = 128 * c0 + 64 * c1 + 32 * c2 + 16 * c3 + 8 * c4 + 4 * c5 + 2 * c6 + c7 from hn.symm]; clear hn; omega)
theorem byte_rb (l : List Int) (h : ∀ x ∈ l, bit x) (x : Nat) : byte l x = rb l x 8 := by
  obtain ⟨r, hr⟩ := eight l h x
  rw [rb_congr l (bits8 (r.val : Int)) x 0 8 hr, rb_all r]
  unfold byte
  rw [byOf_congr l (bits8 (r.val : Int)) x 0 _ (fun k hk => hr k (by omega))]
  refine by_short r ⟨min 8 (l.length - 8 * x), by omega⟩ ?_
  intro k hk
  rw [← hr k.val k.isLt, List.getD_eq_getElem?_getD, List.getElem?_eq_none (by have := k.isLt; simp only at hk; omega)]
  rfl
theorem rby_l1 (l : List Int) (h : ∀ x ∈ l, bit x) (hl : l.length ≤ 10000) (acc : List Int) (hacc : acc.length ≤ 100000) (x : Nat) (hx : 8 * x < l.length) (k d : Nat) : ∀ m : Nat, m + d = 8 →
    shuttleref01_Bytes.l1 (k + d + 1) l acc ((8 * x : Nat) : Int) (rb l x m) (m : Int) = shuttleref01_Bytes.l0 k l (acc ++ [byte l x]) ((8 * (x + 1) : Nat) : Int) := by
  induction d with
  | zero =>
    intro m hm
    obtain rfl : m = 8 := by omega
    have hb := rb_256 l h x 8 (by omega)
    rw [shuttleref01_Bytes.l1.eq_2, if_neg (by omega), if_pos (by omega), wrap_in (by omega) (by omega), byte_rb l h x, Int.emod_eq_of_lt hb.1 (by omega),
      show ((8 * x : Nat) : Int) + 8 = ((8 * (x + 1) : Nat) : Int) from by omega]
  | succ d ih =>
    intro m hm
    have hb := rb_256 l h x m (by omega)
    have hg := getD_bit h (8 * x + m)
    unfold bit at hg
    have hn := ih (m + 1) (by omega)
    rw [show rb l x (m + 1) = 2 * rb l x m + l.getD (8 * x + m) 0 from rfl] at hn
    rw [show k + (d + 1) + 1 = (k + d + 1) + 1 from by omega, shuttleref01_Bytes.l1.eq_2, if_pos (by omega), wrap_succ m (by omega),
      show wrap64 (((8 * x : Nat) : Int) + (m : Int)) = ((8 * x + m : Nat) : Int) from by rw [wrap_in (by omega) (by omega)]; omega]
    by_cases c : 8 * x + m < l.length
    · rw [if_pos (by omega), if_pos (by omega), rd_getD, wrap_in (n := 2 * rb l x m) (by omega) (by omega), wrap_in (n := l.getD (8 * x + m) 0) (by omega) (by omega), wrap_in (by omega) (by omega)]
      exact hn
    · have hz : l.getD (8 * x + m) 0 = 0 := by rw [List.getD_eq_getElem?_getD, List.getElem?_eq_none (by omega)]; rfl
      rw [hz, Int.add_zero] at hn
      rw [if_neg (by omega), wrap_in (n := 2 * rb l x m) (by omega) (by omega)]
      exact hn
theorem rby_l0 (l : List Int) (h : ∀ x ∈ l, bit x) (hl : l.length ≤ 10000) (d : Nat) : ∀ k j : Nat, j + d = (l.length + 7) / 8 → 10 * d < k →
    shuttleref01_Bytes.l0 k l ((List.range j).map (byte l)) ((8 * j : Nat) : Int) = some ((List.range ((l.length + 7) / 8)).map (byte l)) := by
  induction d with
  | zero =>
    intro k j hj hk
    obtain ⟨k, rfl⟩ := pred (show 0 < k by omega)
    rw [shuttleref01_Bytes.l0.eq_2, if_neg (by omega), show j = (l.length + 7) / 8 from by omega]
  | succ d ih =>
    intro k j hj hk
    obtain ⟨k, rfl⟩ : ∃ m, k = (m + 8 + 1) + 1 := ⟨k - 10, by omega⟩
    rw [shuttleref01_Bytes.l0.eq_2, if_pos (by omega)]
    have e := rby_l1 l h hl ((List.range j).map (byte l)) (by simp; omega) j (by omega) k 8 0 (by omega)
    rw [show rb l j 0 = 0 from rfl, show ((0 : Nat) : Int) = 0 from rfl] at e
    rw [e, show (List.range j).map (byte l) ++ [byte l j] = (List.range (j + 1)).map (byte l) from by simp [List.range_succ]]
    exact ih k (j + 1) (by omega) (by omega)
theorem rbytes_f (l : List Int) (h : ∀ x ∈ l, bit x) (hl : l.length ≤ 10000) (k : Nat) (hk : 10 * l.length + 20 < k) : shuttleref01_Bytes.f k l = some ((List.range ((l.length + 7) / 8)).map (byte l)) :=
  rby_l0 l h hl ((l.length + 7) / 8) k 0 (by omega) (by omega)

end Go.Proofs.Ytfplmoeahbjfmaa.P

-- YtfplmoeahbjfmaaPCTurn
namespace Go.Proofs.Ytfplmoeahbjfmaa.P
open Go Go.Proofs Go.RowKit Go.Shelf Go.Proofs.YtfplmoeahbjfmaaW.PrintWords Go.Proofs.YtfplmoeahbjfmaaW.PrintLast Go.Proofs.YtfplmoeahbjfmaaW.PrintMore
set_option linter.unusedVariables false
set_option linter.unusedSimpArgs false

variable {n₀ g : Nat} {age now : Int} {v : Value} {L : List Fl}
/-- A text of bytes, not long. -/
def Txt (b : List Int) : Prop := (∀ x ∈ b, 0 ≤ x ∧ x ≤ 255) ∧ b.length ≤ 30
def Small (L : List Fl) : Prop := ∀ f ∈ L, Txt f.1 ∧ Txt f.2.1
theorem Small.short (h : Small L) : Short L := fun f hf => ⟨by have := (h f hf).1.2; omega, by have := (h f hf).2.2; omega⟩
/-- A text with some bits turned. -/
def tnB (b at_ : List Int) : List Int := (List.range ((8 * b.length + 7) / 8)).map (byte (turned (ofl b) at_))
theorem ofl_bits (b : List Int) : ∀ x ∈ ofl b, bit x := fun x hx => by have := ofl_bit b x hx; unfold bit; omega
theorem tnB_len (b at_ : List Int) : (tnB b at_).length = b.length := by unfold tnB; rw [List.length_map, List.length_range]; omega
theorem tnB_txt {b : List Int} (h : Txt b) (at_ : List Int) : Txt (tnB b at_) := by
  refine ⟨fun x hx => ?_, by rw [tnB_len]; exact h.2⟩
  obtain ⟨i, _, rfl⟩ := List.mem_map.1 hx
  rw [byte_rb _ (turned_bit (ofl_bits b) at_)]
  exact rb_256 _ (turned_bit (ofl_bits b) at_) i 8 (by omega)
def tnL (k : Int) (at_ : List Int) (L : List Fl) : List Fl := if hasE L.length k = 0 then L.set k.toNat (tnB (L.getD k.toNat ([], [], 0)).1 at_, (L.getD k.toNat ([], [], 0)).2) else L
theorem tnL_len (k : Int) (at_ : List Int) (L : List Fl) : (tnL k at_ L).length = L.length := by unfold tnL; split <;> simp
theorem tnL_small {k : Int} {at_ : List Int} (h : Small L) : Small (tnL k at_ L) := by
  unfold tnL
  split
  · next hh =>
    intro f hf
    have hk : 0 ≤ k ∧ k < L.length := by unfold hasE at hh; split at hh; assumption; omega
    rcases List.mem_or_eq_of_mem_set hf with q | q
    · exact h f q
    · have hm : L.getD k.toNat ([], [], 0) ∈ L := by rw [List.getD_eq_getElem?_getD, List.getElem?_eq_getElem (by omega)]; exact List.getElem_mem _
      subst q
      exact ⟨tnB_txt (h _ hm).1 at_, (h _ hm).2⟩
  · exact h
theorem sl_size : (Try.prog.info? 31).map (·.size) = some 1 := by kernel_rfl

set_option maxRecDepth 100000 in
set_option maxHeartbeats 8000000 in
theorem turn_calls {w : World} (h : CS w n₀ g age now v L) (k : Int) (At : Option Addr) (ct : Nat) (at_ : List Int) (hat : Kd.C (Kd.int .i64) w At at_.length at_) (hct : at_.length ≤ ct) (ha : at_.length ≤ 20) (hs : Small L) (h5 : L.length ≤ 5000) :
    Calls Try.prog 27 #[.pointer (some ⟨g, 0, none⟩), .int .i64 k, .slice At at_.length ct] w fun e w' => e = .returned (.int .i64 (hasE L.length k)) ∧ ∃ v', CS w' n₀ g age now v' (tnL k at_ L) ∧ Fr g v w w' ∧ Newer w v v' := by
  have HHAS := Aside0.mk (chas_calls h k)
  by_cases hh : hasE L.length k = 0
  · have hk : 0 ≤ k ∧ k < L.length := by unfold hasE at hh; split at hh; assumption; omega
    obtain ⟨i, rfl⟩ := Int.eq_ofNat_of_zero_le hk.1
    have hil : i < L.length := by omega
    rw [hh] at HHAS
    obtain ⟨Af, cf, e⟩ := h.slice
    subst e
    obtain ⟨gr, cap, eg, _, _, cells0, hblk0⟩ := Kd.R_form h.row (by omega)
    injection eg with eA _ eC
    subst eA
    subst eC
    obtain ⟨f, A1, c1, A2, c2, hLi, hf0, hf1, hf2, hr1, hr2⟩ := fl_get h.row i hil
    have hfe : L.getD i ([], [], 0) = f := by rw [List.getD_eq_getElem?_getD, hLi]; rfl
    have e2 : tnL (i : Int) at_ L = L.set i (tnB f.1 at_, f.2) := by unfold tnL; rw [if_pos hh, Int.toNat_natCast, hfe]
    rw [e2, hh]
    have hsf := hs f (List.mem_of_getElem? hLi)
    have hc2 : w.cell? ⟨g, 2, none⟩ = some (.slice (some ⟨gr, 0, none⟩) L.length cf) := blk_cell h.blk 2
    have hgr4 : gr < w.heap.size := (h.own gr (by simp [Value.ownBlock])).2
    have hgne : g ≠ gr := by have := h.ne; simp [Value.ownBlock] at this; exact this
    have HOF := Aside0.mk (bits_Of.calls (10 * f.1.length + 1) A1 c1 f.1 (ofl f.1) w (Kd.R_reads' hr1).2.2 (Kd.R_reads' hr1).2.1 (bof_f f.1 hsf.1.1 (by have := hsf.1.2; omega) _ (by omega)))
    have hlo : (ofl f.1).length ≤ 240 := by rw [ofl_length]; have := hsf.1.2; omega
    have hTF := bturn_f (ofl f.1) at_ (by omega) (by omega) (at_.length + 1) (by omega)
    have hBF := bytes_some (turned_bit (ofl_bits f.1) at_) (by rw [turned_length]; omega) ((turned (ofl f.1) at_).length + 1) (by omega)
    rw [turned_length (ofl f.1) at_, ofl_length] at hBF
    have HTF := Aside0.mk hTF
    have HBF := Aside0.mk hBF
    have HAT := Aside0.mk (And.intro hat hct)
    have HC := Aside0.mk h
    have HR1 := Aside0.mk hr1
    have HR2 := Aside0.mk hr2
    have HSF := Aside0.mk hsf
    have HBL := Aside0.mk hblk0
    obtain ⟨nL, hnL⟩ : ∃ nL, nL = L.length := ⟨_, rfl⟩
    rw [← hnL] at hc2 hil ⊢
    have hn5 : nL ≤ 5000 := by rw [hnL]; exact h5
    have HNL := Aside0.mk hnL
    obtain ⟨n1, hn1⟩ : ∃ n1, n1 = f.1.length := ⟨_, rfl⟩
    obtain ⟨n2, hn2⟩ : ∃ n2, n2 = f.2.1.length := ⟨_, rfl⟩
    obtain ⟨sn, hsn⟩ : ∃ sn, sn = f.2.2 := ⟨_, rfl⟩
    obtain ⟨na, hna⟩ : ∃ na, na = at_.length := ⟨_, rfl⟩
    rw [← hn1] at hf0 HOF
    rw [← hn2] at hf1
    rw [← hsn] at hf2
    rw [← hna]
    have HN1 := Aside0.mk hn1
    have HN2 := Aside0.mk hn2
    have HSN := Aside0.mk hsn
    have HNA := Aside0.mk hna
    have HF12 := Aside0.mk (And.intro hf0 (And.intro hf1 hf2))
    clear h hr1 hr2 hnL hn1 hn2 hsn hna hLi hfe hs hk e2 hsf hh h5 hTF hBF hat hct ha hlo hblk0 hf1 hf2
    go_enter Try.func27, Try.ntmps27
    go_wp2_with (first
      | ((with_reducible refine gate_ (.store 31 (.tmp 41) (.tmp 39)) rfl ?_); refine Kd.R_store kFl (w0 := w3) n₀ rfl rfl 31 (.tmp 41) (.tmp 39) rfl 50 (g := gr) (n := nL) (cap := cf) (o' := i * 3) (i : Int) 0 L (tnB f.1 at_, f.2) (.slice B3 n3 d3) [.slice B3 n3 d3] [.slice A1 n1 c1, .slice A2 n2 c2, .int .i64 sn] (fun _ => True) (fun k => k ≠ gr) ?s1 ?s2 ?s3 rfl sl_size ?s4 ?s10 ?s5 ?s6 rfl ?s7 (show 0 + 1 ≤ 3 by omega) ?s9 (fun _ hk => ⟨trivial, hk⟩) (Below.refl _ _) ?_
         (case s1 => first | rfl | (go_simp; done)); (case s2 => rw [Int.toNat_natCast]; rfl); (case s3 => first | rfl | (go_simp; done)); (case s4 => intro q hq; simp at hq; subst hq; rfl); (case s10 => rw [HNL.out]; exact (HC.out.below HB3.out).row); (case s5 => omega); (case s6 => omega)
         (case s7 =>
           intro q u hu
           have e := HB3.out.cell (p := ⟨gr, (i : Int).toNat * 3 + q, none⟩) hgr4
           rw [Int.toNat_natCast] at e
           refine e.trans ?_
           obtain ⟨e0, e1, e2⟩ := HF12.out
           match q, hu with
           | 0, hu => injection hu with hu; subst hu; exact e0
           | 1, hu => injection hu with hu; subst hu; exact e1
           | 2, hu => injection hu with hu; subst hu; exact e2
           | q + 3, hu => simp at hu)
         (case s9 =>
           rw [HN3.out, HN2.out, HSN.out]
           refine ⟨[.slice B3 (tnB f.1 at_).length d3], [.slice A2 f.2.1.length c2, .int .i64 f.2.2], rfl, ⟨_, rfl, ?_⟩, [.slice A2 f.2.1.length c2], [.int .i64 f.2.2], rfl, ⟨_, rfl, ?_⟩, rfl⟩
           · exact Kd.R_lower (Kd.R_mono (Kd.R_bound (by rw [← HN3.out]; exact HO3.out)) (fun k ok e => by have := ok.2.1; have := HZ2.out; omega)) (by have := HC.out.low; have := HC.out.lt; have := HZ2.out; omega)
           · exact Kd.R_mono (Kd.R_below HR2.out HB3.out) (fun k ok => ok.2))
         intro w4 ho hb4 hg4; have HW := Aside0.mk (And.intro ho hg4); clear ho hb4 hg4 hc3)
      | (go_at_call 37; refine HHAS.out.mono ?_; rintro e w1 ⟨rfl, rfl⟩)
      | (go_at_call 47; refine HOF.out.mono ?_; rintro e w1 ⟨v1, rfl, hr1, hb1⟩; obtain ⟨B1, d1, q1⟩ := Kd.R_slice hr1; subst q1; have HO1 := Aside0.mk hr1; have HB1 := Aside0.mk hb1; clear hr1 hb1 hc2 hf0)
      | (go_at_call 46; have hT := bits_Turn.calls _ B1 d1 (ofl f.1) At ct at_ _ w1 (Kd.R_reads' HO1.out).2.2 (Kd.R_reads' HO1.out).2.1 (Kd.C_below HAT.out.1 HB1.out) HAT.out.2 HTF.out; rw [← HNA.out] at hT; refine hT.mono ?_; rintro e w2 ⟨v2, rfl, hr2, hb2⟩; clear hT; obtain ⟨B2, d2, q2⟩ := Kd.R_slice hr2; subst q2; have HO2 := Aside0.mk hr2; have HB2 := Aside0.mk (below_step HB1.out hb2); clear hr2 hb2 HO1 HB1)
      | (go_at_call 45; refine (bits_Bytes.calls _ B2 d2 (turned (ofl f.1) at_) _ 0 w2 (Kd.R_reads' HO2.out).2.2 (Kd.R_reads' HO2.out).2.1 HBF.out).mono ?_; rintro e w3 ⟨v3, rfl, hr3, hb3⟩; obtain ⟨B3, d3, q3⟩ := Kd.R_slice hr3; obtain ⟨n3, hn3⟩ : ∃ n3, n3 = (tnB f.1 at_).length := ⟨_, rfl⟩; change v3 = Value.slice B3 (tnB f.1 at_).length d3 at q3; rw [← hn3] at q3; subst q3; have HO3 := Aside0.mk hr3; have HB3 := Aside0.mk (below_step HB2.out hb3); have hc3 : w3.cell? ⟨g, 2, none⟩ = some (.slice (some ⟨gr, 0, none⟩) nL cf) := by rw [HNL.out]; exact blk_cell (HC.out.below HB3.out).blk 2
         have HN3 := Aside0.mk hn3; have HZ2 := Aside0.mk HB2.out.size; clear hr3 hb3 HO2 HB2 hn3)
      | fail)
    go_ret
    rw [Int.toNat_natCast] at HW
    obtain ⟨ho, hg4⟩ := HW.out
    have hbg := (hg4.block g (by have := HC.out.lt; have := HB3.out.size; omega) (fun e => hgne (by injection e))).trans (HC.out.below HB3.out).blk
    refine ⟨by simp, _, ⟨?_, ho, HC.out.low⟩, (Fr.of_below HB3.out).seq ⟨hg4.os, hg4.tape, hg4.output, hg4.size, fun k hk _ hv => hg4.block k hk (by simpa [Value.ownBlock] using hv)⟩, Newer.refl _ _⟩
    rw [hbg, HNL.out]
  · have e0 : hasE L.length k = 9 := by unfold hasE at hh ⊢; split; simp_all; rfl
    have e2 : tnL k at_ L = L := by unfold tnL; rw [if_neg hh]
    rw [e2, e0]
    rw [e0] at HHAS
    have HC := Aside0.mk h
    clear h hh e0 e2 hs h5 hat hct ha
    go_enter Try.func27, Try.ntmps27
    go_wp2_with (go_at_call 37; refine HHAS.out.mono ?_; rintro e w1 ⟨rfl, rfl⟩)
    go_ret
    exact ⟨by simp, _, HC.out, Fr.refl _ _ _, Newer.refl _ _⟩
end Go.Proofs.Ytfplmoeahbjfmaa.P

-- YtfplmoeahbjfmaaPStr
namespace Go.Proofs.Ytfplmoeahbjfmaa.P
open Go.RowKit Go.Proofs.YtfplmoeahbjfmaaW.PrintWords Go.Proofs.YtfplmoeahbjfmaaW.PrintLast Go.Proofs.YtfplmoeahbjfmaaW.PrintMore

theorem toList_loop (b : ByteArray) (d : Nat) : ∀ (i : Nat) (r : List UInt8), i + d = b.size → ByteArray.toList.loop b i r = r.reverse ++ b.data.toList.drop i := by
  induction d with
  | zero =>
    intro i r hi
    unfold ByteArray.toList.loop
    have hs : b.data.toList.length = b.size := by rw [Array.length_toList]; rfl
    rw [if_neg (by omega), List.drop_eq_nil_of_le (by omega), List.append_nil]
  | succ d ih =>
    intro i r hi
    unfold ByteArray.toList.loop
    have hs : b.data.toList.length = b.size := by rw [Array.length_toList]; rfl
    rw [if_pos (by omega), ih (i + 1) _ (by omega), List.reverse_cons, List.append_assoc, drop_cons b.data.toList i (by omega)]
    congr 1
    show [b.get! i] ++ _ = _
    rw [show b.get! i = b.data.toList[i]'(by omega) from by
      show b.data[i]! = _
      have h : i < b.data.size := by rw [← Array.length_toList]; omega
      rw [getElem!_pos b.data i h]; simp]
    rfl
theorem toList_data (b : ByteArray) : b.toList = b.data.toList := by
  unfold ByteArray.toList
  rw [toList_loop b b.size 0 [] (by omega)]; simp
theorem str_list (l : List Int) : (strOfNums l).toList = l.map fun n => UInt8.ofNat n.toNat := by
  rw [toList_data, strOfNums_data]
theorem str_inj : ∀ {a b : List Int}, (∀ x ∈ a, 0 ≤ x ∧ x ≤ 255) → (∀ x ∈ b, 0 ≤ x ∧ x ≤ 255) → (strOfNums a).toList = (strOfNums b).toList → a = b
  | [], [], _, _, _ => rfl
  | [], _ :: _, _, _, h => by rw [str_list, str_list] at h; cases h
  | _ :: _, [], _, _, h => by rw [str_list, str_list] at h; cases h
  | x :: a, y :: b, ha, hb, h => by
    rw [str_list, str_list] at h
    simp only [List.map_cons, List.cons.injEq] at h
    have h1 := ha x List.mem_cons_self
    have h2 := hb y List.mem_cons_self
    have e : x = y := by
      have := congrArg UInt8.toNat h.1
      rw [UInt8.toNat_ofNat', UInt8.toNat_ofNat'] at this
      omega
    rw [e, str_inj (fun z hz => ha z (List.mem_cons_of_mem _ hz)) (fun z hz => hb z (List.mem_cons_of_mem _ hz)) (by rw [str_list, str_list]; exact h.2)]
theorem str_beq {a b : List Int} (ha : ∀ x ∈ a, 0 ≤ x ∧ x ≤ 255) (hb : ∀ x ∈ b, 0 ≤ x ∧ x ≤ 255) : ((strOfNums a).toList == (strOfNums b).toList) = decide (a = b) := by
  by_cases h : a = b
  · subst h; simp
  · rw [decide_eq_false h]
    exact beq_eq_false_iff_ne.2 fun e => h (str_inj ha hb e)

end Go.Proofs.Ytfplmoeahbjfmaa.P

-- YtfplmoeahbjfmaaPDTurn
namespace Go.Proofs.Ytfplmoeahbjfmaa.P
open Go Go.Proofs Go.RowKit Go.Shelf Go.Proofs.YtfplmoeahbjfmaaW.PrintWords Go.Proofs.YtfplmoeahbjfmaaW.PrintLast Go.Proofs.YtfplmoeahbjfmaaW.PrintMore
set_option linter.unusedVariables false
set_option linter.unusedSimpArgs false

variable {w w' w2 : World} {n₀ g h : Nat} {age now : Int} {v v' vd : Value} {L L' : List Fl}
theorem bytesOf_str {b : List Int} (hb : ∀ x ∈ b, 0 ≤ x ∧ x ≤ 255) : bytesOf (strOfNums b) = b := by
  unfold bytesOf
  rw [strOfNums_data, List.map_map]
  conv => rhs; rw [← List.map_id b]
  refine List.map_congr_left fun x hx => ?_
  have h := hb x hx
  show ((UInt8.ofNat x.toNat).toNat : Int) = x
  rw [UInt8.toNat_ofNat']
  omega
theorem str_size (b : List Int) : (strOfNums b).size = b.length := by
  rw [← data_length, strOfNums_data, List.length_map]
theorem st_size : (Try.prog.info? 9).map (·.size) = some 1 := by kernel_rfl

set_option maxRecDepth 100000 in
set_option maxHeartbeats 8000000 in
theorem dturn_calls (d : DS w n₀ h age now v L) (k : Int) (At : Option Addr) (ct : Nat) (at_ : List Int) (hat : Kd.C (Kd.int .i64) w At at_.length at_) (hct : at_.length ≤ ct) (ha : at_.length ≤ 20) (hs : Small L) (h5 : L.length ≤ 5000) :
    Calls Try.prog 33 #[.pointer (some ⟨h, 0, none⟩), .int .i64 k, .slice At at_.length ct] w fun e w' => e = .returned (.int .i64 (hasE L.length k)) ∧ ∃ v', DS w' n₀ h age now v' (tnL k at_ L) ∧ Fr h v w w' ∧ Newer w v v' := by
  have HHAS := Aside0.mk (dhas_calls d k)
  by_cases hh : hasE L.length k = 0
  · have hk : 0 ≤ k ∧ k < L.length := by unfold hasE at hh; split at hh; assumption; omega
    have hE : decide (hasE L.length k = 0) = true := decide_eq_true hh
    obtain ⟨i, rfl⟩ := Int.eq_ofNat_of_zero_le hk.1
    have hil : i < L.length := by omega
    rw [hE] at HHAS
    obtain ⟨Af, cf, e⟩ := d.slice
    obtain ⟨f, hLi⟩ : ∃ f, L[i]? = some f := ⟨_, List.getElem?_eq_getElem hil⟩
    have hfe : L.getD i ([], [], 0) = f := by rw [List.getD_eq_getElem?_getD, hLi]; rfl
    have e2 : tnL (i : Int) at_ L = L.set i (tnB f.1 at_, f.2) := by unfold tnL; rw [if_pos hh, Int.toNat_natCast, hfe]
    rw [e2, hh]
    have hsf := hs f (List.mem_of_getElem? hLi)
    have hc2 : w.cell? ⟨h, 2, none⟩ = some v := blk_cell d.blk 2
    have hOF := rof_f f.1 hsf.1.1 (by have := hsf.1.2; omega) (10 * f.1.length + 1) (by omega)
    have hlo : (ofl f.1).length ≤ 240 := by rw [ofl_length]; have := hsf.1.2; omega
    have hTF := turn_f (ofl f.1) at_ (by omega) (by omega) ((at_.length + 2) * (ofl f.1).length + 1) (by omega)
    have hBF := rbytes_f (turned (ofl f.1) at_) (turned_bit (ofl_bits f.1) at_) (by rw [turned_length]; omega) (10 * (turned (ofl f.1) at_).length + 21) (by omega)
    rw [turned_length (ofl f.1) at_, ofl_length] at hBF
    have HOF := Aside0.mk hOF
    have HTF := Aside0.mk hTF
    have HBF := Aside0.mk hBF
    have HAT := Aside0.mk (And.intro hat hct)
    have HD := Aside0.mk d
    have HSF := Aside0.mk hsf
    have HLI := Aside0.mk hLi
    obtain ⟨nL, hnL⟩ : ∃ nL, nL = L.length := ⟨_, rfl⟩
    rw [← hnL] at hil e
    rw [e] at hc2
    have HE := Aside0.mk e
    have hn5 : nL ≤ 5000 := by rw [hnL]; exact h5
    have HNL := Aside0.mk hnL
    obtain ⟨na, hna⟩ : ∃ na, na = at_.length := ⟨_, rfl⟩
    rw [← hna]
    have HNA := Aside0.mk hna
    have hhl : h < w.heap.size := d.lt
    have HSB := Aside0.mk (show ∀ w', Below w.heap.size w w' → w'.cell? ⟨h, 2, none⟩ = some (.slice Af nL cf) from fun w' hb => (hb.cell (p := ⟨h, 2, none⟩) hhl).trans hc2)
    have HCR := Aside0.mk (fun w' (hb : Below w.heap.size w w') => (Kd.R_reads' (show Kd.R kDf 61 w' n₀ (fun _ => True) (.slice Af L.length cf) L from (by have hx := Kd.R_below d.row hb; rw [e, hnL] at hx; exact hx))).2.2)
    clear d hnL hna hLi hfe hs hk e2 hsf hh h5 hOF hTF hBF hat hct ha hlo e hE hhl
    go_enter Try.func33, Try.ntmps33
    go_wp2_with (first
      | (go_at_call 48; refine HHAS.out.mono ?_; rintro e w1 ⟨rfl, rfl⟩)
      | ((with_reducible refine gate_ (.buildSlice 55 0 #[]) rfl ?_); refine Kd.R_lit kDf (w0 := w) w.heap.size 61 ?hg (N := 12) ?hd (xs := ([] : List Fl)) (inner := []) (ok := fun _ => True) (okp := fun _ => True) ?hr ?hp (fun _ hk => hk) trivial (Below.refl _ _) (Nat.le_refl _) (by simp) ?_; (case hd => rfl); (case hg => rfl); (case hr => first | (go_simp; done) | (go_simp; rfl)); (case hp => exact Reps.none _ _)
         intro v16 w3 ho hb hg hn; have H16 := Aside0.mk ho; have HB := Aside0.mk hb; have hc3 := HSB.out _ hb; clear ho hb hg hn hc2
         obtain ⟨A16, c16, e16⟩ := Kd.R_slice H16.out
         subst e16)
      | ((with_reducible refine gate_builtin (b := .append) (xs := #[.tmp 12, .tmp 16]) (ts := #[55, 55]) rfl ?_); refine Kd.R_append_rows kDf (w0 := w) w.heap.size (by rfl) (.tmp 12) (.tmp 16) 55 61 (.agg #[.string ⟨#[]⟩, .string ⟨#[]⟩, .int .i64 0]) 40 rfl Try.underlying55 df_info rfl (by decide) (by omega) (.slice A16 ([] : List Fl).length c16) [] L Af nL cf (fun _ => True) (fun _ => False) (by first | rfl | (go_simp; done)) (by first | rfl | (go_simp; done)) H16.out (by rw [HNL.out]; exact HCR.out _ HB.out) (fun f cs hk => kDf_KM f cs hk) (fun _ hk => hk.elim) (fun _ _ => trivial) HB.out HB.out.size (by simp only [List.length_nil]; omega) ?_
         intro v21 w4 ho hb hg hat
         rw [List.nil_append] at ho
         obtain ⟨gl, cl, el, hgl1, hgl2, cells4, hcl4⟩ := Kd.R_form ho (by have := HNL.out; omega)
         rw [← HNL.out] at el
         subst el
         obtain ⟨f', hf', hf0, hf1, hf2⟩ := df_get ho i hil
         rw [HLI.out] at hf'
         injection hf' with hf'
         subst hf'
         obtain ⟨s1, hs1⟩ : ∃ s1, s1 = strOfNums f.1 := ⟨_, rfl⟩
         rw [← hs1] at hf0
         have hz : s1.size = f.1.length := by rw [hs1]; exact str_size _
         have hbo : bytesOf s1 = f.1 := by rw [hs1]; exact bytesOf_str HSF.out.1.1
         have hrd := bytes_reads w4 5 s1 (by rw [hz]; have := HSF.out.1.2; omega)
         have hbb := bytes_below (Below.refl w4.heap.size w4) (Nat.le_refl _) 5 s1
         have hkb := print_bytes (P := Try.prog) 9 31 5 Try.underlying9 Try.underlying31 Try.underlying5 s1 w4
         have hge := grownCap_ge w4 s1.size 0 5
         obtain ⟨cb, hcb⟩ : ∃ cb, cb = grownCap w4 s1.size 0 5 := ⟨_, rfl⟩
         obtain ⟨w5, hw5⟩ : ∃ w5, w5 = Lib.bytesWorld w4 5 s1 := ⟨_, rfl⟩
         obtain ⟨B0, hB0⟩ : ∃ B0, B0 = w4.heap.size := ⟨_, rfl⟩
         rw [hbo, ← hw5, ← hB0, hz] at hrd
         rw [← hw5] at hbb
         rw [← hcb, ← hw5, ← hB0, hz] at hkb
         rw [← hcb, hz] at hge
         have hO := shuttleref01_Of.calls _ (some ⟨B0, 0, none⟩) cb f.1 (ofl f.1) w5 (Kd.C_of_reads (d := (0 : Int)) (h1 := fun _ => rfl) hrd) hge HOF.out
         obtain ⟨n1, hn1⟩ : ∃ n1, n1 = f.1.length := ⟨_, rfl⟩
         rw [← hn1] at hkb hO
         have HO := Aside0.mk hO
         have H21 := Aside0.mk ho
         have H12 := Aside0.mk (And.intro (hf0.trans (by rw [hs1])) (And.intro hf1 hf2))
         have n0 := Aside0.mk hb
         have HB45 := Aside0.mk (below_step hb hbb)
         have HBB := Aside0.mk hbb
         have HHC := Aside0.mk hcl4
         clear HB ho hb hg hat H16 hc3 hf1 hf2 hrd hbb hge hO hcb hw5 hB0 hz hbo hs1 hn1 hcl4
         have HB := n0
         clear n0)
      | (go_at_call 51; refine HO.out.mono ?_; rintro e w6 ⟨v1, rfl, hr1, hb1⟩; obtain ⟨B1, d1, q1⟩ := Kd.R_slice hr1; subst q1; have HO1 := Aside0.mk hr1; have HB1 := Aside0.mk (below_step HB45.out hb1); have HBI := Aside0.mk (below_step HBB.out hb1); clear hr1 hb1 hf0 hkb)
      | (go_at_call 50; have hT := shuttleref01_Turn.calls _ B1 d1 (ofl f.1) At ct at_ _ w6 (Kd.R_reads' HO1.out).2.2 (Kd.R_reads' HO1.out).2.1 (Kd.C_below HAT.out.1 HB1.out) HAT.out.2 HTF.out; rw [← HNA.out] at hT; refine hT.mono ?_; rintro e w7 ⟨v2, rfl, hr2, hb2⟩; clear hT; obtain ⟨B2, d2, q2⟩ := Kd.R_slice hr2; subst q2; have HO2 := Aside0.mk hr2; have HB2 := Aside0.mk (below_step HB1.out hb2); have HBI2 := Aside0.mk (below_step HBI.out hb2); clear hr2 hb2 HO1 HB1 HBI)
      | (go_at_call 49; refine (shuttleref01_Bytes.calls _ B2 d2 (turned (ofl f.1) at_) _ w7 (Kd.R_reads' HO2.out).2.2 (Kd.R_reads' HO2.out).2.1 HBF.out).mono ?_; rintro e w8 ⟨v3, rfl, hr3, hb3⟩; change Kd.R (Kd.int .u8) 5 w8 w7.heap.size (fun _ => True) v3 (tnB f.1 at_) at hr3; obtain ⟨B3, d3, q3⟩ := Kd.R_slice hr3; obtain ⟨n3, hn3⟩ : ∃ n3, n3 = (tnB f.1 at_).length := ⟨_, rfl⟩; rw [← hn3] at q3; subst q3
         have hcv := Kd.C_string (P := Try.prog) (src := 31) (dst := 9) (e := 5) (c := d3) Try.underlying31 Try.underlying5 Try.underlying9 (Kd.R_reads' hr3).2.2
         rw [← hn3] at hcv
         obtain ⟨s3, hs3⟩ : ∃ s3, s3 = strOfNums (tnB f.1 at_) := ⟨_, rfl⟩
         rw [← hs3] at hcv
         have HS3 := Aside0.mk hs3
         have HB3 := Aside0.mk (below_step HB2.out hb3); have HBI3 := Aside0.mk (below_step HBI2.out hb3); clear hr3 hb3 HO2 HB2 HBI2 hn3 hs3)
      | ((with_reducible refine gate_ (.store 9 (.tmp 32) (.tmp 30)) rfl ?_); refine Kd.R_store kDf (w0 := w) w.heap.size rfl rfl 9 (.tmp 32) (.tmp 30) rfl 61 (g := gl) (n := nL) (cap := cl) (o' := i * 3) (i : Int) 0 L (tnB f.1 at_, f.2) (.string s3) [.string s3] [.string (strOfNums f.1), .string (strOfNums f.2.1), .int .i64 f.2.2] (fun _ => True) (fun k => k ≠ gl) ?s1 ?s2 ?s3 rfl st_size ?s4 ?s10 ?s5 ?s6 rfl ?s7 (show 0 + 1 ≤ 3 by omega) ?s9 (fun _ hk => ⟨trivial, hk⟩) HB3.out ?_
         (case s1 => first | rfl | (go_simp; done)); (case s2 => rw [Int.toNat_natCast]; rfl); (case s3 => first | rfl | (go_simp; done)); (case s4 => intro q hq; simp at hq; subst hq; rfl); (case s10 => rw [HNL.out]; rw [HNL.out] at H21; exact Kd.R_below H21.out HBI3.out); (case s5 => omega); (case s6 => omega)
         (case s7 =>
           intro q u hu
           have e := HBI3.out.cell (p := ⟨gl, (i : Int).toNat * 3 + q, none⟩) hgl2
           rw [Int.toNat_natCast] at e
           refine e.trans ?_
           obtain ⟨e0, e1, e2⟩ := H12.out
           match q, hu with
           | 0, hu => injection hu with hu; subst hu; exact e0
           | 1, hu => injection hu with hu; subst hu; exact e1
           | 2, hu => injection hu with hu; subst hu; exact e2
           | q + 3, hu => simp at hu)
         (case s9 => rw [HS3.out]; exact kDf_M (tnB f.1 at_, f.2))
         intro w9 ho hb9 hg9; have HW := Aside0.mk ho; have HB9 := Aside0.mk hb9; have hc9 := HSB.out _ hb9; have hfz := blk_frozen ((hb9.block h HD.out.lt).trans HD.out.blk) 2; clear ho hb9 hg9 hcv)
      | fail)
    rw [Int.toNat_natCast] at HW
    obtain ⟨h1, h2, h3⟩ := HD.out.rowed (L' := L.set i (tnB f.1 at_, f.2)) (w2 := w9) (v' := .slice (some ⟨gl, 0, none⟩) nL cl) (Kd.R_lower HW.out (by have := HD.out.low; have := HD.out.lt; omega)) (grownBy_below HB9.out) (.inr (.inl ⟨gl, rfl, hgl1⟩))
    generalize (w9.setCell ⟨h, 2, none⟩ (.slice (some ⟨gl, 0, none⟩) nL cl)) = wF at h1 h2 h3 ⊢
    go_ret
    exact ⟨by simp, _, h1, h2, h3⟩
  · have e2 : tnL k at_ L = L := by unfold tnL; rw [if_neg hh]
    have e0 : hasE L.length k = 9 := by unfold hasE at hh ⊢; split; simp_all; rfl
    have hE : decide (hasE L.length k = 0) = false := decide_eq_false hh
    rw [e2, e0]
    rw [hE] at HHAS
    have HD := Aside0.mk d
    clear d hh e0 e2 hs h5 hat hct ha hE
    go_enter Try.func33, Try.ntmps33
    go_wp2_with (go_at_call 48; refine HHAS.out.mono ?_; rintro e w1 ⟨rfl, rfl⟩)
    go_ret
    exact ⟨by simp, _, HD.out, Fr.refl _ _ _, Newer.refl _ _⟩
end Go.Proofs.Ytfplmoeahbjfmaa.P

-- YtfplmoeahbjfmaaPCNil
namespace Go.Proofs.Ytfplmoeahbjfmaa.P
open Go Go.Proofs Go.RowKit Go.Shelf Go.Proofs.YtfplmoeahbjfmaaW.PrintWords Go.Proofs.YtfplmoeahbjfmaaW.PrintLast Go.Proofs.YtfplmoeahbjfmaaW.PrintMore
set_option linter.unusedVariables false
set_option linter.unusedSimpArgs false

theorem none_calls (w : World) : Calls Try.prog 24 #[] w fun e w' => e = .returned (.pointer none) ∧ w = w' := by
  go_enter Try.func24, Try.ntmps24
  go_wp2
  go_ret
  exact ⟨by simp, rfl⟩
theorem hasN_calls (w : World) (k : Int) : Calls Try.prog 37 #[.pointer none, .int .i64 k] w fun e w' => e = .returned (.int .i64 1) ∧ w = w' := by
  go_enter Try.func37, Try.ntmps37
  go_wp2
  go_ret
  exact ⟨by simp, rfl⟩
theorem lenN_calls (w : World) : Calls Try.prog 14 #[.pointer none] w fun e w' => e = .returned (.int .i64 0) ∧ w = w' := by
  go_enter Try.func14, Try.ntmps14
  go_wp2
  go_ret
  exact ⟨by simp, rfl⟩
theorem nowN_calls (w : World) : Calls Try.prog 28 #[.pointer none] w fun e w' => e = .returned (.int .i64 0) ∧ w = w' := by
  go_enter Try.func28, Try.ntmps28
  go_wp2
  go_ret
  exact ⟨by simp, rfl⟩
theorem putN_calls (w : World) : Calls Try.prog 12 #[.pointer none, .slice none 0 0] w fun e w' => e = .returned (.tuple #[]) ∧ w = w' := by
  go_enter Try.func12, Try.ntmps12
  go_wp2
  refine bodyPost_end (results_none rfl _ _ _) rfl ?_
  exact ⟨by simp, rfl⟩
theorem twiceN_calls (w : World) (k : Int) : Calls Try.prog 15 #[.pointer none, .int .i64 k] w fun e w' => e = .returned (.int .i64 1) ∧ w = w' := by
  go_enter Try.func15, Try.ntmps15
  go_wp2_with (go_at_call 37; refine (hasN_calls _ _).mono ?_; rintro e w1 ⟨rfl, rfl⟩)
  go_ret
  exact ⟨by simp, rfl⟩
theorem turnN_calls (w : World) (k : Int) : Calls Try.prog 27 #[.pointer none, .int .i64 k, .slice none 0 0] w fun e w' => e = .returned (.int .i64 1) ∧ w = w' := by
  go_enter Try.func27, Try.ntmps27
  go_wp2_with (go_at_call 37; refine (hasN_calls _ _).mono ?_; rintro e w1 ⟨rfl, rfl⟩)
  go_ret
  exact ⟨by simp, rfl⟩
set_option maxHeartbeats 4000000 in
theorem stepN_calls (w : World) : Calls Try.prog 13 #[.pointer none] w fun e w' => e = .returned (.int .i64 0) ∧ Below w.heap.size w w' := by
  have hb := below_alloc (Below.refl w.heap.size w) (.cells #[.pointer none] 24)
  have hcb : (w.alloc (.cells #[.pointer none] 24)).cell? ⟨w.heap.size, 0, none⟩ = some (.pointer none) := blk_cell (blk_new w (.cells #[.pointer none] 24)) 0
  have HB := Aside0.mk hb
  clear hb
  go_enter Try.func13, Try.ntmps13
  go_wp2
  go_ret
  exact ⟨by simp, HB.out⟩
set_option maxHeartbeats 4000000 in
theorem takeN_calls (w : World) (k : Int) : Calls Try.prog 25 #[.pointer none, .int .i64 k] w fun e w' => e = .returned (.tuple #[.agg #[.slice none 0 0, .slice none 0 0, .int .i64 0], .int .i64 1]) ∧ Below w.heap.size w w' := by
  have hba := below_alloc (Below.refl w.heap.size w) (.cells #[.slice none 0 0, .slice none 0 0, .int .i64 0] 50)
  have b4 : (w.alloc (.cells #[.slice none 0 0, .slice none 0 0, .int .i64 0] 50)).heap[w.heap.size]? = some (.cells #[.slice none 0 0, .slice none 0 0, .int .i64 0] 50 (0, 0)) := blk_new _ _
  have hd0 : (w.alloc (.cells #[.slice none 0 0, .slice none 0 0, .int .i64 0] 50)).cell? ⟨w.heap.size, 0, none⟩ = some (.slice none 0 0) := blk_cell b4 0
  have hd1 : (w.alloc (.cells #[.slice none 0 0, .slice none 0 0, .int .i64 0] 50)).cell? ⟨w.heap.size, 1, none⟩ = some (.slice none 0 0) := blk_cell b4 1
  have hd2 : (w.alloc (.cells #[.slice none 0 0, .slice none 0 0, .int .i64 0] 50)).cell? ⟨w.heap.size, 2, none⟩ = some (.int .i64 0) := blk_cell b4 2
  have hfz := fun q => blk_frozen b4 q
  have HBA := Aside0.mk hba
  clear hba b4
  go_enter Try.func25, Try.ntmps25
  go_wp2_with (go_at_call 37; refine (hasN_calls _ _).mono ?_; rintro e w1 ⟨rfl, rfl⟩)
  refine bodyPost_ret (v := .tuple #[.agg #[.slice none 0 0, .slice none 0 0, .int .i64 0], .int .i64 1]) ?_ rfl ?_
  · simp [results, Try.results25, go_sem, hd0, hd1, hd2]
  · exact ⟨by simp, HBA.out⟩
set_option maxHeartbeats 4000000 in
theorem loseN_calls (w : World) (k : Int) : Calls Try.prog 26 #[.pointer none, .int .i64 k] w fun e w' => e = .returned (.int .i64 1) ∧ Below w.heap.size w w' := by
  go_enter Try.func26, Try.ntmps26
  go_wp2_with (go_at_call 25; refine (takeN_calls _ _).mono ?_; rintro e w1 ⟨rfl, hb⟩; have HB := Aside0.mk hb; clear hb)
  go_ret
  exact ⟨by simp, below_step HB.out (below_alloc (Below.refl _ _) _)⟩
end Go.Proofs.Ytfplmoeahbjfmaa.P

-- YtfplmoeahbjfmaaPCPutB
namespace Go.Proofs.Ytfplmoeahbjfmaa.P
open Go Go.Proofs Go.RowKit Go.Shelf Go.Proofs.YtfplmoeahbjfmaaW.PrintWords Go.Proofs.YtfplmoeahbjfmaaW.PrintLast Go.Proofs.YtfplmoeahbjfmaaW.PrintMore
set_option linter.unusedVariables false
set_option linter.unusedSimpArgs false

variable {n₀ g : Nat} {age now : Int} {v : Value} {L : List Fl}
def putb1.T : Bool × List (List Nat × List Nat) := (true, [([], []), ([], []), ([1], [1]), ([2], [2]), ([3], [3]), ([], []), ([5], [5]), ([], []), ([7, 6], [7]), ([], []), ([9], [9]), ([10], [10]), ([11], [11]), ([6, 8, 12], [6, 8, 12]), ([13], [13]), ([4, 14, 8], [4, 14]), ([0, 0, 1, 2, 3, 4, 5, 6, 7, 8, 9, 10, 11, 12, 13, 14, 15], [0]), ([16, 0, 1, 2, 3, 4, 5, 6, 7, 8, 9, 10, 11, 12, 13, 14, 15], [16]), ([17, 15, 15, 0, 1, 2, 3, 4, 5, 6, 7, 8, 9, 10, 11, 12, 13, 14, 15], [15, 17])])
def putb1.B : List Nat := [0, 0, 2, 6, 14, 0, 32, 0, 224, 0, 512, 1536, 3584, 8160, 16352, 32766, 65535, 131071, 262143]
theorem putb1.tab : rtab .any (opsOf Try.f12 1) = putb1.T := by kernel_rfl
theorem putb1.bits : waitsOk putb1.T.2 putb1.B = true := by kernel_rfl
set_option maxRecDepth 100000 in
set_option maxHeartbeats 8000000 in
theorem putb_calls {w : World} {B : Nat} (h : CS w n₀ g age now v L) (hB : Kd.R kFl 50 w n₀ (fun k => k ≠ B) v L) (hBw : B < w.heap.size) (A : Option Addr) (c : Nat) (b : List Int) (hr : Kd.C (Kd.int .u8) w A b.length b) (hc : b.length ≤ c) (hb : b.length ≤ 100000) :
    Calls Try.prog 12 #[.pointer (some ⟨g, 0, none⟩), .slice A b.length c] w fun e w' => e = .returned (.tuple #[]) ∧ ∃ v', CS w' n₀ g age now v' (putC now b L) ∧ Fr g v w w' ∧ Newer w v v' ∧ Kd.R kFl 50 w' n₀ (fun k => k ≠ B) v' (putC now b L) := by
  obtain ⟨Af, cf, e⟩ := h.slice
  subst e
  have hc2 : w.cell? ⟨g, 2, none⟩ = some (.slice Af L.length cf) := blk_cell h.blk 2
  by_cases hlt : L.length < 4096
  · have e0 : putC now b L = L ++ [(b, b, now)] := by unfold putC; rw [if_pos hlt]
    rw [e0]
    have hlb : decide ((L.length : Int) < 4096) = true := decide_eq_true (by omega)
    have hbd : Below w.heap.size w w.drew := below_drew1 (Below.refl _ _)
    have HC := Aside0.mk (h.below hbd)
    have HBR := Aside0.mk (Kd.R_below hB hbd)
    have HBW := Aside0.mk hBw
    have HR := Aside0.mk (Kd.C_below hr hbd)
    have HF := Aside0.mk hbd
    obtain ⟨nL, hnL⟩ : ∃ nL, nL = L.length := ⟨_, rfl⟩
    rw [← hnL] at hc2 hlb ⊢
    have HNL := Aside0.mk hnL
    have HS := Aside0.mk (show w.drew.cell? ⟨g, 2, none⟩ = some (.slice Af nL cf) ∧ w.drew.cell? ⟨g, 1, none⟩ = some (.int .i64 now) from ⟨hc2, blk_cell h.blk 1⟩)
    have HLT := Aside0.mk hlt
    obtain ⟨nb, hnb⟩ : ∃ nb, nb = b.length := ⟨_, rfl⟩
    have HNB := Aside0.mk hnb
    rw [← hnb] at hc ⊢
    clear h hr hbd hnL hlt hnb hB hBw
    go_enter Try.func12, Try.ntmps12
    go_wp2_with fail
    clear hc2
    have HB := Aside0.mk (Below.refl w.drew.heap.size w.drew)
    refine start_ (n := 19) (S := (fun w' => w'.cell? ⟨g, 2, none⟩ = some (.slice Af nL cf) ∧ w'.cell? ⟨g, 1, none⟩ = some (.int .i64 now))) (ds := [18]) #[false, false, false, false, false, false, false, false, false, false, false, false, false, false, false, false, false, false, false] (by kernel_rfl) rfl rfl HS.out (fun hHeld => ?_)
    refine with_tabW putb1.tab putb1.bits (fun HT_ HW_ => ?_)
    refine pure_ (i := 0) (N := some 14) (v := ?_) (a' := ?_) #[true, false, false, false, false, false, false, false, false, false, false, false, false, false, false, false, false, false, false] rfl rfl (any_of HT_.out (by kernel_rfl)) (fun _ _ _ h => h) (Or.inl ⟨by rfl, ?_⟩) ?_ ?_
    rotate_left
    · intro w'
      go_simp
      with_reducible rfl
    rotate_left
    · simp only [Act.put, List.setIfInBounds_toArray, List.set_cons_zero, List.set_cons_succ, i64_w, i32_w]
      rfl
    refine pure_ (i := 1) (N := some 15) (v := ?_) (a' := ?_) #[true, true, false, false, false, false, false, false, false, false, false, false, false, false, false, false, false, false, false] rfl rfl (any_of HT_.out (by kernel_rfl)) (fun _ _ _ h => h) (Or.inl ⟨by rfl, ?_⟩) ?_ ?_
    rotate_left
    · intro w'
      go_simp
      with_reducible rfl
    rotate_left
    · simp only [Act.put, List.setIfInBounds_toArray, List.set_cons_zero, List.set_cons_succ, i64_w, i32_w]
      rfl
    refine pure_ (i := 2) (N := some 16) (v := ?_) (a' := ?_) #[true, true, true, false, false, false, false, false, false, false, false, false, false, false, false, false, false, false, false] rfl rfl (any_of HT_.out (by kernel_rfl)) (fun _ _ _ h => h) (Or.inl ⟨by rfl, ?_⟩) ?_ ?_
    rotate_left
    · intro w'
      go_simp
      with_reducible rfl
    rotate_left
    · simp only [Act.put, List.setIfInBounds_toArray, List.set_cons_zero, List.set_cons_succ, i64_w, i32_w]
      rfl
    refine pure_ (i := 3) (N := some 17) (v := ?_) (a' := ?_) #[true, true, true, true, false, false, false, false, false, false, false, false, false, false, false, false, false, false, false] rfl rfl (any_of HT_.out (by kernel_rfl)) (fun _ _ _ h => h) (Or.inl ⟨by rfl, ?_⟩) ?_ ?_
    rotate_left
    · intro w'
      go_simp
      with_reducible rfl
    rotate_left
    · simp only [Act.put, List.setIfInBounds_toArray, List.set_cons_zero, List.set_cons_succ, i64_w, i32_w]
      rfl
    refine take_ (i := 4) (N := some 18) (v := ?_) (a' := ?_) #[true, true, true, true, true, false, false, false, false, false, false, false, false, false, false, false, false, false, false] rfl rfl (take_ofW HT_.out HW_.out (by kernel_rfl)) (fun _ _ _ h => h) (Or.inl ⟨by rfl, ?_⟩) hHeld ?_ ?_
    rotate_left
    · rintro w' ⟨s0, s1⟩
      go_simp
      with_reducible rfl
    rotate_left
    · simp only [Act.put, List.setIfInBounds_toArray, List.set_cons_zero, List.set_cons_succ, i64_w, i32_w]
      rfl
    refine pure_ (i := 5) (N := some 19) (v := ?_) (a' := ?_) #[true, true, true, true, true, true, false, false, false, false, false, false, false, false, false, false, false, false, false] rfl rfl (any_of HT_.out (by kernel_rfl)) (fun _ _ _ h => h) (Or.inl ⟨by rfl, ?_⟩) ?_ ?_
    rotate_left
    · intro w'
      go_simp
      with_reducible rfl
    rotate_left
    · simp only [Act.put, List.setIfInBounds_toArray, List.set_cons_zero, List.set_cons_succ, i64_w, i32_w]
      rfl
    refine pure_ (i := 7) (N := some 21) (v := ?_) (a' := ?_) #[true, true, true, true, true, true, false, true, false, false, false, false, false, false, false, false, false, false, false] rfl rfl (any_of HT_.out (by kernel_rfl)) (fun _ _ _ h => h) (Or.inl ⟨by rfl, ?_⟩) ?_ ?_
    rotate_left
    · intro w'
      go_simp
      with_reducible rfl
    rotate_left
    · simp only [Act.put, List.setIfInBounds_toArray, List.set_cons_zero, List.set_cons_succ, i64_w, i32_w]
      rfl
    refine pure_ (i := 9) (N := some 23) (v := ?_) (a' := ?_) #[true, true, true, true, true, true, false, true, false, true, false, false, false, false, false, false, false, false, false] rfl rfl (any_of HT_.out (by kernel_rfl)) (fun _ _ _ h => h) (Or.inl ⟨by rfl, ?_⟩) ?_ ?_
    rotate_left
    · intro w'
      go_simp
      with_reducible rfl
    rotate_left
    · simp only [Act.put, List.setIfInBounds_toArray, List.set_cons_zero, List.set_cons_succ, i64_w, i32_w]
      rfl
    refine pure_ (i := 10) (N := some 24) (v := ?_) (a' := ?_) #[true, true, true, true, true, true, false, true, false, true, true, false, false, false, false, false, false, false, false] rfl rfl (any_of HT_.out (by kernel_rfl)) (fun _ _ _ h => h) (Or.inl ⟨by rfl, ?_⟩) ?_ ?_
    rotate_left
    · intro w'
      go_simp
      with_reducible rfl
    rotate_left
    · simp only [Act.put, List.setIfInBounds_toArray, List.set_cons_zero, List.set_cons_succ, i64_w, i32_w]
      rfl
    refine pure_ (i := 11) (N := some 25) (v := ?_) (a' := ?_) #[true, true, true, true, true, true, false, true, false, true, true, true, false, false, false, false, false, false, false] rfl rfl (any_of HT_.out (by kernel_rfl)) (fun _ _ _ h => h) (Or.inl ⟨by rfl, ?_⟩) ?_ ?_
    rotate_left
    · intro w'
      go_simp
      with_reducible rfl
    rotate_left
    · simp only [Act.put, List.setIfInBounds_toArray, List.set_cons_zero, List.set_cons_succ, i64_w, i32_w]
      rfl
    refine take_ (i := 12) (N := some 26) (v := ?_) (a' := ?_) #[true, true, true, true, true, true, false, true, false, true, true, true, true, false, false, false, false, false, false] rfl rfl (take_ofW HT_.out HW_.out (by kernel_rfl)) (fun _ _ _ h => h) (Or.inl ⟨by rfl, ?_⟩) hHeld ?_ ?_
    rotate_left
    · rintro w' ⟨s0, s1⟩
      go_simp
      with_reducible rfl
    rotate_left
    · simp only [Act.put, List.setIfInBounds_toArray, List.set_cons_zero, List.set_cons_succ, i64_w, i32_w]
      rfl
    refine one_ (i := 6) (N := some 20) #[true, true, true, true, true, true, true, true, false, true, true, true, true, false, false, false, false, false, false] rfl rfl (one_of HT_.out (by kernel_rfl)) (by decide) (fun K hK => ?_)
    refine goes_ Try.func34 (by kernel_rfl) rfl #[.slice A nb c] (by rfl) rfl rfl (by (try simp only [List.map_toArray, List.map_cons, List.map_nil]); first | done | rfl | (go_simp; done) | simp [Act.eval]) ?_
    have hcl := bytes_Clone.calls A c b b w.drew HR.out (by have := HNB.out; omega) (by unfold bytes_Clone.f; rw [if_pos (by omega)])
    rw [← HNB.out] at hcl
    refine hcl.mono ?_
    rintro e w1 ⟨v20, rfl, hr20, hb1⟩
    clear hcl
    obtain ⟨A20, c20, e20⟩ := Kd.R_slice hr20
    subst e20
    have H20 := Aside0.mk hr20
    have HB1 := Aside0.mk hb1
    have HC1 := Aside0.mk (HC.out.below hb1)
    have HR1 := Aside0.mk (Kd.C_below HR.out hb1)
    clear hr20 hb1
    refine ⟨_, rfl, ?_⟩
    refine hK.out _ _ ⟨by rw [HB1.out.cell (p := ⟨g, 2, none⟩) HC.out.lt]; exact HS.out.1, by rw [HB1.out.cell (p := ⟨g, 1, none⟩) HC.out.lt]; exact HS.out.2⟩ (fun hHeld => ?_)
    clear hK K
    refine norm_ (a' := ?_) ?_ ?_
    rotate_left
    · show Act.put _ (some 20) _ = _
      simp only [Act.put, List.setIfInBounds_toArray, List.set_cons_zero, List.set_cons_succ, i64_w, i32_w]
      rfl
    refine one_ (i := 8) (N := some 22) #[true, true, true, true, true, true, true, true, true, true, true, true, true, false, false, false, false, false, false] rfl rfl (one_of HT_.out (by kernel_rfl)) (by decide) (fun K hK => ?_)
    refine goes_ Try.func34 (by kernel_rfl) rfl #[.slice A nb c] (by rfl) rfl rfl (by (try simp only [List.map_toArray, List.map_cons, List.map_nil]); first | done | rfl | (go_simp; done) | simp [Act.eval]) ?_
    have hcl := bytes_Clone.calls A c b b w1 HR1.out (by have := HNB.out; omega) (by unfold bytes_Clone.f; rw [if_pos (by omega)])
    rw [← HNB.out] at hcl
    refine hcl.mono ?_
    rintro e w2 ⟨v22, rfl, hr22, hb2⟩
    clear hcl
    obtain ⟨A22, c22, e22⟩ := Kd.R_slice hr22
    subst e22
    have H22 := Aside0.mk hr22
    have HB2 := Aside0.mk (below_step HB1.out hb2)
    have HC2 := Aside0.mk (HC1.out.below hb2)
    have H20b := Aside0.mk (Kd.R_below H20.out hb2)
    have HSZ := Aside0.mk hb2.size
    clear hr22 hb2
    refine ⟨_, rfl, ?_⟩
    refine hK.out _ _ ⟨by rw [HB2.out.cell (p := ⟨g, 2, none⟩) HC.out.lt]; exact HS.out.1, by rw [HB2.out.cell (p := ⟨g, 1, none⟩) HC.out.lt]; exact HS.out.2⟩ (fun hHeld => ?_)
    clear hK K
    refine norm_ (a' := ?_) ?_ ?_
    rotate_left
    · show Act.put _ (some 22) _ = _
      simp only [Act.put, List.setIfInBounds_toArray, List.set_cons_zero, List.set_cons_succ, i64_w, i32_w]
      rfl
    refine pure_ (i := 13) (N := some 27) (v := ?_) (a' := ?_) #[true, true, true, true, true, true, true, true, true, true, true, true, true, true, false, false, false, false, false] rfl rfl (any_of HT_.out (by kernel_rfl)) (fun _ _ _ h => h) (Or.inl ⟨by rfl, ?_⟩) ?_ ?_
    rotate_left
    · intro w'
      go_simp
      with_reducible rfl
    rotate_left
    · simp only [Act.put, List.setIfInBounds_toArray, List.set_cons_zero, List.set_cons_succ, i64_w, i32_w]
      rfl
    refine one_ (i := 14) (N := some 28) #[true, true, true, true, true, true, true, true, true, true, true, true, true, true, true, false, false, false, false] rfl rfl (one_of HT_.out (by kernel_rfl)) (by decide) (fun K hK => ?_)
    skip
    refine value_ (w1 := ?_) (v := ?_) (by rfl) rfl ?_ ?_
    rotate_left 2
    · go_simp
      constructor
      · rfl
      · rfl
    refine hK.out _ _ ⟨(blk_cell (blk_alloc HC2.out.blk _) 2).trans (by rw [HNL.out]; rfl), blk_cell (blk_alloc HC2.out.blk _) 1⟩ (fun hHeld => ?_)
    clear hK K
    refine norm_ (a' := ?_) ?_ ?_
    rotate_left
    · show Act.put _ (some 28) _ = _
      simp only [Act.put, List.setIfInBounds_toArray, List.set_cons_zero, List.set_cons_succ, i64_w, i32_w]
      rfl
    refine one_ (i := 15) (N := some 29) #[true, true, true, true, true, true, true, true, true, true, true, true, true, true, true, true, false, false, false] rfl rfl (one_of HT_.out (by kernel_rfl)) (by decide) (fun K hK => ?_)
    refine Kd.R_append_step kFl (w0 := w2) n₀ (by rfl) (.tmp 18) (.tmp 28) 65 50 (.agg #[.slice none 0 0, .slice none 0 0, .int .i64 0]) 56 rfl Try.underlying65 fl_info rfl (by decide) (by omega) (.slice Af L.length cf) L (b, b, now) [.slice A20 b.length c20, .slice A22 b.length c22, .int .i64 now] (fun k => k ≠ B) (fun k => w.drew.heap.size ≤ k) (by first | rfl | (go_simp; done) | (rw [← HNL.out]; first | rfl | (go_simp; done))) (by first | rfl | (go_simp; done) | (go_simp; rfl)) ?_ (fun k hk => ⟨fun e => by subst e; exact Nat.lt_irrefl _ (Nat.lt_of_lt_of_le HBW.out hk), fun e => by have := (HC.out.own k e.symm).2; omega⟩) (fun k hk e => by subst e; exact Nat.lt_irrefl _ (Nat.lt_of_lt_of_le HBW.out (Nat.le_trans HB2.out.size hk))) (Kd.R_below HBR.out HB2.out) (Below.refl _ _) (by have := HC2.out.low; have := HC2.out.lt; omega) (by have := HLT.out; omega) ?_
    · refine ⟨[.slice A20 b.length c20], [.slice A22 b.length c22, .int .i64 now], rfl, ⟨_, rfl, ?_⟩, [.slice A22 b.length c22], [.int .i64 now], rfl, ⟨_, rfl, ?_⟩, rfl⟩
      · exact Kd.R_lower (Kd.R_mono (Kd.R_bound H20b.out) (fun k ok => ok.2.1)) (by have := HC.out.low; have := HC.out.lt; omega)
      · exact Kd.R_lower (Kd.R_mono (Kd.R_bound H22.out) (fun k ok => Nat.le_trans HB1.out.size ok.2.1)) (by have := HC1.out.low; have := HC1.out.lt; omega)
    intro v29 w3 ho hb3 hg3 hat3
    obtain ⟨A29, c29, e29⟩ := Kd.R_slice ho
    obtain ⟨n29, hn29⟩ : ∃ n29, n29 = (L ++ [(b, b, now)]).length := ⟨_, rfl⟩
    rw [← hn29] at e29
    subst e29
    have HBG0 := (hg3.block g HC2.out.lt HC2.out.ne).trans HC2.out.blk
    have HAB := Aside0.mk (Kd.R_set ho HBG0 (by decide) 2 (.slice A29 n29 c29))
    clear HBG0
    have HA := Aside0.mk (HC2.out.rowed (Kd.R_mono ho (fun _ _ => trivial)) hg3 (by rcases hat3 with q | q; exact .inl q; exact .inr (.inl q)))
    have HBG := Aside0.mk ((hg3.block g HC2.out.lt HC2.out.ne).trans HC2.out.blk)
    clear ho hb3 hg3 hat3 hn29
    refine hK.out _ _ ⟨(blk_cell HBG.out 2).trans (by rw [HNL.out]; rfl), blk_cell HBG.out 1⟩ (fun hHeld => ?_)
    clear hK K
    refine norm_ (a' := ?_) ?_ ?_
    rotate_left
    · show Act.put _ (some 29) _ = _
      simp only [Act.put, List.setIfInBounds_toArray, List.set_cons_zero, List.set_cons_succ, i64_w, i32_w]
      rfl
    refine pure_ (i := 16) (N := some 30) (v := ?_) (a' := ?_) #[true, true, true, true, true, true, true, true, true, true, true, true, true, true, true, true, true, false, false] rfl rfl (any_of HT_.out (by kernel_rfl)) (fun _ _ _ h => h) (Or.inl ⟨by rfl, ?_⟩) ?_ ?_
    rotate_left
    · intro w'
      go_simp
      with_reducible rfl
    rotate_left
    · simp only [Act.put, List.setIfInBounds_toArray, List.set_cons_zero, List.set_cons_succ, i64_w, i32_w]
      rfl
    refine pure_ (i := 17) (N := some 31) (v := ?_) (a' := ?_) #[true, true, true, true, true, true, true, true, true, true, true, true, true, true, true, true, true, true, false] rfl rfl (any_of HT_.out (by kernel_rfl)) (fun _ _ _ h => h) (Or.inl ⟨by rfl, ?_⟩) ?_ ?_
    rotate_left
    · intro w'
      go_simp
      with_reducible rfl
    rotate_left
    · simp only [Act.put, List.setIfInBounds_toArray, List.set_cons_zero, List.set_cons_succ, i64_w, i32_w]
      rfl
    refine last_ (i := 18) (N := none) #[true, true, true, true, true, true, true, true, true, true, true, true, true, true, true, true, true, true, true] rfl rfl (one_of HT_.out (by kernel_rfl)) (by decide) (fun K hK => ?_)
    have hcg : w3.cell? ⟨g, 2, none⟩ = some (.slice Af L.length cf) := blk_cell HBG.out 2
    have hfz := blk_frozen HBG.out 2
    refine skip_ (w1 := ?_) (by rfl) rfl ?_ ?_
    rotate_left 1
    · go_simp
      rfl
    refine hK.out _ _ ?_
    clear hK K
    refine done_ (done_of HT_.out (by kernel_rfl)) ?_
    clear hcg hfz
    obtain ⟨h1, h2, h3⟩ := HA.out
    have h4 := HAB.out
    generalize (w3.setCell ⟨g, 2, none⟩ (.slice A29 n29 c29)) = w4 at h1 h2 h3 h4 ⊢
    have HE := Aside0.mk (And.intro h1 (And.intro h2 (And.intro h3 h4)))
    clear h1 h2 h3 h4
    go_wp2
    refine bodyPost_end (results_none rfl _ _ _) rfl ?_
    exact ⟨by simp, _, HE.out.1, by rw [HNL.out]; exact (Fr.of_below (Below.trans HF.out (below_step (Below.refl _ _) HB2.out))).seq HE.out.2.1, by rw [HNL.out]; exact (Newer.refl w _).trans HB2.out.size HE.out.2.2.1, HE.out.2.2.2⟩
  · have e0 : putC now b L = L := by unfold putC; rw [if_neg hlt]
    rw [e0]
    have hlb : decide ((L.length : Int) < 4096) = false := decide_eq_false (by omega)
    have HC := Aside0.mk h
    have HBR := Aside0.mk hB
    clear h hr hB hBw
    go_enter Try.func12, Try.ntmps12
    go_wp2
    refine bodyPost_end (results_none rfl _ _ _) rfl ?_
    exact ⟨by simp, _, HC.out, Fr.refl _ _ _, Newer.refl _ _, HBR.out⟩
end Go.Proofs.Ytfplmoeahbjfmaa.P

-- YtfplmoeahbjfmaaPCActs0
namespace Go.Proofs.Ytfplmoeahbjfmaa.P
open Go Go.Proofs Go.RowKit Go.Shelf Go.Proofs.YtfplmoeahbjfmaaW.PrintWords Go.Proofs.YtfplmoeahbjfmaaW.PrintLast Go.Proofs.YtfplmoeahbjfmaaW.PrintMore
set_option linter.unusedVariables false
set_option linter.unusedSimpArgs false

/-- A call: what, a text, a number, places. -/
abbrev Ac := Int × (List Int × (Int × List Int))
abbrev kAc : Kd Ac := Kd.pair (Kd.int .i64) (Kd.pair (Kd.slice 5 (Kd.int .u8)) (Kd.pair (Kd.int .i64) (Kd.slice 3 (Kd.int .i64))))
theorem add4 (ad : Addr) (i q : Nat) (hq : 0 < q) : ({ block := (ad.add (i * 4)).block, off := (ad.add (i * 4)).off + q } : Addr) = ad.add (i * 4 + q) := by
  unfold Addr.add
  by_cases h : i * 4 = 0
  · rw [if_pos h, if_neg (by omega), h]; simp
  · rw [if_neg h, if_neg (by omega)]; simp [Nat.add_assoc]
theorem acts_at {w : World} {A : Option Addr} {l : List Ac} (h : kAc.C w A l.length l) (i : Nat) (hi : i < l.length) :
    ∃ ad x A1 c1 A2 c2, A = some ad ∧ l[i]? = some x ∧ w.cell? (ad.add (i * 4)) = some (.int .i64 x.1) ∧ w.cell? { block := (ad.add (i * 4)).block, off := (ad.add (i * 4)).off + 1 } = some (.slice A1 x.2.1.length c1) ∧
      w.cell? { block := (ad.add (i * 4)).block, off := (ad.add (i * 4)).off + 2 } = some (.int .i64 x.2.2.1) ∧ w.cell? { block := (ad.add (i * 4)).block, off := (ad.add (i * 4)).off + 3 } = some (.slice A2 x.2.2.2.length c2) ∧
      x.2.1.length ≤ c1 ∧ Kd.C (Kd.int .u8) w A1 x.2.1.length x.2.1 ∧ x.2.2.2.length ≤ c2 ∧ Kd.C (Kd.int .i64) w A2 x.2.2.2.length x.2.2.2 := by
  obtain ⟨ad, c, e, hc, hK, hcell⟩ := Kd.C_get h (0, [], 0, []) (i : Int) (by omega) (by omega)
  rw [Int.toNat_natCast] at hK hcell
  have hg : l[i]? = some (l.getD i (0, [], 0, [])) := by
    rw [List.getD_eq_getElem?_getD, List.getElem?_eq_getElem hi]; rfl
  obtain ⟨x, hx⟩ : ∃ x, x = l.getD i (0, [], 0, []) := ⟨_, rfl⟩
  rw [← hx] at hg hK
  obtain ⟨c0, c1, rfl, h0, c2, c3, rfl, ⟨A1, k1, rfl, hl1, hC1⟩, c4, c5, rfl, h4, ⟨A2, k2, rfl, hl2, hC2⟩⟩ := hK
  have h0' : c0 = [.int .i64 x.1] := h0
  have h4' : c4 = [.int .i64 x.2.2.1] := h4
  subst h0' h4'
  refine ⟨ad, x, A1, k1, A2, k2, e, hg, hcell 0 _ rfl, ?_, ?_, ?_, hl1, hC1, hl2, hC2⟩
  · rw [add4 ad i 1 (by omega)]; exact hcell 1 _ rfl
  · rw [add4 ad i 2 (by omega)]; exact hcell 2 _ rfl
  · rw [add4 ad i 3 (by omega)]; exact hcell 3 _ rfl
variable {w0 w w' : World} {n₀ g h : Nat} {age now now' : Int} {v v' vd vd' : Value} {L L' : List Fl}
/-- A block of another type than a channel's own stays. -/
theorem far_c (c : CS w n₀ g age now v L) (hf : Fr g v w w') {k t : Nat} {cells : Array Value} (hk : w.heap[k]? = some (.cells cells t (0, 0))) (h67 : t ≠ 67) (h50 : t ≠ 50) : w'.heap[k]? = w.heap[k]? := by
  refine hf.block k (blk_lt hk) (typed_ne hk c.blk h67) (fun e => ?_)
  obtain ⟨c2, h2⟩ := Kd.R_typed c.row k e.symm
  exact typed_ne hk h2 h50 rfl
theorem far_d (d : DS w n₀ h age now vd L) (hf : Fr h vd w w') {k t : Nat} {cells : Array Value} (hk : w.heap[k]? = some (.cells cells t (0, 0))) (h57 : t ≠ 57) (h61 : t ≠ 61) : w'.heap[k]? = w.heap[k]? := by
  refine hf.block k (blk_lt hk) (typed_ne hk d.blk h57) (fun e => ?_)
  obtain ⟨c2, h2⟩ := Kd.R_typed d.row k e.symm
  exact typed_ne hk h2 h61 rfl
theorem row_far_c {α : Type} {k : Kd α} {e b : Nat} {ok : Nat → Prop} {u : Value} {xs : List α} (c : CS w n₀ g age now v L) (hf : Fr g v w w') (hr : Kd.R k e w b ok u xs) (ht : ∀ q, q ∈ e :: k.E → q ≠ 67 ∧ q ≠ 50) : Kd.R k e w' b ok u xs := by
  refine Kd.R_mono (Kd.R_step (Kd.R_bound hr) (fun j hj _ => ?_)) (fun _ hk => hk.1)
  obtain ⟨_, _, _, q, hq, cells, hc⟩ := hj
  exact far_c c hf hc (ht q hq).1 (ht q hq).2
theorem row_far_d {α : Type} {k : Kd α} {e b : Nat} {ok : Nat → Prop} {u : Value} {xs : List α} (d : DS w n₀ h age now vd L) (hf : Fr h vd w w') (hr : Kd.R k e w b ok u xs) (ht : ∀ q, q ∈ e :: k.E → q ≠ 57 ∧ q ≠ 61) : Kd.R k e w' b ok u xs := by
  refine Kd.R_mono (Kd.R_step (Kd.R_bound hr) (fun j hj _ => ?_)) (fun _ hk => hk.1)
  obtain ⟨_, _, _, q, hq, cells, hc⟩ := hj
  exact far_d d hf hc (ht q hq).1 (ht q hq).2
theorem u8_far {α : Type} : ∀ q, q ∈ 5 :: (Kd.int .u8).E → q = 5 := by intro q hq; simpa [Kd.int, Kd.scalar] using hq
theorem kFl_types : ∀ q, q ∈ 50 :: kFl.E → q = 50 ∨ q = 5 := by intro q hq; simpa [Kd.int, Kd.scalar, Kd.slice, Kd.pair] using hq
theorem kDf_types : ∀ q, q ∈ 61 :: kDf.E → q = 61 := by intro q hq; simpa [Kd.int, Kd.scalar, Kd.string, Kd.iso, Kd.pair] using hq
theorem DS.far2 (d : DS w n₀ h age now' vd L') (c : CS w n₀ g age now v L) (hf : Fr g v w w') : DS w' n₀ h age now' vd L' :=
  ⟨(far_c c hf d.blk (by decide) (by decide)).trans d.blk, row_far_c c hf d.row (fun q hq => by rw [kDf_types q hq]; decide), d.low⟩
theorem CS.far2 (c : CS w n₀ g age now' v L) (d : DS w n₀ h age now vd L') (hf : Fr h vd w w') : CS w' n₀ g age now' v L :=
  ⟨(far_d d hf c.blk (by decide) (by decide)).trans c.blk, row_far_d d hf c.row (fun q hq => by rcases kFl_types q hq with rfl | rfl <;> decide), c.low⟩
theorem bel_c (c : CS w n₀ g age now v L) (hf : Fr g v w w') {wa : World} (hb : Below n₀ wa w) : Below n₀ wa w' := hb.trans (hf.below (by have := c.low; have := c.lt; omega) c.low (fun b hb => (c.own b hb).1))
theorem bel_d (d : DS w n₀ h age now vd L) (hf : Fr h vd w w') {wa : World} (hb : Below n₀ wa w) : Below n₀ wa w' := hb.trans (hf.below (by have := d.low; have := d.lt; omega) d.low (fun b hb => (d.own b hb).1))
/-- Both channels, of one list. -/
structure CD (w0 w : World) (g h : Nat) (age now : Int) (v vd : Value) (L : List Fl) : Prop where
  cs : CS w w0.heap.size g age now v L
  ds : DS w w0.heap.size h age now vd L
  bel : Below w0.heap.size w0 w
theorem CD.below (c : CD w0 w g h age now v vd L) (hb : Below w.heap.size w w') : CD w0 w' g h age now v vd L := ⟨c.cs.below hb, c.ds.below hb, below_step c.bel hb⟩
/-- Behind a call of the one, then of the other. -/
theorem CD.both {w1 w2 : World} {now2 : Int} {L2 : List Fl} (c : CD w0 w g h age now v vd L) (hc : CS w1 w0.heap.size g age now2 v' L2) (hf : Fr g v w w1) (hd : DS w2 w0.heap.size h age now2 vd' L2) (hg : Fr h vd w1 w2) : CD w0 w2 g h age now2 v' vd' L2 :=
  ⟨hc.far2 (c.ds.far2 c.cs hf) hg, hd, bel_d (c.ds.far2 c.cs hf) hg (bel_c c.cs hf c.bel)⟩
theorem CD.both2 {w1 w2 : World} {now2 : Int} {L2 : List Fl} (c : CD w0 w g h age now v vd L) (hd : DS w1 w0.heap.size h age now2 vd' L2) (hg : Fr h vd w w1) (hc : CS w2 w0.heap.size g age now2 v' L2) (hf : Fr g v w1 w2) : CD w0 w2 g h age now2 v' vd' L2 :=
  ⟨hc, hd.far2 (c.cs.far2 c.ds hg) hf, bel_c (c.cs.far2 c.ds hg) hf (bel_d c.ds hg c.bel)⟩
/-- Texts small, not too many, none too old. -/
structure Ok (age now : Int) (L : List Fl) : Prop where
  sm : Small L
  len : L.length ≤ 4096
  old : ∀ f ∈ L, 0 ≤ f.2.2 ∧ f.2.2 ≤ 100000 ∧ now - f.2.2 < age
theorem Ok.since (o : Ok age now L) : Since now L := fun f hf => ⟨(o.old f hf).1, (o.old f hf).2.1⟩
theorem Ok.put {b : List Int} (o : Ok age now L) (hb : Txt b) (ha : 1 ≤ age) (hn : 0 ≤ now ∧ now ≤ 100000) : Ok age now (putC now b L) := by
  unfold putC
  split
  · refine ⟨fun f hf => ?_, by rw [List.length_append]; simp; omega, fun f hf => ?_⟩
    · rcases List.mem_append.1 hf with q | q
      · exact o.sm f q
      · rw [List.mem_singleton.1 q]; exact ⟨hb, hb⟩
    · rcases List.mem_append.1 hf with q | q
      · exact o.old f q
      · rw [List.mem_singleton.1 q]; simp only; omega
  · exact o
theorem Ok.step (o : Ok age now L) : Ok age (now + 1) (keepL age (now + 1) L) := by
  unfold keepL
  refine ⟨fun f hf => o.sm f (List.mem_filter.1 hf).1, Nat.le_trans (List.length_filter_le _ _) o.len, fun f hf => ?_⟩
  obtain ⟨h1, h2⟩ := List.mem_filter.1 hf
  have h3 := o.old f h1
  unfold oldB at h2
  simp only [Bool.not_eq_true', decide_eq_false_iff_not] at h2
  omega
theorem Ok.take (o : Ok age now L) (k : Int) : Ok age now (tkL k L) := by
  unfold tkL
  split
  · exact ⟨fun f hf => o.sm f (List.mem_of_mem_eraseIdx hf), by rw [List.length_eraseIdx]; have := o.len; split <;> omega, fun f hf => o.old f (List.mem_of_mem_eraseIdx hf)⟩
  · exact o
theorem has_in {k : Int} (hh : hasE L.length k = 0) : L.getD k.toNat ([], [], 0) ∈ L := by
  have hk : 0 ≤ k ∧ k < L.length := by unfold hasE at hh; split at hh; assumption; omega
  rw [List.getD_eq_getElem?_getD, List.getElem?_eq_getElem (by omega)]; exact List.getElem_mem _
theorem Ok.taken (o : Ok age now L) {k : Int} (hh : hasE L.length k = 0) : tkF k L ∈ L := by
  unfold tkF; rw [if_pos hh]; exact has_in hh
theorem Ok.twice (o : Ok age now L) (k : Int) : Ok age now (twL k L) := by
  unfold twL
  split
  · next h1 =>
    have hh : hasE L.length k = 0 := by unfold twE at h1; split at h1; assumption; omega
    have hl : L.length < 4096 := by unfold twE at h1; rw [if_pos hh] at h1; split at h1; assumption; omega
    refine ⟨fun f hf => ?_, by rw [List.length_append]; simp; omega, fun f hf => ?_⟩
    · rcases List.mem_append.1 hf with q | q
      · exact o.sm f q
      · rw [List.mem_singleton.1 q]; exact o.sm _ (has_in hh)
    · rcases List.mem_append.1 hf with q | q
      · exact o.old f q
      · rw [List.mem_singleton.1 q]; exact o.old _ (has_in hh)
  · exact o
theorem Ok.turn (o : Ok age now L) (k : Int) (at_ : List Int) : Ok age now (tnL k at_ L) := by
  refine ⟨tnL_small o.sm, by rw [tnL_len]; exact o.len, fun f hf => ?_⟩
  unfold tnL at hf
  split at hf
  · next hh =>
    rcases List.mem_or_eq_of_mem_set hf with q | q
    · exact o.old f q
    · have ho := o.old _ (has_in hh); rw [q]; exact ho
  · exact o.old f hf
/-- Both channels, and a text of the law's own, in block B, that none of the channel's texts is. -/
structure PB (w0 w : World) (g h : Nat) (age now : Int) (v vd : Value) (L : List Fl) (B : Nat) (u : Value) (n : Nat) : Prop where
  cd : CD w0 w g h age now v vd L
  ap : Kd.R kFl 50 w w0.heap.size (fun k => k ≠ B) v L
  row : ∃ bs : List Int, bs.length = n ∧ Kd.R (Kd.int .u8) 5 w w0.heap.size (fun _ => True) u bs
  own : u.ownBlock = some B
theorem PB.put {B n : Nat} {u : Value} {bs : List Int} (p : PB w0 w g h age now v vd L B u n) (hg : w.grownBy w' (some B)) (hl : bs.length = n) (hr : Kd.R (Kd.int .u8) 5 w' w0.heap.size (fun _ => True) u bs) : PB w0 w' g h age now v vd L B u n := by
  obtain ⟨bs0, _, hr0⟩ := p.row
  obtain ⟨cells, hty⟩ := Kd.R_typed hr0 B p.own
  have hlow := Kd.R_base hr0 B p.own
  have ne : ∀ k t cs, w.heap[k]? = some (.cells cs t (0, 0)) → t ≠ 5 → some k ≠ some B := fun k t cs hk ht e => by injection e with e; exact typed_ne hk hty ht e
  refine ⟨⟨⟨(hg.block g p.cd.cs.lt (ne g 67 _ p.cd.cs.blk (by decide))).trans p.cd.cs.blk, ?_, p.cd.cs.low⟩, ⟨(hg.block h p.cd.ds.lt (ne h 57 _ p.cd.ds.blk (by decide))).trans p.cd.ds.blk, ?_, p.cd.ds.low⟩, ?_⟩, ?_, ⟨bs, hl, hr⟩, p.own⟩
  · exact Kd.R_mono (Kd.R_step p.ap (fun k ok hk => hg.block k hk (fun e => ok (by injection e)))) (fun _ _ => trivial)
  · refine Kd.R_mono (Kd.R_step (Kd.R_bound p.cd.ds.row) (fun k ok hk => ?_)) (fun _ _ => trivial)
    obtain ⟨_, _, _, q, hq, cs, hc⟩ := ok
    exact hg.block k hk (ne k q cs hc (by rw [kDf_types q hq]; decide))
  · exact p.cd.bel.trans ⟨hg.os, hg.tape, hg.output, hg.size, fun k hk => hg.block k (Nat.lt_of_lt_of_le hk p.cd.bel.size) (fun e => by injection e with e; omega)⟩
  · exact Kd.R_step p.ap (fun k ok hk => hg.block k hk (fun e => ok (by injection e)))
end Go.Proofs.Ytfplmoeahbjfmaa.P

-- YtfplmoeahbjfmaaPAcRow
namespace Go.Proofs.Ytfplmoeahbjfmaa.P
open Go Go.RowKit Go.ChangeShapes Go.WideShapes Go.Deep Go.Proofs.YtfplmoeahbjfmaaW.PrintWords Go.Proofs.YtfplmoeahbjfmaaW.PrintLast Go.Proofs.YtfplmoeahbjfmaaW.PrintMore
set_option linter.unusedVariables false
set_option linter.unusedSimpArgs false

theorem list_of {α : Type} {p : Nat → α → Prop} (n : Nat) (h : ∀ i, i < n → ∃ x, p i x) : ∃ l : List α, l.length = n ∧ ∀ i (hi : i < l.length), p i l[i] := by
  induction n with
  | zero => exact ⟨[], rfl, fun i hi => absurd hi (by simp)⟩
  | succ n ih =>
    obtain ⟨l, hl, hp⟩ := ih (fun i hi => h i (by omega))
    obtain ⟨x, hx⟩ := h n (by omega)
    refine ⟨l ++ [x], by simp [hl], fun i hi => ?_⟩
    rw [List.length_append, List.length_singleton] at hi
    by_cases e : i < l.length
    · rw [List.getElem_append_left e]; exact hp i e
    · have : i = n := by omega
      subst this
      rw [List.getElem_append_right (by omega)]
      simpa [hl] using hx
variable {H : Type} {enc : TypeId × Value → H} {W : World} {base : Nat} {spare : Nat → Bool} {held : Bool}
/-- A row of numbers, opened. -/
theorem ints_of {t e : TypeId} {k : IntKind} {fuel : Nat} {v : Value} {x : DataW H × List MemPlace} (ht : Try.prog.underlying t = some (.slice e)) (he : Try.prog.underlying e = some (.int k)) (hc : Try.prog.cellsOf e = 1)
    (h : DataW.trod enc Try.prog W base spare held fuel t [v] = some x) :
    ∃ (A : Option Addr) (c : Nat) (l : List Int), v = .slice A l.length c ∧ l.length ≤ c ∧ Kd.C (Kd.int k) W A l.length l ∧ ∀ y ∈ l, (Lit.int k y).wf = true := by
  rcases open_ints ht he hc h with ⟨hcs, _⟩ | ⟨a, l, c, zs, hcs, _, hl, hm, hz, _, hcell, hwz⟩
  · injection hcs with hcs _
    exact ⟨none, 0, [], hcs, Nat.le_refl _, Kd.C_nil _ _, fun y hy => by cases hy⟩
  · injection hcs with hcs _
    have hlz : l ≤ zs.length := by rw [hz]; split <;> omega
    have hll : (zs.take l).length = l := by rw [List.length_take]; omega
    refine ⟨some a, c, zs.take l, by rw [hll]; exact hcs, by rw [hll]; exact hl, ?_, fun y hy => hwz y (List.mem_of_mem_take hy)⟩
    refine Kd.C_of_reads (d := (0 : Int)) (h1 := fun _ => rfl) ⟨rfl, by rw [hll]; unfold maxLen at hm; omega, fun _ => ⟨a, rfl, fun j hj => ?_⟩⟩
    rw [hll] at hj
    rw [hcell j (by omega)]
    simp [List.getD_eq_getElem?_getD, hj]
theorem open_acts {a : Option Addr} {len cap : Nat} {d : DataW H} {ps : List MemPlace} (h : DataW.Trod enc Try.prog W base spare held 47 (.slice a len cap) d ps) :
    ∃ l : List Ac, len = l.length ∧ kAc.C W a l.length l ∧ l.length ≤ cap ∧ ∀ x ∈ l, ∀ y ∈ x.2.1, 0 ≤ y ∧ y ≤ 255 := by
  obtain ⟨fuel, hf⟩ := h
  rcases open_slice Try.underlying47 hf with ⟨hcs, _⟩ | ⟨x, l, c, m, n, D, Pl, hcs, _, hl, hm, hmm, _, hx⟩
  · simp [Value.cells] at hcs
    obtain ⟨rfl, rfl, rfl⟩ := hcs
    exact ⟨[], rfl, ⟨rfl, by simp, fun h => absurd h (Nat.lt_irrefl 0)⟩, by simp, by simp⟩
  · simp [Value.cells] at hcs
    obtain ⟨rfl, rfl, rfl⟩ := hcs
    have hlm : len ≤ m := by rw [hmm]; split <;> omega
    have c59 : Try.prog.cellsOf 59 = 4 := by kernel_rfl
    obtain ⟨L, hL, hp⟩ := list_of (p := fun i (q : Ac) => (∃ cs, kAc.K W q cs ∧ ∀ j u, cs[j]? = some u → W.cell? (x.add (i * 4 + j)) = some u) ∧ ∀ y ∈ q.2.1, 0 ≤ y ∧ y ≤ 255) len (fun i hi => by
      obtain ⟨cs', h1, h2⟩ := hx i (by omega)
      rw [c59] at h1
      obtain ⟨_, hlen, hcell⟩ := World.cells?_some h1
      obtain ⟨xs, k, hk, hxy, _, hxl, hf⟩ := DataW.trod_struct Try.underlying59 h2
      match cs', hlen with
      | [v0, v1, v2, v3], _ =>
        match xs, hxl with
        | [y0, y1, y2, y3], _ =>
          have g0 := hf 0 _ rfl
          have g1 := hf 1 _ rfl
          have g2 := hf 2 _ rfl
          have g3 := hf 3 _ rfl
          have k3 : Try.prog.cellsOf 3 = 1 := by kernel_rfl
          have k31 : Try.prog.cellsOf 31 = 1 := by kernel_rfl
          have k22 : Try.prog.cellsOf 22 = 1 := by kernel_rfl
          simp [k3, k31, k22] at g0 g1 g2 g3
          obtain ⟨n0, e0, _, w0⟩ := DataW.trod_int Try.underlying3 g0
          obtain ⟨A1, c1, l1, e1, hl1, hC1, w1⟩ := ints_of Try.underlying31 Try.underlying5 (by kernel_rfl) g1
          obtain ⟨n2, e2, _, w2⟩ := DataW.trod_int Try.underlying3 g2
          obtain ⟨A3, c3, l3, e3, hl3, hC3, w3⟩ := ints_of Try.underlying22 Try.underlying3 (by kernel_rfl) g3
          injection e0 with e0
          injection e2 with e2
          subst e0 e1 e2 e3
          refine ⟨(n0, l1, n2, l3), ⟨[.int .i64 n0, .slice A1 l1.length c1, .int .i64 n2, .slice A3 l3.length c3], ⟨[.int .i64 n0], [.slice A1 l1.length c1, .int .i64 n2, .slice A3 l3.length c3], rfl, rfl, [.slice A1 l1.length c1], [.int .i64 n2, .slice A3 l3.length c3], rfl, ⟨A1, c1, rfl, hl1, hC1⟩, [.int .i64 n2], [.slice A3 l3.length c3], rfl, rfl, ⟨A3, c3, rfl, hl3, hC3⟩⟩, fun j u hu => ?_⟩, fun y hy => ?_⟩
          · have hj : j < 4 := by
              have := (List.getElem?_eq_some_iff.1 hu).1
              simpa using this
            have e := hcell j (by simpa using hj)
            rw [Deep.add_add] at e
            rw [e]; exact hu
          · have hw := w1 y hy
            have := Go.bounds_u8 hw
            omega)
    refine ⟨L, hL.symm, ⟨rfl, by unfold maxLen at hm; omega, fun _ => ⟨x, rfl, fun j p hj => ?_⟩⟩, by omega, fun q hq => ?_⟩
    · obtain ⟨hjl, rfl⟩ := List.getElem?_eq_some_iff.1 hj
      obtain ⟨⟨cs, hK, hc⟩, _⟩ := hp j hjl
      exact ⟨cs, kAc.K_len hK, hK, fun i u hu => hc i u hu⟩
    · obtain ⟨j, hj, rfl⟩ := List.getElem_of_mem hq
      exact (hp j hj).2
end Go.Proofs.Ytfplmoeahbjfmaa.P
