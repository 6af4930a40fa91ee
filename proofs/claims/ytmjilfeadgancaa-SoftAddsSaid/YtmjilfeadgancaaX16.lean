-- Made by xprint.py (an own driver round the kit's print.py), with contracts of this session's own. Lean checks it.
import Derived.Test.YtmjilfeadgancaaX0
import Derived.Test.YtmjilfeadgancaaX1
import Derived.Test.YtmjilfeadgancaaX2
import Derived.Test.YtmjilfeadgancaaX3
import Derived.Test.YtmjilfeadgancaaX12
import Derived.Test.YtmjilfeadgancaaX13
import Derived.Test.YtmjilfeadgancaaX14
import Derived.Test.YtmjilfeadgancaaX15
namespace Go.Proofs.Ytmjilfeadgancaa.X
open Go.RowKit Go.Proofs.YtmjilfeadgancaaW.PrintWords Go.Proofs.YtmjilfeadgancaaW.PrintLast Go.Proofs.YtmjilfeadgancaaW.PrintMore
attribute [local go_sem] max2_int min2_int max_two min_two max_three min_three max_four min_four   -- for this text's walks alone
set_option linter.unusedVariables false
set_option linter.unusedSimpArgs false

/-! ### shuttlelaw08_SoftAdds: function 3 -/
def shuttlelaw08_SoftAdds.f (k : Nat) (a0 : Int) (a1 : Int) (a2 : Int) : Option (Bool) := (shuttlelaw08_sure.f k).bind fun t130 => (if t130 = true then ((soft_Clip.f a0).bind fun t131 => ((shuttleref08_Clip.f a0).bind fun t132 => (if t131 = t132 then ((soft_Add.f a0 a1).bind fun t133 => ((shuttleref08_Add.f a0 a1).bind fun t134 => (if t133 = t134 then ((soft_Add.f a1 a0).bind fun t135 => (if t135 = t133 then ((soft_Of.f a2).bind fun t136 => ((shuttleref08_Of.f a2).bind fun t137 => (some (t136 == t137)))) else (some false))) else (some false)))) else (some false)))) else (some false))
theorem shuttlelaw08_SoftAdds.mono : ∀ a0 a1 a2 k, LeO (shuttlelaw08_SoftAdds.f k a0 a1 a2) (shuttlelaw08_SoftAdds.f (k + 1) a0 a1 a2) := by
  intro a0 a1 a2 k
  unfold shuttlelaw08_SoftAdds.f
  repeat' first
      | (with_reducible exact shuttlelaw08_sure.mono _)
      | (with_reducible exact LeO.refl _)
      | (with_reducible exact LeO.none _)
      | (with_reducible refine LeO.ite ?_ ?_)
      | (with_reducible refine LeO.bind ?_ (fun _ => ?_))
      | exact shuttlelaw08_sure.mono _
      | exact LeO.none _
      | refine LeO.ite ?_ ?_
      | refine LeO.bind ?_ (fun _ => ?_)
set_option maxHeartbeats 8000000 in
set_option maxRecDepth 100000 in
theorem shuttlelaw08_SoftAdds.calls (k : Nat) (a0 : Int) (a1 : Int) (a2 : Int) (r : Bool) (w : World) (h : shuttlelaw08_SoftAdds.f k a0 a1 a2 = some r) :
    Calls Try.prog 3 #[.int .i64 a0, .int .i64 a1, .int .u8 a2] w fun e w' => e = .returned (.bool r) ∧ Below w.heap.size w w' := by
  have HB := Aside0.mk (Below.refl w.heap.size w)
  have H : ((shuttlelaw08_sure.f k).bind fun t130 => (if t130 = true then ((soft_Clip.f a0).bind fun t131 => ((shuttleref08_Clip.f a0).bind fun t132 => (if t131 = t132 then ((soft_Add.f a0 a1).bind fun t133 => ((shuttleref08_Add.f a0 a1).bind fun t134 => (if t133 = t134 then ((soft_Add.f a1 a0).bind fun t135 => (if t135 = t133 then ((soft_Of.f a2).bind fun t136 => ((shuttleref08_Of.f a2).bind fun t137 => (some (t136 == t137)))) else (some false))) else (some false)))) else (some false)))) else (some false))) = some r := h
  clear h
  replace H := Option.bind_eq_some_iff.mp H
  obtain ⟨t130, A40, H⟩ := H
  replace H : (if t130 = true then ((soft_Clip.f a0).bind fun t131 => ((shuttleref08_Clip.f a0).bind fun t132 => (if t131 = t132 then ((soft_Add.f a0 a1).bind fun t133 => ((shuttleref08_Add.f a0 a1).bind fun t134 => (if t133 = t134 then ((soft_Add.f a1 a0).bind fun t135 => (if t135 = t133 then ((soft_Of.f a2).bind fun t136 => ((shuttleref08_Of.f a2).bind fun t137 => (some (t136 == t137)))) else (some false))) else (some false)))) else (some false)))) else (some false)) = some r := H
  have A4 := Aside0.mk A40
  clear A40
  by_cases c5 : t130 = true
  · subst c5
    have H1 : ((soft_Clip.f a0).bind fun t131 => ((shuttleref08_Clip.f a0).bind fun t132 => (if t131 = t132 then ((soft_Add.f a0 a1).bind fun t133 => ((shuttleref08_Add.f a0 a1).bind fun t134 => (if t133 = t134 then ((soft_Add.f a1 a0).bind fun t135 => (if t135 = t133 then ((soft_Of.f a2).bind fun t136 => ((shuttleref08_Of.f a2).bind fun t137 => (some (t136 == t137)))) else (some false))) else (some false)))) else (some false)))) = some r := by rw [if_pos rfl] at H; exact H
    clear H
    have H := H1
    clear H1
    replace H := Option.bind_eq_some_iff.mp H
    obtain ⟨t131, A60, H⟩ := H
    replace H : ((shuttleref08_Clip.f a0).bind fun t132 => (if t131 = t132 then ((soft_Add.f a0 a1).bind fun t133 => ((shuttleref08_Add.f a0 a1).bind fun t134 => (if t133 = t134 then ((soft_Add.f a1 a0).bind fun t135 => (if t135 = t133 then ((soft_Of.f a2).bind fun t136 => ((shuttleref08_Of.f a2).bind fun t137 => (some (t136 == t137)))) else (some false))) else (some false)))) else (some false))) = some r := H
    have A6 := Aside0.mk A60
    clear A60
    replace H := Option.bind_eq_some_iff.mp H
    obtain ⟨t132, A70, H⟩ := H
    replace H : (if t131 = t132 then ((soft_Add.f a0 a1).bind fun t133 => ((shuttleref08_Add.f a0 a1).bind fun t134 => (if t133 = t134 then ((soft_Add.f a1 a0).bind fun t135 => (if t135 = t133 then ((soft_Of.f a2).bind fun t136 => ((shuttleref08_Of.f a2).bind fun t137 => (some (t136 == t137)))) else (some false))) else (some false)))) else (some false)) = some r := H
    have A7 := Aside0.mk A70
    clear A70
    by_cases c8 : t131 = t132
    · rw [if_pos c8] at H
      have c8b0 : (t131 == t132) = true := beq_iff_eq.mpr c8
      have c8b1 : (t131 != t132) = false := bne_eq_false_iff_eq.mpr c8
      clear c8
      replace H := Option.bind_eq_some_iff.mp H
      obtain ⟨t133, A90, H⟩ := H
      replace H : ((shuttleref08_Add.f a0 a1).bind fun t134 => (if t133 = t134 then ((soft_Add.f a1 a0).bind fun t135 => (if t135 = t133 then ((soft_Of.f a2).bind fun t136 => ((shuttleref08_Of.f a2).bind fun t137 => (some (t136 == t137)))) else (some false))) else (some false))) = some r := H
      have A9 := Aside0.mk A90
      clear A90
      replace H := Option.bind_eq_some_iff.mp H
      obtain ⟨t134, A100, H⟩ := H
      replace H : (if t133 = t134 then ((soft_Add.f a1 a0).bind fun t135 => (if t135 = t133 then ((soft_Of.f a2).bind fun t136 => ((shuttleref08_Of.f a2).bind fun t137 => (some (t136 == t137)))) else (some false))) else (some false)) = some r := H
      have A10 := Aside0.mk A100
      clear A100
      by_cases c11 : t133 = t134
      · rw [if_pos c11] at H
        have c11b0 : (t133 == t134) = true := beq_iff_eq.mpr c11
        have c11b1 : (t133 != t134) = false := bne_eq_false_iff_eq.mpr c11
        clear c11
        replace H := Option.bind_eq_some_iff.mp H
        obtain ⟨t135, A120, H⟩ := H
        replace H : (if t135 = t133 then ((soft_Of.f a2).bind fun t136 => ((shuttleref08_Of.f a2).bind fun t137 => (some (t136 == t137)))) else (some false)) = some r := H
        have A12 := Aside0.mk A120
        clear A120
        by_cases c13 : t135 = t133
        · rw [if_pos c13] at H
          have c13b0 : (t135 == t133) = true := beq_iff_eq.mpr c13
          have c13b1 : (t135 != t133) = false := bne_eq_false_iff_eq.mpr c13
          clear c13
          replace H := Option.bind_eq_some_iff.mp H
          obtain ⟨t136, A140, H⟩ := H
          replace H : ((shuttleref08_Of.f a2).bind fun t137 => (some (t136 == t137))) = some r := H
          have A14 := Aside0.mk A140
          clear A140
          replace H := Option.bind_eq_some_iff.mp H
          obtain ⟨t137, A150, H⟩ := H
          replace H : (some (t136 == t137)) = some r := H
          have A15 := Aside0.mk A150
          clear A150
          obtain rfl := Option.some.inj H
          go_enter Try.func3, Try.ntmps3
          go_wp2_with (first | ((with_reducible refine gate_callee (f := 11) rfl ?_); refine goesL_ (some 7) rfl rfl Try.func11 (by kernel_rfl) rfl #[] rfl (by (try simp only [List.map_toArray, List.map_cons, List.map_nil]); first | done | rfl | (simp only [List.length_drop, List.length_take]; rfl)) ?_; (with_reducible refine (shuttlelaw08_sure.calls k  true _ A4.out).mono ?_); rintro e w16 ⟨rfl, hb⟩; refine ⟨_, rfl, ?_⟩; have n0_ := Aside0.mk (below_step (by repeat (first | (with_reducible first | exact HB.out | apply below_alloc | apply pw_below_drewN | apply below_drew1) | exact HB.out)) hb); clear HB; have HB := n0_; clear n0_; (try clear hb); (try clear hb2); (try clear hk); (try clear hi)) | (go_at_call 12; (with_reducible refine (soft_Clip.calls a0 t131 _ A6.out).mono ?_); rintro e w' ⟨rfl, ⟨nd, rfl⟩⟩) | (go_at_call 13; (with_reducible refine (shuttleref08_Clip.calls a0 t132 _ A7.out).mono ?_); rintro e w' ⟨rfl, ⟨nd, rfl⟩⟩) | (go_at_call 14; (with_reducible refine (soft_Add.calls a0 a1 t133 _ A9.out).mono ?_); rintro e w' ⟨rfl, ⟨nd, rfl⟩⟩) | (go_at_call 15; (with_reducible refine (shuttleref08_Add.calls a0 a1 t134 _ A10.out).mono ?_); rintro e w' ⟨rfl, ⟨nd, rfl⟩⟩) | (go_at_call 14; (with_reducible refine (soft_Add.calls a1 a0 t135 _ A12.out).mono ?_); rintro e w' ⟨rfl, ⟨nd, rfl⟩⟩) | (go_at_call 16; (with_reducible refine (soft_Of.calls a2 t136 _ A14.out).mono ?_); rintro e w' ⟨rfl, ⟨nd, rfl⟩⟩) | (go_at_call 17; (with_reducible refine (shuttleref08_Of.calls a2 t137 _ A15.out).mono ?_); rintro e w' ⟨rfl, ⟨nd, rfl⟩⟩))
          go_ret
          exact ⟨by first | rfl | (simp [errW_none, errW_some] <;> rfl) | (simp [*, errW_none, errW_some] <;> rfl), by repeat (first | (with_reducible first | exact HB.out | apply below_alloc | apply pw_below_drewN | apply below_drew1) | exact HB.out)⟩
        · rw [if_neg c13] at H
          have c13b0 : (t135 == t133) = false := beq_eq_false_iff_ne.mpr c13
          have c13b1 : (t135 != t133) = true := bne_iff_ne.mpr c13
          obtain rfl := Option.some.inj H
          go_enter Try.func3, Try.ntmps3
          go_wp2_with (first | ((with_reducible refine gate_callee (f := 11) rfl ?_); refine goesL_ (some 7) rfl rfl Try.func11 (by kernel_rfl) rfl #[] rfl (by (try simp only [List.map_toArray, List.map_cons, List.map_nil]); first | done | rfl | (simp only [List.length_drop, List.length_take]; rfl)) ?_; (with_reducible refine (shuttlelaw08_sure.calls k  true _ A4.out).mono ?_); rintro e w17 ⟨rfl, hb⟩; refine ⟨_, rfl, ?_⟩; have n0_ := Aside0.mk (below_step (by repeat (first | (with_reducible first | exact HB.out | apply below_alloc | apply pw_below_drewN | apply below_drew1) | exact HB.out)) hb); clear HB; have HB := n0_; clear n0_; (try clear hb); (try clear hb2); (try clear hk); (try clear hi)) | (go_at_call 12; (with_reducible refine (soft_Clip.calls a0 t131 _ A6.out).mono ?_); rintro e w' ⟨rfl, ⟨nd, rfl⟩⟩) | (go_at_call 13; (with_reducible refine (shuttleref08_Clip.calls a0 t132 _ A7.out).mono ?_); rintro e w' ⟨rfl, ⟨nd, rfl⟩⟩) | (go_at_call 14; (with_reducible refine (soft_Add.calls a0 a1 t133 _ A9.out).mono ?_); rintro e w' ⟨rfl, ⟨nd, rfl⟩⟩) | (go_at_call 15; (with_reducible refine (shuttleref08_Add.calls a0 a1 t134 _ A10.out).mono ?_); rintro e w' ⟨rfl, ⟨nd, rfl⟩⟩) | (go_at_call 14; (with_reducible refine (soft_Add.calls a1 a0 t135 _ A12.out).mono ?_); rintro e w' ⟨rfl, ⟨nd, rfl⟩⟩))
          go_ret
          exact ⟨by first | rfl | (simp [errW_none, errW_some] <;> rfl) | (simp [*, errW_none, errW_some] <;> rfl), by repeat (first | (with_reducible first | exact HB.out | apply below_alloc | apply pw_below_drewN | apply below_drew1) | exact HB.out)⟩
      · rw [if_neg c11] at H
        have c11b0 : (t133 == t134) = false := beq_eq_false_iff_ne.mpr c11
        have c11b1 : (t133 != t134) = true := bne_iff_ne.mpr c11
        obtain rfl := Option.some.inj H
        go_enter Try.func3, Try.ntmps3
        go_wp2_with (first | ((with_reducible refine gate_callee (f := 11) rfl ?_); refine goesL_ (some 7) rfl rfl Try.func11 (by kernel_rfl) rfl #[] rfl (by (try simp only [List.map_toArray, List.map_cons, List.map_nil]); first | done | rfl | (simp only [List.length_drop, List.length_take]; rfl)) ?_; (with_reducible refine (shuttlelaw08_sure.calls k  true _ A4.out).mono ?_); rintro e w18 ⟨rfl, hb⟩; refine ⟨_, rfl, ?_⟩; have n0_ := Aside0.mk (below_step (by repeat (first | (with_reducible first | exact HB.out | apply below_alloc | apply pw_below_drewN | apply below_drew1) | exact HB.out)) hb); clear HB; have HB := n0_; clear n0_; (try clear hb); (try clear hb2); (try clear hk); (try clear hi)) | (go_at_call 12; (with_reducible refine (soft_Clip.calls a0 t131 _ A6.out).mono ?_); rintro e w' ⟨rfl, ⟨nd, rfl⟩⟩) | (go_at_call 13; (with_reducible refine (shuttleref08_Clip.calls a0 t132 _ A7.out).mono ?_); rintro e w' ⟨rfl, ⟨nd, rfl⟩⟩) | (go_at_call 14; (with_reducible refine (soft_Add.calls a0 a1 t133 _ A9.out).mono ?_); rintro e w' ⟨rfl, ⟨nd, rfl⟩⟩) | (go_at_call 15; (with_reducible refine (shuttleref08_Add.calls a0 a1 t134 _ A10.out).mono ?_); rintro e w' ⟨rfl, ⟨nd, rfl⟩⟩))
        go_ret
        exact ⟨by first | rfl | (simp [errW_none, errW_some] <;> rfl) | (simp [*, errW_none, errW_some] <;> rfl), by repeat (first | (with_reducible first | exact HB.out | apply below_alloc | apply pw_below_drewN | apply below_drew1) | exact HB.out)⟩
    · rw [if_neg c8] at H
      have c8b0 : (t131 == t132) = false := beq_eq_false_iff_ne.mpr c8
      have c8b1 : (t131 != t132) = true := bne_iff_ne.mpr c8
      obtain rfl := Option.some.inj H
      go_enter Try.func3, Try.ntmps3
      go_wp2_with (first | ((with_reducible refine gate_callee (f := 11) rfl ?_); refine goesL_ (some 7) rfl rfl Try.func11 (by kernel_rfl) rfl #[] rfl (by (try simp only [List.map_toArray, List.map_cons, List.map_nil]); first | done | rfl | (simp only [List.length_drop, List.length_take]; rfl)) ?_; (with_reducible refine (shuttlelaw08_sure.calls k  true _ A4.out).mono ?_); rintro e w19 ⟨rfl, hb⟩; refine ⟨_, rfl, ?_⟩; have n0_ := Aside0.mk (below_step (by repeat (first | (with_reducible first | exact HB.out | apply below_alloc | apply pw_below_drewN | apply below_drew1) | exact HB.out)) hb); clear HB; have HB := n0_; clear n0_; (try clear hb); (try clear hb2); (try clear hk); (try clear hi)) | (go_at_call 12; (with_reducible refine (soft_Clip.calls a0 t131 _ A6.out).mono ?_); rintro e w' ⟨rfl, ⟨nd, rfl⟩⟩) | (go_at_call 13; (with_reducible refine (shuttleref08_Clip.calls a0 t132 _ A7.out).mono ?_); rintro e w' ⟨rfl, ⟨nd, rfl⟩⟩))
      go_ret
      exact ⟨by first | rfl | (simp [errW_none, errW_some] <;> rfl) | (simp [*, errW_none, errW_some] <;> rfl), by repeat (first | (with_reducible first | exact HB.out | apply below_alloc | apply pw_below_drewN | apply below_drew1) | exact HB.out)⟩
  · replace c5 := Bool.eq_false_iff.mpr c5
    subst c5
    have H1 : (some false) = some r := by rw [if_neg (show ¬ (false = true) by decide)] at H; exact H
    clear H
    have H := H1
    clear H1
    obtain rfl := Option.some.inj H
    go_enter Try.func3, Try.ntmps3
    go_wp2_with (first | ((with_reducible refine gate_callee (f := 11) rfl ?_); refine goesL_ (some 7) rfl rfl Try.func11 (by kernel_rfl) rfl #[] rfl (by (try simp only [List.map_toArray, List.map_cons, List.map_nil]); first | done | rfl | (simp only [List.length_drop, List.length_take]; rfl)) ?_; (with_reducible refine (shuttlelaw08_sure.calls k  false _ A4.out).mono ?_); rintro e w20 ⟨rfl, hb⟩; refine ⟨_, rfl, ?_⟩; have n0_ := Aside0.mk (below_step (by repeat (first | (with_reducible first | exact HB.out | apply below_alloc | apply pw_below_drewN | apply below_drew1) | exact HB.out)) hb); clear HB; have HB := n0_; clear n0_; (try clear hb); (try clear hb2); (try clear hk); (try clear hi)))
    go_ret
    exact ⟨by first | rfl | (simp [errW_none, errW_some] <;> rfl) | (simp [*, errW_none, errW_some] <;> rfl), by repeat (first | (with_reducible first | exact HB.out | apply below_alloc | apply pw_below_drewN | apply below_drew1) | exact HB.out)⟩

/-- THE ONE PURE STATEMENT of shuttlelaw08_SoftAdds: yours. -/
def shuttlelaw08_SoftAdds.Pure : Prop := ∀ (a0 : Int) (a1 : Int) (a2 : Int), (Lit.int .i64 a0).wf = true → (Lit.int .i64 a1).wf = true → (Lit.int .u8 a2).wf = true → ∃ k, shuttlelaw08_SoftAdds.f k a0 a1 a2 = some true
theorem shuttlelaw08_SoftAdds.walk (P : shuttlelaw08_SoftAdds.Pure) (a0 : Int) (a1 : Int) (a2 : Int) (w : World) (w0 : (Lit.int .i64 a0).wf = true) (w1 : (Lit.int .i64 a1).wf = true) (w2 : (Lit.int .u8 a2).wf = true) :
    Calls Try.prog 3 #[.int .i64 a0, .int .i64 a1, .int .u8 a2] w fun e w' => e = .returned (.bool true) ∧ Below w.heap.size w w' := by
  obtain ⟨k, h⟩ := P a0 a1 a2 w0 w1 w2
  refine (shuttlelaw08_SoftAdds.calls k a0 a1 a2 true w h).mono ?_
  rintro e w' ⟨rfl, hd⟩
  exact ⟨rfl, hd⟩

end Go.Proofs.Ytmjilfeadgancaa.X
