/- Texts of this seat, one behind the other (merge.py): the walks of the functions that the law TrellisEdges uses, and plain words on what they come to. No condition. -/
import Derived.Test.YtmajbcglpcagoaaDoorXMTrellisEdges1
-- YtmajbcglpcagoaaDoorXTE
namespace Go.Proofs.YtmajbcglpcagoaaDoor.X
open Go.RowKit Go.Proofs.YtmajbcglpcagoaaDoorW.PrintWords Go.Proofs.YtmajbcglpcagoaaDoorW.PrintLast Go.Proofs.YtmajbcglpcagoaaDoorW.PrintMore
attribute [local go_sem] max2_int min2_int max_two min_two max_three min_three max_four min_four   -- for this text's walks alone
set_option linter.unusedVariables false
set_option linter.unusedSimpArgs false

attribute [local go_sem high] eqA24 eqA25
/-! ### shuttlelaw07_TrellisEdges: function 3 -/
mutual
def shuttlelaw07_TrellisEdges.j1 : Nat → Int → Int → Int → Bool → Int → Int → Int → Int → Int → Int → Int → Int → Int → Int → Int → Int → Int → Int → Int → Int → Int → Int → Int → Int → Int → Int → Int → Int → Int → Int → Int → Int → Option (Bool)
  | 0, _, _, _, _, _, _, _, _, _, _, _, _, _, _, _, _, _, _, _, _, _, _, _, _, _, _, _, _, _, _, _, _ => none
  | k + 1, x0, x4, x6, x28, x217000, x217001, x217002, x217003, x217004, x217005, x217006, x217007, x217008, x217009, x217010, x217011, x217012, x217013, x233000, x233001, x233002, x233003, x233004, x233005, x233006, x233007, x233008, x233009, x233010, x233011, x233012, x233013 => if x28 = true then (if x4 = 1 then (if x6 = 1 then (if ((x217000 == 0 && (x217001 == 0 && (x217002 == 0 && ((x217003 == 0 && (x217004 == 0 && (x217005 == 0 && (x217006 == 0)))))))) && ((x217007 == 0 && (x217008 == 0 && (x217009 == 0 && ((x217010 == 0 && (x217011 == 0 && (x217012 == 0 && (x217013 == 0)))))))))) = true then (some ((x233000 == 0 && (x233001 == 0 && (x233002 == 0 && ((x233003 == 0 && (x233004 == 0 && (x233005 == 0 && (x233006 == 0)))))))) && ((x233007 == 0 && (x233008 == 0 && (x233009 == 0 && ((x233010 == 0 && (x233011 == 0 && (x233012 == 0 && (x233013 == 0))))))))))) else (none)) else (none)) else (none)) else (shuttlelaw07_TrellisEdges.l0 k x0 x4 x6 ((wrap64 (Int.tdiv x0 32)) % 256) 0 x217000 x217001 x217002 x217003 x217004 x217005 x217006 x217007 x217008 x217009 x217010 x217011 x217012 x217013 x233000 x233001 x233002 x233003 x233004 x233005 x233006 x233007 x233008 x233009 x233010 x233011 x233012 x233013)
def shuttlelaw07_TrellisEdges.l0 : Nat → Int → Int → Int → Int → Int → Int → Int → Int → Int → Int → Int → Int → Int → Int → Int → Int → Int → Int → Int → Int → Int → Int → Int → Int → Int → Int → Int → Int → Int → Int → Int → Int → Int → Option (Bool)
  | 0, _, _, _, _, _, _, _, _, _, _, _, _, _, _, _, _, _, _, _, _, _, _, _, _, _, _, _, _, _, _, _, _, _ => none
  | k + 1, x0, x4, x6, x7, x8, x217000, x217001, x217002, x217003, x217004, x217005, x217006, x217007, x217008, x217009, x217010, x217011, x217012, x217013, x233000, x233001, x233002, x233003, x233004, x233005, x233006, x233007, x233008, x233009, x233010, x233011, x233012, x233013 => if x8 < 2 then (if x8 = 0 then ((shuttleref07_Step.f k x0 0).bind fun bt250 => ((shuttlelaw07_same.f x217000 x217001 x217002 x217003 x217004 x217005 x217006 bt250.1 bt250.2.1 bt250.2.2.1 bt250.2.2.2.1 bt250.2.2.2.2.1 bt250.2.2.2.2.2.1 bt250.2.2.2.2.2.2).bind fun t257 => (if t257 = true then ((shuttleref07_Step.f k (wrap64 ((wrap64 ((Int.tmod x0 32) * 2)) + 0)) x7).bind fun bt258 => ((shuttlelaw07_same.f x233000 x233001 x233002 x233003 x233004 x233005 x233006 bt258.1 bt258.2.1 bt258.2.2.1 bt258.2.2.2.1 bt258.2.2.2.2.1 bt258.2.2.2.2.2.1 bt258.2.2.2.2.2.2).bind fun t265 => (if t265 = true then (shuttlelaw07_TrellisEdges.j3 k x0 x4 x6 x7 0 (x233001 != x0) x217000 x217001 x217002 x217003 x217004 x217005 x217006 x217007 x217008 x217009 x217010 x217011 x217012 x217013 x233000 x233001 x233002 x233003 x233004 x233005 x233006 x233007 x233008 x233009 x233010 x233011 x233012 x233013) else (none)))) else (none)))) else (if x8 = 1 then ((shuttleref07_Step.f k x0 1).bind fun bt234 => ((shuttlelaw07_same.f x217007 x217008 x217009 x217010 x217011 x217012 x217013 bt234.1 bt234.2.1 bt234.2.2.1 bt234.2.2.2.1 bt234.2.2.2.2.1 bt234.2.2.2.2.2.1 bt234.2.2.2.2.2.2).bind fun t241 => (if t241 = true then ((shuttleref07_Step.f k (wrap64 ((wrap64 ((Int.tmod x0 32) * 2)) + 1)) x7).bind fun bt242 => ((shuttlelaw07_same.f x233007 x233008 x233009 x233010 x233011 x233012 x233013 bt242.1 bt242.2.1 bt242.2.2.1 bt242.2.2.2.1 bt242.2.2.2.2.1 bt242.2.2.2.2.2.1 bt242.2.2.2.2.2.2).bind fun t249 => (if t249 = true then (shuttlelaw07_TrellisEdges.j3 k x0 x4 x6 x7 1 (x233008 != x0) x217000 x217001 x217002 x217003 x217004 x217005 x217006 x217007 x217008 x217009 x217010 x217011 x217012 x217013 x233000 x233001 x233002 x233003 x233004 x233005 x233006 x233007 x233008 x233009 x233010 x233011 x233012 x233013) else (none)))) else (none)))) else (none))) else (if x4 = 0 then (some (x6 == 0)) else (none))
def shuttlelaw07_TrellisEdges.j3 : Nat → Int → Int → Int → Int → Int → Bool → Int → Int → Int → Int → Int → Int → Int → Int → Int → Int → Int → Int → Int → Int → Int → Int → Int → Int → Int → Int → Int → Int → Int → Int → Int → Int → Int → Int → Option (Bool)
  | 0, _, _, _, _, _, _, _, _, _, _, _, _, _, _, _, _, _, _, _, _, _, _, _, _, _, _, _, _, _, _, _, _, _, _ => none
  | k + 1, x0, x4, x6, x7, x8, x82, x217000, x217001, x217002, x217003, x217004, x217005, x217006, x217007, x217008, x217009, x217010, x217011, x217012, x217013, x233000, x233001, x233002, x233003, x233004, x233005, x233006, x233007, x233008, x233009, x233010, x233011, x233012, x233013 => if x82 = true then (none) else (if x8 = 0 then ((trellis_Into.f x217001).bind fun bt282 => (if bt282.2.2.2.2.2.2.2.2.2.2.2.2.2.2 = 0 then (if (!(bt282.1 == x217000) || (!(bt282.2.1 == x217001) || (!(bt282.2.2.1 == x217002) || ((!(bt282.2.2.2.1 == x217003) || (!(bt282.2.2.2.2.1 == x217004) || (!(bt282.2.2.2.2.2.1 == x217005) || (!(bt282.2.2.2.2.2.2.1 == x217006))))))))) = true then (if (!(bt282.2.2.2.2.2.2.2.1 == x217000) || (!(bt282.2.2.2.2.2.2.2.2.1 == x217001) || (!(bt282.2.2.2.2.2.2.2.2.2.1 == x217002) || ((!(bt282.2.2.2.2.2.2.2.2.2.2.1 == x217003) || (!(bt282.2.2.2.2.2.2.2.2.2.2.2.1 == x217004) || (!(bt282.2.2.2.2.2.2.2.2.2.2.2.2.1 == x217005) || (!(bt282.2.2.2.2.2.2.2.2.2.2.2.2.2.1 == x217006))))))))) = true then (none) else (shuttlelaw07_TrellisEdges.l0 k x0 x4 x6 x7 (0 + 1) x217000 x217001 x217002 x217003 x217004 x217005 x217006 x217007 x217008 x217009 x217010 x217011 x217012 x217013 x233000 x233001 x233002 x233003 x233004 x233005 x233006 x233007 x233008 x233009 x233010 x233011 x233012 x233013)) else (shuttlelaw07_TrellisEdges.l0 k x0 x4 x6 x7 (0 + 1) x217000 x217001 x217002 x217003 x217004 x217005 x217006 x217007 x217008 x217009 x217010 x217011 x217012 x217013 x233000 x233001 x233002 x233003 x233004 x233005 x233006 x233007 x233008 x233009 x233010 x233011 x233012 x233013)) else (none))) else (if x8 = 1 then ((trellis_Into.f x217008).bind fun bt266 => (if bt266.2.2.2.2.2.2.2.2.2.2.2.2.2.2 = 0 then (if (!(bt266.1 == x217007) || (!(bt266.2.1 == x217008) || (!(bt266.2.2.1 == x217009) || ((!(bt266.2.2.2.1 == x217010) || (!(bt266.2.2.2.2.1 == x217011) || (!(bt266.2.2.2.2.2.1 == x217012) || (!(bt266.2.2.2.2.2.2.1 == x217013))))))))) = true then (if (!(bt266.2.2.2.2.2.2.2.1 == x217007) || (!(bt266.2.2.2.2.2.2.2.2.1 == x217008) || (!(bt266.2.2.2.2.2.2.2.2.2.1 == x217009) || ((!(bt266.2.2.2.2.2.2.2.2.2.2.1 == x217010) || (!(bt266.2.2.2.2.2.2.2.2.2.2.2.1 == x217011) || (!(bt266.2.2.2.2.2.2.2.2.2.2.2.2.1 == x217012) || (!(bt266.2.2.2.2.2.2.2.2.2.2.2.2.2.1 == x217013))))))))) = true then (none) else (shuttlelaw07_TrellisEdges.l0 k x0 x4 x6 x7 (1 + 1) x217000 x217001 x217002 x217003 x217004 x217005 x217006 x217007 x217008 x217009 x217010 x217011 x217012 x217013 x233000 x233001 x233002 x233003 x233004 x233005 x233006 x233007 x233008 x233009 x233010 x233011 x233012 x233013)) else (shuttlelaw07_TrellisEdges.l0 k x0 x4 x6 x7 (1 + 1) x217000 x217001 x217002 x217003 x217004 x217005 x217006 x217007 x217008 x217009 x217010 x217011 x217012 x217013 x233000 x233001 x233002 x233003 x233004 x233005 x233006 x233007 x233008 x233009 x233010 x233011 x233012 x233013)) else (none))) else (none)))
end
def shuttlelaw07_TrellisEdges.f (k : Nat) (a0 : Int) : Option (Bool) := (trellis_From.f a0).bind fun bt201 => ((trellis_Into.f a0).bind fun bt217 => ((shuttlelaw07_leads.f).bind fun t233 => (if t233 = true then (if a0 < 0 then (shuttlelaw07_TrellisEdges.j1 k a0 bt201.2.2.2.2.2.2.2.2.2.2.2.2.2.2 bt217.2.2.2.2.2.2.2.2.2.2.2.2.2.2 true bt201.1 bt201.2.1 bt201.2.2.1 bt201.2.2.2.1 bt201.2.2.2.2.1 bt201.2.2.2.2.2.1 bt201.2.2.2.2.2.2.1 bt201.2.2.2.2.2.2.2.1 bt201.2.2.2.2.2.2.2.2.1 bt201.2.2.2.2.2.2.2.2.2.1 bt201.2.2.2.2.2.2.2.2.2.2.1 bt201.2.2.2.2.2.2.2.2.2.2.2.1 bt201.2.2.2.2.2.2.2.2.2.2.2.2.1 bt201.2.2.2.2.2.2.2.2.2.2.2.2.2.1 bt217.1 bt217.2.1 bt217.2.2.1 bt217.2.2.2.1 bt217.2.2.2.2.1 bt217.2.2.2.2.2.1 bt217.2.2.2.2.2.2.1 bt217.2.2.2.2.2.2.2.1 bt217.2.2.2.2.2.2.2.2.1 bt217.2.2.2.2.2.2.2.2.2.1 bt217.2.2.2.2.2.2.2.2.2.2.1 bt217.2.2.2.2.2.2.2.2.2.2.2.1 bt217.2.2.2.2.2.2.2.2.2.2.2.2.1 bt217.2.2.2.2.2.2.2.2.2.2.2.2.2.1) else (shuttlelaw07_TrellisEdges.j1 k a0 bt201.2.2.2.2.2.2.2.2.2.2.2.2.2.2 bt217.2.2.2.2.2.2.2.2.2.2.2.2.2.2 (decide (a0 > 63)) bt201.1 bt201.2.1 bt201.2.2.1 bt201.2.2.2.1 bt201.2.2.2.2.1 bt201.2.2.2.2.2.1 bt201.2.2.2.2.2.2.1 bt201.2.2.2.2.2.2.2.1 bt201.2.2.2.2.2.2.2.2.1 bt201.2.2.2.2.2.2.2.2.2.1 bt201.2.2.2.2.2.2.2.2.2.2.1 bt201.2.2.2.2.2.2.2.2.2.2.2.1 bt201.2.2.2.2.2.2.2.2.2.2.2.2.1 bt201.2.2.2.2.2.2.2.2.2.2.2.2.2.1 bt217.1 bt217.2.1 bt217.2.2.1 bt217.2.2.2.1 bt217.2.2.2.2.1 bt217.2.2.2.2.2.1 bt217.2.2.2.2.2.2.1 bt217.2.2.2.2.2.2.2.1 bt217.2.2.2.2.2.2.2.2.1 bt217.2.2.2.2.2.2.2.2.2.1 bt217.2.2.2.2.2.2.2.2.2.2.1 bt217.2.2.2.2.2.2.2.2.2.2.2.1 bt217.2.2.2.2.2.2.2.2.2.2.2.2.1 bt217.2.2.2.2.2.2.2.2.2.2.2.2.2.1)) else (none))))
theorem shuttlelaw07_TrellisEdges.mono_l : ∀ k, (∀ y0 y1 y2 y3 y4 y5 y6 y7 y8 y9 y10 y11 y12 y13 y14 y15 y16 y17 y18 y19 y20 y21 y22 y23 y24 y25 y26 y27 y28 y29 y30 y31, LeO (shuttlelaw07_TrellisEdges.j1 k y0 y1 y2 y3 y4 y5 y6 y7 y8 y9 y10 y11 y12 y13 y14 y15 y16 y17 y18 y19 y20 y21 y22 y23 y24 y25 y26 y27 y28 y29 y30 y31) (shuttlelaw07_TrellisEdges.j1 (k + 1) y0 y1 y2 y3 y4 y5 y6 y7 y8 y9 y10 y11 y12 y13 y14 y15 y16 y17 y18 y19 y20 y21 y22 y23 y24 y25 y26 y27 y28 y29 y30 y31)) ∧ (∀ y0 y1 y2 y3 y4 y5 y6 y7 y8 y9 y10 y11 y12 y13 y14 y15 y16 y17 y18 y19 y20 y21 y22 y23 y24 y25 y26 y27 y28 y29 y30 y31 y32, LeO (shuttlelaw07_TrellisEdges.l0 k y0 y1 y2 y3 y4 y5 y6 y7 y8 y9 y10 y11 y12 y13 y14 y15 y16 y17 y18 y19 y20 y21 y22 y23 y24 y25 y26 y27 y28 y29 y30 y31 y32) (shuttlelaw07_TrellisEdges.l0 (k + 1) y0 y1 y2 y3 y4 y5 y6 y7 y8 y9 y10 y11 y12 y13 y14 y15 y16 y17 y18 y19 y20 y21 y22 y23 y24 y25 y26 y27 y28 y29 y30 y31 y32)) ∧ (∀ y0 y1 y2 y3 y4 y5 y6 y7 y8 y9 y10 y11 y12 y13 y14 y15 y16 y17 y18 y19 y20 y21 y22 y23 y24 y25 y26 y27 y28 y29 y30 y31 y32 y33, LeO (shuttlelaw07_TrellisEdges.j3 k y0 y1 y2 y3 y4 y5 y6 y7 y8 y9 y10 y11 y12 y13 y14 y15 y16 y17 y18 y19 y20 y21 y22 y23 y24 y25 y26 y27 y28 y29 y30 y31 y32 y33) (shuttlelaw07_TrellisEdges.j3 (k + 1) y0 y1 y2 y3 y4 y5 y6 y7 y8 y9 y10 y11 y12 y13 y14 y15 y16 y17 y18 y19 y20 y21 y22 y23 y24 y25 y26 y27 y28 y29 y30 y31 y32 y33))
  | 0 => ⟨fun _ _ _ _ _ _ _ _ _ _ _ _ _ _ _ _ _ _ _ _ _ _ _ _ _ _ _ _ _ _ _ _ r h => by simp [shuttlelaw07_TrellisEdges.j1] at h, fun _ _ _ _ _ _ _ _ _ _ _ _ _ _ _ _ _ _ _ _ _ _ _ _ _ _ _ _ _ _ _ _ _ r h => by simp [shuttlelaw07_TrellisEdges.l0] at h, fun _ _ _ _ _ _ _ _ _ _ _ _ _ _ _ _ _ _ _ _ _ _ _ _ _ _ _ _ _ _ _ _ _ _ r h => by simp [shuttlelaw07_TrellisEdges.j3] at h⟩
  | k + 1 => by
    obtain ⟨ih0, ih1, ih2⟩ := shuttlelaw07_TrellisEdges.mono_l k
    refine ⟨?_, ?_, ?_⟩
    · intro y0 y1 y2 y3 y4 y5 y6 y7 y8 y9 y10 y11 y12 y13 y14 y15 y16 y17 y18 y19 y20 y21 y22 y23 y24 y25 y26 y27 y28 y29 y30 y31
      unfold shuttlelaw07_TrellisEdges.j1
      repeat' first
      | (with_reducible exact ih0 _ _ _ _ _ _ _ _ _ _ _ _ _ _ _ _ _ _ _ _ _ _ _ _ _ _ _ _ _ _ _ _)
      | (with_reducible exact ih1 _ _ _ _ _ _ _ _ _ _ _ _ _ _ _ _ _ _ _ _ _ _ _ _ _ _ _ _ _ _ _ _ _)
      | (with_reducible exact ih2 _ _ _ _ _ _ _ _ _ _ _ _ _ _ _ _ _ _ _ _ _ _ _ _ _ _ _ _ _ _ _ _ _ _)
      | (with_reducible exact shuttleref07_Step.mono _ _ _)
      | (with_reducible exact LeO.refl _)
      | (with_reducible exact LeO.none _)
      | (with_reducible refine LeO.ite ?_ ?_)
      | (with_reducible refine LeO.bind ?_ (fun _ => ?_))
      | exact ih0 _ _ _ _ _ _ _ _ _ _ _ _ _ _ _ _ _ _ _ _ _ _ _ _ _ _ _ _ _ _ _ _
      | exact ih1 _ _ _ _ _ _ _ _ _ _ _ _ _ _ _ _ _ _ _ _ _ _ _ _ _ _ _ _ _ _ _ _ _
      | exact ih2 _ _ _ _ _ _ _ _ _ _ _ _ _ _ _ _ _ _ _ _ _ _ _ _ _ _ _ _ _ _ _ _ _ _
      | exact shuttleref07_Step.mono _ _ _
      | exact LeO.none _
      | refine LeO.ite ?_ ?_
      | refine LeO.bind ?_ (fun _ => ?_)
    · intro y0 y1 y2 y3 y4 y5 y6 y7 y8 y9 y10 y11 y12 y13 y14 y15 y16 y17 y18 y19 y20 y21 y22 y23 y24 y25 y26 y27 y28 y29 y30 y31 y32
      unfold shuttlelaw07_TrellisEdges.l0
      repeat' first
      | (with_reducible exact ih0 _ _ _ _ _ _ _ _ _ _ _ _ _ _ _ _ _ _ _ _ _ _ _ _ _ _ _ _ _ _ _ _)
      | (with_reducible exact ih1 _ _ _ _ _ _ _ _ _ _ _ _ _ _ _ _ _ _ _ _ _ _ _ _ _ _ _ _ _ _ _ _ _)
      | (with_reducible exact ih2 _ _ _ _ _ _ _ _ _ _ _ _ _ _ _ _ _ _ _ _ _ _ _ _ _ _ _ _ _ _ _ _ _ _)
      | (with_reducible exact shuttleref07_Step.mono _ _ _)
      | (with_reducible exact LeO.refl _)
      | (with_reducible exact LeO.none _)
      | (with_reducible refine LeO.ite ?_ ?_)
      | (with_reducible refine LeO.bind ?_ (fun _ => ?_))
      | exact ih0 _ _ _ _ _ _ _ _ _ _ _ _ _ _ _ _ _ _ _ _ _ _ _ _ _ _ _ _ _ _ _ _
      | exact ih1 _ _ _ _ _ _ _ _ _ _ _ _ _ _ _ _ _ _ _ _ _ _ _ _ _ _ _ _ _ _ _ _ _
      | exact ih2 _ _ _ _ _ _ _ _ _ _ _ _ _ _ _ _ _ _ _ _ _ _ _ _ _ _ _ _ _ _ _ _ _ _
      | exact shuttleref07_Step.mono _ _ _
      | exact LeO.none _
      | refine LeO.ite ?_ ?_
      | refine LeO.bind ?_ (fun _ => ?_)
    · intro y0 y1 y2 y3 y4 y5 y6 y7 y8 y9 y10 y11 y12 y13 y14 y15 y16 y17 y18 y19 y20 y21 y22 y23 y24 y25 y26 y27 y28 y29 y30 y31 y32 y33
      unfold shuttlelaw07_TrellisEdges.j3
      repeat' first
      | (with_reducible exact ih0 _ _ _ _ _ _ _ _ _ _ _ _ _ _ _ _ _ _ _ _ _ _ _ _ _ _ _ _ _ _ _ _)
      | (with_reducible exact ih1 _ _ _ _ _ _ _ _ _ _ _ _ _ _ _ _ _ _ _ _ _ _ _ _ _ _ _ _ _ _ _ _ _)
      | (with_reducible exact ih2 _ _ _ _ _ _ _ _ _ _ _ _ _ _ _ _ _ _ _ _ _ _ _ _ _ _ _ _ _ _ _ _ _ _)
      | (with_reducible exact shuttleref07_Step.mono _ _ _)
      | (with_reducible exact LeO.refl _)
      | (with_reducible exact LeO.none _)
      | (with_reducible refine LeO.ite ?_ ?_)
      | (with_reducible refine LeO.bind ?_ (fun _ => ?_))
      | exact ih0 _ _ _ _ _ _ _ _ _ _ _ _ _ _ _ _ _ _ _ _ _ _ _ _ _ _ _ _ _ _ _ _
      | exact ih1 _ _ _ _ _ _ _ _ _ _ _ _ _ _ _ _ _ _ _ _ _ _ _ _ _ _ _ _ _ _ _ _ _
      | exact ih2 _ _ _ _ _ _ _ _ _ _ _ _ _ _ _ _ _ _ _ _ _ _ _ _ _ _ _ _ _ _ _ _ _ _
      | exact shuttleref07_Step.mono _ _ _
      | exact LeO.none _
      | refine LeO.ite ?_ ?_
      | refine LeO.bind ?_ (fun _ => ?_)
theorem shuttlelaw07_TrellisEdges.mono : ∀ a0 k, LeO (shuttlelaw07_TrellisEdges.f k a0) (shuttlelaw07_TrellisEdges.f (k + 1) a0) := by
  intro a0 k
  obtain ⟨ih0, ih1, ih2⟩ := shuttlelaw07_TrellisEdges.mono_l k
  unfold shuttlelaw07_TrellisEdges.f
  repeat' first
      | (with_reducible exact ih0 _ _ _ _ _ _ _ _ _ _ _ _ _ _ _ _ _ _ _ _ _ _ _ _ _ _ _ _ _ _ _ _)
      | (with_reducible exact ih1 _ _ _ _ _ _ _ _ _ _ _ _ _ _ _ _ _ _ _ _ _ _ _ _ _ _ _ _ _ _ _ _ _)
      | (with_reducible exact ih2 _ _ _ _ _ _ _ _ _ _ _ _ _ _ _ _ _ _ _ _ _ _ _ _ _ _ _ _ _ _ _ _ _ _)
      | (with_reducible exact shuttleref07_Step.mono _ _ _)
      | (with_reducible exact LeO.refl _)
      | (with_reducible exact LeO.none _)
      | (with_reducible refine LeO.ite ?_ ?_)
      | (with_reducible refine LeO.bind ?_ (fun _ => ?_))
      | exact ih0 _ _ _ _ _ _ _ _ _ _ _ _ _ _ _ _ _ _ _ _ _ _ _ _ _ _ _ _ _ _ _ _
      | exact ih1 _ _ _ _ _ _ _ _ _ _ _ _ _ _ _ _ _ _ _ _ _ _ _ _ _ _ _ _ _ _ _ _ _
      | exact ih2 _ _ _ _ _ _ _ _ _ _ _ _ _ _ _ _ _ _ _ _ _ _ _ _ _ _ _ _ _ _ _ _ _ _
      | exact shuttleref07_Step.mono _ _ _
      | exact LeO.none _
      | refine LeO.ite ?_ ?_
      | refine LeO.bind ?_ (fun _ => ?_)
def shuttlelaw07_TrellisEdges.T11 : Bool × List (List Nat × List Nat) := (true, [([], []), ([0], [0]), ([1], [1]), ([], []), ([], []), ([4], [4]), ([3, 5], [3, 5]), ([2, 6, 6], [2, 6]), ([7], [7]), ([8, 7], [8]), ([9], [9]), ([10, 9], [9, 10]), ([11, 9], [9, 11]), ([9], [9]), ([13, 9], [9, 13]), ([14, 9], [9, 14]), ([9], [9]), ([15, 16, 9], [9, 15, 16]), ([9], [9]), ([17, 18, 9, 9], [9, 17, 18]), ([12, 19, 19, 9], [9, 12, 19]), ([20, 9], [9, 20]), ([9, 21], [9, 21]), ([22, 20], [22]), ([23], [23]), ([24, 23], [23, 24]), ([25, 23], [23, 25]), ([26, 23], [23, 26]), ([23], [23]), ([27, 28, 23], [23, 27, 28]), ([23, 29], [23, 29])])
def shuttlelaw07_TrellisEdges.B11 : List Nat := [0, 1, 3, 0, 0, 16, 56, 127, 255, 511, 1023, 2047, 4095, 1023, 9215, 25599, 1023, 123903, 1023, 517119, 1048575, 2097151, 4194303, 8388607, 16777215, 33554431, 67108863, 134217727, 16777215, 536870911, 1073741823]
theorem shuttlelaw07_TrellisEdges.tab11 : rtab .any (opsOf Tryd.f3 11) = shuttlelaw07_TrellisEdges.T11 := by kernel_rfl
theorem shuttlelaw07_TrellisEdges.bits11 : waitsOk shuttlelaw07_TrellisEdges.T11.2 shuttlelaw07_TrellisEdges.B11 = true := by kernel_rfl
def shuttlelaw07_TrellisEdges.T14 : Bool × List (List Nat × List Nat) := (true, [([], []), ([0], [0]), ([1], [1]), ([2], [2]), ([3, 2], [2, 3]), ([2], [2]), ([5, 2], [2, 5]), ([6, 2], [2, 6]), ([4, 7, 2], [2, 4, 7]), ([8, 2, 2], [2, 8]), ([9], [9]), ([10, 9], [9, 10]), ([9], [9]), ([12, 9], [9, 12]), ([13, 9], [9, 13]), ([11, 14, 9], [9, 11, 14]), ([9, 15, 2], [2, 9, 15]), ([2, 16], [2, 16])])
def shuttlelaw07_TrellisEdges.B14 : List Nat := [0, 1, 3, 7, 15, 7, 39, 103, 255, 511, 1023, 2047, 1023, 5119, 13311, 32767, 65535, 131071]
theorem shuttlelaw07_TrellisEdges.tab14 : rtab .any (opsOf Tryd.f3 14) = shuttlelaw07_TrellisEdges.T14 := by kernel_rfl
theorem shuttlelaw07_TrellisEdges.bits14 : waitsOk shuttlelaw07_TrellisEdges.T14.2 shuttlelaw07_TrellisEdges.B14 = true := by kernel_rfl
abbrev tY : Bool := true
abbrev tN : Bool := false
theorem sq_a1 {α : Type} (l : List α) (i : Nat) (x : α) : l.toArray.setIfInBounds i x = (l.set i x).toArray := List.setIfInBounds_toArray ..
theorem sq_a2 {α : Type} (a : α) (s : List α) (x : α) : (a :: s).set 0 x = x :: s := List.set_cons_zero
theorem sq_a3 {α : Type} (a : α) (s : List α) (n : Nat) (x : α) : (a :: s).set (n + 1) x = a :: s.set n x := List.set_cons_succ
theorem sq_m {p : Prop} (h : p) : Aside0 p := ⟨h⟩
theorem sq_b {w W : World} (h : Below w.heap.size w W) (o : Obj) : Below w.heap.size w (W.alloc o) := below_alloc h o
theorem sq_n {B : Nat} {w W : World} (h : Below B w W) (n : Nat) : Below B w (W.drewN n) := pw_below_drewN h n
theorem sq_d {B : Nat} {w W : World} (h : Below B w W) : Below B w W.drew := below_drew1 h
theorem sq_N {α : Type} {d : Kd α} {e : Nat} {w : World} {base : Nat} {ok : Nat → Prop} {v : Value} {xs : List α} (h : d.R e w base ok v xs) (m : Nat) : d.R e (w.drewN m) base ok v xs := Kd.R_drewN h m
theorem sq_D {α : Type} {d : Kd α} {e : Nat} {w : World} {base : Nat} {ok : Nat → Prop} {v : Value} {xs : List α} (h : d.R e w base ok v xs) : d.R e w.drew base ok v xs := Kd.R_drew h
theorem sq_A {α : Type} {d : Kd α} {e : Nat} {w : World} {base : Nat} {ok : Nat → Prop} {v : Value} {xs : List α} (h : d.R e w base ok v xs) (o : Obj) : d.R e (w.alloc o) base ok v xs := Kd.R_alloc h o
theorem sq_R {α : Type} {d : Kd α} {e : Nat} {w W : World} {base : Nat} {ok : Nat → Prop} {v : Value} {xs : List α} (h : d.R e w base ok v xs) (t : d.R e w base ok v xs → d.R e W base ok v xs := by intro h; (with_reducible repeat (first | apply sq_A | apply sq_N | apply sq_D)); exact h) : d.R e W base ok v xs := t h
theorem sq_B {B : Nat} {w w' W : World} (h : Below B w w') (t : Below B w w' → Below B w W := by intro h; (with_reducible repeat (first | exact h | apply sq_b | apply sq_n | apply sq_d))) : Below B w W := t h
abbrev mk0 : Array Bool := #[tN,tN,tN,tN,tN,tN,tN,tN,tN,tN,tN,tN,tN,tN,tN,tN,tN,tN,tN,tN,tN,tN,tN,tN,tN,tN,tN,tN,tN,tN,tN]
abbrev mk1 : Array Bool := #[tY,tN,tN,tN,tN,tN,tN,tN,tN,tN,tN,tN,tN,tN,tN,tN,tN,tN,tN,tN,tN,tN,tN,tN,tN,tN,tN,tN,tN,tN,tN]
abbrev mk2 : Array Bool := #[tY,tY,tN,tN,tN,tN,tN,tN,tN,tN,tN,tN,tN,tN,tN,tN,tN,tN,tN,tN,tN,tN,tN,tN,tN,tN,tN,tN,tN,tN,tN]
abbrev mk3 : Array Bool := #[tY,tY,tN,tY,tN,tN,tN,tN,tN,tN,tN,tN,tN,tN,tN,tN,tN,tN,tN,tN,tN,tN,tN,tN,tN,tN,tN,tN,tN,tN,tN]
abbrev mk4 : Array Bool := #[tY,tY,tN,tY,tY,tN,tN,tN,tN,tN,tN,tN,tN,tN,tN,tN,tN,tN,tN,tN,tN,tN,tN,tN,tN,tN,tN,tN,tN,tN,tN]
abbrev mk5 : Array Bool := #[tY,tY,tN,tY,tY,tY,tN,tN,tN,tN,tN,tN,tN,tN,tN,tN,tN,tN,tN,tN,tN,tN,tN,tN,tN,tN,tN,tN,tN,tN,tN]
abbrev mk6 : Array Bool := #[tY,tY,tY,tY,tY,tY,tN,tN,tN,tN,tN,tN,tN,tN,tN,tN,tN,tN,tN,tN,tN,tN,tN,tN,tN,tN,tN,tN,tN,tN,tN]
abbrev mk7 : Array Bool := #[tY,tY,tY,tY,tY,tY,tY,tN,tN,tN,tN,tN,tN,tN,tN,tN,tN,tN,tN,tN,tN,tN,tN,tN,tN,tN,tN,tN,tN,tN,tN]
abbrev mk8 : Array Bool := #[tY,tY,tY,tY,tY,tY,tY,tY,tN,tN,tN,tN,tN,tN,tN,tN,tN,tN,tN,tN,tN,tN,tN,tN,tN,tN,tN,tN,tN,tN,tN]
abbrev mk9 : Array Bool := #[tY,tY,tY,tY,tY,tY,tY,tY,tY,tN,tN,tN,tN,tN,tN,tN,tN,tN,tN,tN,tN,tN,tN,tN,tN,tN,tN,tN,tN,tN,tN]
abbrev mk10 : Array Bool := #[tY,tY,tY,tY,tY,tY,tY,tY,tY,tY,tN,tN,tN,tN,tN,tN,tN,tN,tN,tN,tN,tN,tN,tN,tN,tN,tN,tN,tN,tN,tN]
abbrev mk11 : Array Bool := #[tY,tY,tY,tY,tY,tY,tY,tY,tY,tY,tY,tN,tN,tN,tN,tN,tN,tN,tN,tN,tN,tN,tN,tN,tN,tN,tN,tN,tN,tN,tN]
abbrev mk12 : Array Bool := #[tY,tY,tY,tY,tY,tY,tY,tY,tY,tY,tY,tY,tN,tN,tN,tN,tN,tN,tN,tN,tN,tN,tN,tN,tN,tN,tN,tN,tN,tN,tN]
abbrev mk13 : Array Bool := #[tY,tY,tY,tY,tY,tY,tY,tY,tY,tY,tY,tY,tN,tY,tN,tN,tN,tN,tN,tN,tN,tN,tN,tN,tN,tN,tN,tN,tN,tN,tN]
abbrev mk14 : Array Bool := #[tY,tY,tY,tY,tY,tY,tY,tY,tY,tY,tY,tY,tN,tY,tY,tN,tN,tN,tN,tN,tN,tN,tN,tN,tN,tN,tN,tN,tN,tN,tN]
abbrev mk15 : Array Bool := #[tY,tY,tY,tY,tY,tY,tY,tY,tY,tY,tY,tY,tN,tY,tY,tY,tN,tN,tN,tN,tN,tN,tN,tN,tN,tN,tN,tN,tN,tN,tN]
abbrev mk16 : Array Bool := #[tY,tY,tY,tY,tY,tY,tY,tY,tY,tY,tY,tY,tN,tY,tY,tY,tY,tN,tN,tN,tN,tN,tN,tN,tN,tN,tN,tN,tN,tN,tN]
abbrev mk17 : Array Bool := #[tY,tY,tY,tY,tY,tY,tY,tY,tY,tY,tY,tY,tN,tY,tY,tY,tY,tY,tN,tN,tN,tN,tN,tN,tN,tN,tN,tN,tN,tN,tN]
abbrev mk18 : Array Bool := #[tY,tY,tY,tY,tY,tY,tY,tY,tY,tY,tY,tY,tN,tY,tY,tY,tY,tY,tY,tN,tN,tN,tN,tN,tN,tN,tN,tN,tN,tN,tN]
abbrev mk19 : Array Bool := #[tY,tY,tY,tY,tY,tY,tY,tY,tY,tY,tY,tY,tY,tY,tY,tY,tY,tY,tY,tN,tN,tN,tN,tN,tN,tN,tN,tN,tN,tN,tN]
abbrev mk20 : Array Bool := #[tY,tY,tY,tY,tY,tY,tY,tY,tY,tY,tY,tY,tY,tY,tY,tY,tY,tY,tY,tY,tN,tN,tN,tN,tN,tN,tN,tN,tN,tN,tN]
abbrev mk21 : Array Bool := #[tY,tY,tY,tY,tY,tY,tY,tY,tY,tY,tY,tY,tY,tY,tY,tY,tY,tY,tY,tY,tY,tN,tN,tN,tN,tN,tN,tN,tN,tN,tN]
abbrev mk22 : Array Bool := #[tY,tY,tY,tY,tY,tY,tY,tY,tY,tY,tY,tY,tY,tY,tY,tY,tY,tY,tY,tY,tY,tY,tN,tN,tN,tN,tN,tN,tN,tN,tN]
abbrev mk23 : Array Bool := #[tY,tY,tY,tY,tY,tY,tY,tY,tY,tY,tY,tY,tY,tY,tY,tY,tY,tY,tY,tY,tY,tY,tY,tN,tN,tN,tN,tN,tN,tN,tN]
abbrev mk24 : Array Bool := #[tY,tY,tY,tY,tY,tY,tY,tY,tY,tY,tY,tY,tY,tY,tY,tY,tY,tY,tY,tY,tY,tY,tY,tY,tN,tN,tN,tN,tN,tN,tN]
abbrev mk25 : Array Bool := #[tY,tY,tY,tY,tY,tY,tY,tY,tY,tY,tY,tY,tY,tY,tY,tY,tY,tY,tY,tY,tY,tY,tY,tY,tY,tN,tN,tN,tN,tN,tN]
abbrev mk26 : Array Bool := #[tY,tY,tY,tY,tY,tY,tY,tY,tY,tY,tY,tY,tY,tY,tY,tY,tY,tY,tY,tY,tY,tY,tY,tY,tY,tY,tN,tN,tN,tN,tN]
abbrev mk27 : Array Bool := #[tY,tY,tY,tY,tY,tY,tY,tY,tY,tY,tY,tY,tY,tY,tY,tY,tY,tY,tY,tY,tY,tY,tY,tY,tY,tY,tY,tN,tN,tN,tN]
abbrev mk28 : Array Bool := #[tY,tY,tY,tY,tY,tY,tY,tY,tY,tY,tY,tY,tY,tY,tY,tY,tY,tY,tY,tY,tY,tY,tY,tY,tY,tY,tY,tN,tY,tN,tN]
abbrev mk29 : Array Bool := #[tY,tY,tY,tY,tY,tY,tY,tY,tY,tY,tY,tY,tY,tY,tY,tY,tY,tY,tY,tY,tY,tY,tY,tY,tY,tY,tY,tY,tY,tN,tN]
abbrev mk30 : Array Bool := #[tY,tY,tY,tY,tY,tY,tY,tY,tY,tY,tY,tY,tY,tY,tY,tY,tY,tY,tY,tY,tY,tY,tY,tY,tY,tY,tY,tY,tY,tY,tN]
abbrev mk31 : Array Bool := #[tY,tY,tY,tY,tY,tY,tY,tY,tY,tY,tY,tY,tY,tY,tY,tY,tY,tY,tY,tY,tY,tY,tY,tY,tY,tY,tY,tY,tY,tY,tY]
abbrev mk32 : Array Bool := #[tN,tN,tN,tN,tN,tN,tN,tN,tN,tN,tN,tN,tN,tN,tN,tN,tN,tN]
abbrev mk33 : Array Bool := #[tY,tN,tN,tN,tN,tN,tN,tN,tN,tN,tN,tN,tN,tN,tN,tN,tN,tN]
abbrev mk34 : Array Bool := #[tY,tY,tN,tN,tN,tN,tN,tN,tN,tN,tN,tN,tN,tN,tN,tN,tN,tN]
abbrev mk35 : Array Bool := #[tY,tY,tY,tN,tN,tN,tN,tN,tN,tN,tN,tN,tN,tN,tN,tN,tN,tN]
abbrev mk36 : Array Bool := #[tY,tY,tY,tY,tN,tN,tN,tN,tN,tN,tN,tN,tN,tN,tN,tN,tN,tN]
abbrev mk37 : Array Bool := #[tY,tY,tY,tY,tN,tY,tN,tN,tN,tN,tN,tN,tN,tN,tN,tN,tN,tN]
abbrev mk38 : Array Bool := #[tY,tY,tY,tY,tN,tY,tY,tN,tN,tN,tN,tN,tN,tN,tN,tN,tN,tN]
abbrev mk39 : Array Bool := #[tY,tY,tY,tY,tY,tY,tY,tN,tN,tN,tN,tN,tN,tN,tN,tN,tN,tN]
abbrev mk40 : Array Bool := #[tY,tY,tY,tY,tY,tY,tY,tY,tN,tN,tN,tN,tN,tN,tN,tN,tN,tN]
abbrev mk41 : Array Bool := #[tY,tY,tY,tY,tY,tY,tY,tY,tY,tN,tN,tN,tN,tN,tN,tN,tN,tN]
abbrev mk42 : Array Bool := #[tY,tY,tY,tY,tY,tY,tY,tY,tY,tY,tN,tN,tN,tN,tN,tN,tN,tN]
abbrev mk43 : Array Bool := #[tY,tY,tY,tY,tY,tY,tY,tY,tY,tY,tY,tN,tN,tN,tN,tN,tN,tN]
abbrev mk44 : Array Bool := #[tY,tY,tY,tY,tY,tY,tY,tY,tY,tY,tY,tN,tY,tN,tN,tN,tN,tN]
abbrev mk45 : Array Bool := #[tY,tY,tY,tY,tY,tY,tY,tY,tY,tY,tY,tN,tY,tY,tN,tN,tN,tN]
abbrev mk46 : Array Bool := #[tY,tY,tY,tY,tY,tY,tY,tY,tY,tY,tY,tY,tY,tY,tN,tN,tN,tN]
abbrev mk47 : Array Bool := #[tY,tY,tY,tY,tY,tY,tY,tY,tY,tY,tY,tY,tY,tY,tY,tN,tN,tN]
abbrev mk48 : Array Bool := #[tY,tY,tY,tY,tY,tY,tY,tY,tY,tY,tY,tY,tY,tY,tY,tY,tN,tN]
abbrev mk49 : Array Bool := #[tY,tY,tY,tY,tY,tY,tY,tY,tY,tY,tY,tY,tY,tY,tY,tY,tY,tN]
abbrev mk50 : Array Bool := #[tY,tY,tY,tY,tY,tY,tY,tY,tY,tY,tY,tY,tY,tY,tY,tY,tY,tY]
abbrev mk51 : Array Bool := #[tY,tY,tY,tY,tY,tY,tY,tY,tY,tY,tY,tY,tN,tN,tN,tN,tN,tN]
abbrev mk52 : Array Bool := #[tY,tY,tY,tY,tY,tY,tY,tY,tY,tY,tY,tY,tY,tN,tN,tN,tN,tN]
set_option maxHeartbeats 8000000 in
set_option maxRecDepth 100000 in
theorem shuttlelaw07_TrellisEdges.calls (k : Nat) (a0 : Int) (r : Bool) (w : World) (h : shuttlelaw07_TrellisEdges.f k a0 = some r) (hT_ : TP w := by first | assumption | exact TP_of (by assumption : TP _) (by repeat (first | (with_reducible first | apply below_alloc | apply pw_below_drewN | apply below_drew1 | refine below_set ?_ (Aside0.out (by assumption))) | exact Aside0.out (by assumption) | exact Below.refl _ _))) :
  Calls Tryd.prog 3 #[.int .i64 a0] w fun e w' => e = .returned (.bool r) ∧ Below w.heap.size w w' := by
 have hu25 := Tryd.underlying25
 have hu24 := Tryd.underlying24
 have HB := sq_m (Below.refl w.heap.size w)
 have H : ((trellis_From.f a0).bind fun bt201 => ((trellis_Into.f a0).bind fun bt217 => ((shuttlelaw07_leads.f).bind fun t233 => (if t233 = true then (if a0 < 0 then (shuttlelaw07_TrellisEdges.j1 k a0 bt201.2.2.2.2.2.2.2.2.2.2.2.2.2.2 bt217.2.2.2.2.2.2.2.2.2.2.2.2.2.2 true bt201.1 bt201.2.1 bt201.2.2.1 bt201.2.2.2.1 bt201.2.2.2.2.1 bt201.2.2.2.2.2.1 bt201.2.2.2.2.2.2.1 bt201.2.2.2.2.2.2.2.1 bt201.2.2.2.2.2.2.2.2.1 bt201.2.2.2.2.2.2.2.2.2.1 bt201.2.2.2.2.2.2.2.2.2.2.1 bt201.2.2.2.2.2.2.2.2.2.2.2.1 bt201.2.2.2.2.2.2.2.2.2.2.2.2.1 bt201.2.2.2.2.2.2.2.2.2.2.2.2.2.1 bt217.1 bt217.2.1 bt217.2.2.1 bt217.2.2.2.1 bt217.2.2.2.2.1 bt217.2.2.2.2.2.1 bt217.2.2.2.2.2.2.1 bt217.2.2.2.2.2.2.2.1 bt217.2.2.2.2.2.2.2.2.1 bt217.2.2.2.2.2.2.2.2.2.1 bt217.2.2.2.2.2.2.2.2.2.2.1 bt217.2.2.2.2.2.2.2.2.2.2.2.1 bt217.2.2.2.2.2.2.2.2.2.2.2.2.1 bt217.2.2.2.2.2.2.2.2.2.2.2.2.2.1) else (shuttlelaw07_TrellisEdges.j1 k a0 bt201.2.2.2.2.2.2.2.2.2.2.2.2.2.2 bt217.2.2.2.2.2.2.2.2.2.2.2.2.2.2 (decide (a0 > 63)) bt201.1 bt201.2.1 bt201.2.2.1 bt201.2.2.2.1 bt201.2.2.2.2.1 bt201.2.2.2.2.2.1 bt201.2.2.2.2.2.2.1 bt201.2.2.2.2.2.2.2.1 bt201.2.2.2.2.2.2.2.2.1 bt201.2.2.2.2.2.2.2.2.2.1 bt201.2.2.2.2.2.2.2.2.2.2.1 bt201.2.2.2.2.2.2.2.2.2.2.2.1 bt201.2.2.2.2.2.2.2.2.2.2.2.2.1 bt201.2.2.2.2.2.2.2.2.2.2.2.2.2.1 bt217.1 bt217.2.1 bt217.2.2.1 bt217.2.2.2.1 bt217.2.2.2.2.1 bt217.2.2.2.2.2.1 bt217.2.2.2.2.2.2.1 bt217.2.2.2.2.2.2.2.1 bt217.2.2.2.2.2.2.2.2.1 bt217.2.2.2.2.2.2.2.2.2.1 bt217.2.2.2.2.2.2.2.2.2.2.1 bt217.2.2.2.2.2.2.2.2.2.2.2.1 bt217.2.2.2.2.2.2.2.2.2.2.2.2.1 bt217.2.2.2.2.2.2.2.2.2.2.2.2.2.1)) else (none))))) = some r := h
 clear h
 replace H := Option.bind_eq_some_iff.mp H
 obtain ⟨⟨zj, zi, zk, zl, zn, zo, zp, zq, zm, zr, zs, zt, zu, zv, zas⟩, A20, H⟩ := H
 replace H : ((trellis_Into.f a0).bind fun bt217 => ((shuttlelaw07_leads.f).bind fun t233 => (if t233 = true then (if a0 < 0 then (shuttlelaw07_TrellisEdges.j1 k a0 zas bt217.2.2.2.2.2.2.2.2.2.2.2.2.2.2 true zj zi zk zl zn zo zp zq zm zr zs zt zu zv bt217.1 bt217.2.1 bt217.2.2.1 bt217.2.2.2.1 bt217.2.2.2.2.1 bt217.2.2.2.2.2.1 bt217.2.2.2.2.2.2.1 bt217.2.2.2.2.2.2.2.1 bt217.2.2.2.2.2.2.2.2.1 bt217.2.2.2.2.2.2.2.2.2.1 bt217.2.2.2.2.2.2.2.2.2.2.1 bt217.2.2.2.2.2.2.2.2.2.2.2.1 bt217.2.2.2.2.2.2.2.2.2.2.2.2.1 bt217.2.2.2.2.2.2.2.2.2.2.2.2.2.1) else (shuttlelaw07_TrellisEdges.j1 k a0 zas bt217.2.2.2.2.2.2.2.2.2.2.2.2.2.2 (decide (a0 > 63)) zj zi zk zl zn zo zp zq zm zr zs zt zu zv bt217.1 bt217.2.1 bt217.2.2.1 bt217.2.2.2.1 bt217.2.2.2.2.1 bt217.2.2.2.2.2.1 bt217.2.2.2.2.2.2.1 bt217.2.2.2.2.2.2.2.1 bt217.2.2.2.2.2.2.2.2.1 bt217.2.2.2.2.2.2.2.2.2.1 bt217.2.2.2.2.2.2.2.2.2.2.1 bt217.2.2.2.2.2.2.2.2.2.2.2.1 bt217.2.2.2.2.2.2.2.2.2.2.2.2.1 bt217.2.2.2.2.2.2.2.2.2.2.2.2.2.1)) else (none)))) = some r := H
 have A2 := sq_m A20
 clear A20
 replace H := Option.bind_eq_some_iff.mp H
 obtain ⟨⟨zx, zw, zz, zaa, zab, zac, zad, zae, zy, zaf, zag, zah, zai, zaj, zaz⟩, A30, H⟩ := H
 replace H : ((shuttlelaw07_leads.f).bind fun t233 => (if t233 = true then (if a0 < 0 then (shuttlelaw07_TrellisEdges.j1 k a0 zas zaz true zj zi zk zl zn zo zp zq zm zr zs zt zu zv zx zw zz zaa zab zac zad zae zy zaf zag zah zai zaj) else (shuttlelaw07_TrellisEdges.j1 k a0 zas zaz (decide (a0 > 63)) zj zi zk zl zn zo zp zq zm zr zs zt zu zv zx zw zz zaa zab zac zad zae zy zaf zag zah zai zaj)) else (none))) = some r := H
 have A3 := sq_m A30
 clear A30
 replace H := Option.bind_eq_some_iff.mp H
 obtain ⟨t233, A40, H⟩ := H
 replace H : (if t233 = true then (if a0 < 0 then (shuttlelaw07_TrellisEdges.j1 k a0 zas zaz true zj zi zk zl zn zo zp zq zm zr zs zt zu zv zx zw zz zaa zab zac zad zae zy zaf zag zah zai zaj) else (shuttlelaw07_TrellisEdges.j1 k a0 zas zaz (decide (a0 > 63)) zj zi zk zl zn zo zp zq zm zr zs zt zu zv zx zw zz zaa zab zac zad zae zy zaf zag zah zai zaj)) else (none)) = some r := H
 have A4 := sq_m A40
 clear A40
 by_cases c5 : t233 = true
 ·subst c5
  have H1 : (if a0 < 0 then (shuttlelaw07_TrellisEdges.j1 k a0 zas zaz true zj zi zk zl zn zo zp zq zm zr zs zt zu zv zx zw zz zaa zab zac zad zae zy zaf zag zah zai zaj) else (shuttlelaw07_TrellisEdges.j1 k a0 zas zaz (decide (a0 > 63)) zj zi zk zl zn zo zp zq zm zr zs zt zu zv zx zw zz zaa zab zac zad zae zy zaf zag zah zai zaj)) = some r := by rw [if_pos rfl] at H; exact H
  clear H
  have H := H1
  clear H1
  have HC6 := sq_m H
  clear H
  go_enter Tryd.func3, Tryd.ntmps3
  go_upto_region 5 with (first | ((with_reducible refine gate_callee (f := 9) rfl ?_); refine goesL_ (some 13) rfl rfl Tryd.func9 (by kernel_rfl) rfl #[.int .i64 a0] rfl (by (try simp only [List.map_toArray, List.map_cons, List.map_nil]); first | done | rfl | (simp only [List.length_drop, List.length_take]; rfl)) ?_; (with_reducible refine (trellis_From.calls a0 zj zi zk zl zn zo zp zq zm zr zs zt zu zv zas _ A2.out).mono ?_); rintro e w7 ⟨rfl, hb⟩; refine ⟨_, rfl, ?_⟩; have n0_ := sq_m (below_step (sq_B HB.out) hb); clear HB; have HB := n0_; clear n0_; (try clear hb); (try clear hb2); (try clear hk); (try clear hi)) | ((with_reducible refine gate_dst (N := 3) rfl ?_); refine box_event ?hg (N := 3) ?hd (cs := #[.int .i64 0, .int .i64 0, .int .u8 0, .int .u8 0, .int .u8 0, .int .u8 0, .int .u8 0, .int .i64 0, .int .i64 0, .int .u8 0, .int .u8 0, .int .u8 0, .int .u8 0, .int .u8 0]) (t := 25) ?hr ?_; (case hd => rfl); (case hg => rfl); (case hr => first | (go_simp; done) | (go_simp; rfl)); intro zc hg w8 hbox hb; have n0_ := sq_m (below_step (sq_B HB.out) hb); have n1_ := sq_m (hbox); have n2_ := sq_m ((by rw [hg]; exact (below_size (sq_B HB.out)) : w.heap.size ≤ zc)); have n3_ := sq_m ((by rw [hg]; exact (below_size (sq_B HB.out)) : w.heap.size ≤ zc)); clear HB; have HB := n0_; have za := n1_; have GW216 := n2_; have zak := n3_; clear n0_ n1_ n2_ n3_; clear hb hbox hg; have hcz9_0 : w8.cell? ⟨zc, 0, none⟩ = some (.int .i64 0) := (blk_cell za.out 0).trans rfl; have hcz9_1 : w8.cell? ⟨zc, 1, none⟩ = some (.int .i64 0) := (blk_cell za.out 1).trans rfl; have hcz9_2 : w8.cell? ⟨zc, 2, none⟩ = some (.int .u8 0) := (blk_cell za.out 2).trans rfl; have hcz9_3 : w8.cell? ⟨zc, 3, none⟩ = some (.int .u8 0) := (blk_cell za.out 3).trans rfl; have hcz9_4 : w8.cell? ⟨zc, 4, none⟩ = some (.int .u8 0) := (blk_cell za.out 4).trans rfl; have hcz9_5 : w8.cell? ⟨zc, 5, none⟩ = some (.int .u8 0) := (blk_cell za.out 5).trans rfl; have hcz9_6 : w8.cell? ⟨zc, 6, none⟩ = some (.int .u8 0) := (blk_cell za.out 6).trans rfl; have hcz9_7 : w8.cell? ⟨zc, 7, none⟩ = some (.int .i64 0) := (blk_cell za.out 7).trans rfl; have hcz9_8 : w8.cell? ⟨zc, 8, none⟩ = some (.int .i64 0) := (blk_cell za.out 8).trans rfl; have hcz9_9 : w8.cell? ⟨zc, 9, none⟩ = some (.int .u8 0) := (blk_cell za.out 9).trans rfl; have hcz9_10 : w8.cell? ⟨zc, 10, none⟩ = some (.int .u8 0) := (blk_cell za.out 10).trans rfl; have hcz9_11 : w8.cell? ⟨zc, 11, none⟩ = some (.int .u8 0) := (blk_cell za.out 11).trans rfl; have hcz9_12 : w8.cell? ⟨zc, 12, none⟩ = some (.int .u8 0) := (blk_cell za.out 12).trans rfl; have hcz9_13 : w8.cell? ⟨zc, 13, none⟩ = some (.int .u8 0) := (blk_cell za.out 13).trans rfl; have hfz9_0 := blk_frozen za.out 0; have hfz9_1 := blk_frozen za.out 1; have hfz9_2 := blk_frozen za.out 2; have hfz9_3 := blk_frozen za.out 3; have hfz9_4 := blk_frozen za.out 4; have hfz9_5 := blk_frozen za.out 5; have hfz9_6 := blk_frozen za.out 6; have hfz9_7 := blk_frozen za.out 7; have hfz9_8 := blk_frozen za.out 8; have hfz9_9 := blk_frozen za.out 9; have hfz9_10 := blk_frozen za.out 10; have hfz9_11 := blk_frozen za.out 11; have hfz9_12 := blk_frozen za.out 12; have hfz9_13 := blk_frozen za.out 13) | ((with_reducible refine gate_callee (f := 10) rfl ?_); refine goesL_ (some 18) rfl rfl Tryd.func10 (by kernel_rfl) rfl #[.int .i64 a0] rfl (by (try simp only [List.map_toArray, List.map_cons, List.map_nil]); first | done | rfl | (simp only [List.length_drop, List.length_take]; rfl)) ?_; (with_reducible refine (trellis_Into.calls a0 zx zw zz zaa zab zac zad zae zy zaf zag zah zai zaj zaz _ A3.out).mono ?_); rintro e w10 ⟨rfl, hb⟩; refine ⟨_, rfl, ?_⟩; have n0_ := sq_m (blk_below (g := zc) (o := .cells #[.int .i64 zj, .int .i64 zi, .int .u8 zk, .int .u8 zl, .int .u8 zn, .int .u8 zo, .int .u8 zp, .int .i64 zq, .int .i64 zm, .int .u8 zr, .int .u8 zs, .int .u8 zt, .int .u8 zu, .int .u8 zv] 25 (0, 0)) (by (with_reducible repeat (first | refine blk_drewN ?_ _ | refine blk_drew ?_ | refine blk_alloc ?_ _)); refine blk_put (cs := #[.int .i64 zj, .int .i64 zi, .int .u8 zk, .int .u8 zl, .int .u8 zn, .int .u8 zo, .int .u8 zp, .int .i64 zq, .int .i64 zm, .int .u8 zr, .int .u8 zs, .int .u8 zt, .int .u8 zu, .int .u8 0]) ?_ 13 _ rfl; (with_reducible repeat (first | refine blk_drewN ?_ _ | refine blk_drew ?_ | refine blk_alloc ?_ _)); refine blk_put (cs := #[.int .i64 zj, .int .i64 zi, .int .u8 zk, .int .u8 zl, .int .u8 zn, .int .u8 zo, .int .u8 zp, .int .i64 zq, .int .i64 zm, .int .u8 zr, .int .u8 zs, .int .u8 zt, .int .u8 0, .int .u8 0]) ?_ 12 _ rfl; (with_reducible repeat (first | refine blk_drewN ?_ _ | refine blk_drew ?_ | refine blk_alloc ?_ _)); refine blk_put (cs := #[.int .i64 zj, .int .i64 zi, .int .u8 zk, .int .u8 zl, .int .u8 zn, .int .u8 zo, .int .u8 zp, .int .i64 zq, .int .i64 zm, .int .u8 zr, .int .u8 zs, .int .u8 0, .int .u8 0, .int .u8 0]) ?_ 11 _ rfl; (with_reducible repeat (first | refine blk_drewN ?_ _ | refine blk_drew ?_ | refine blk_alloc ?_ _)); refine blk_put (cs := #[.int .i64 zj, .int .i64 zi, .int .u8 zk, .int .u8 zl, .int .u8 zn, .int .u8 zo, .int .u8 zp, .int .i64 zq, .int .i64 zm, .int .u8 zr, .int .u8 0, .int .u8 0, .int .u8 0, .int .u8 0]) ?_ 10 _ rfl; (with_reducible repeat (first | refine blk_drewN ?_ _ | refine blk_drew ?_ | refine blk_alloc ?_ _)); refine blk_put (cs := #[.int .i64 zj, .int .i64 zi, .int .u8 zk, .int .u8 zl, .int .u8 zn, .int .u8 zo, .int .u8 zp, .int .i64 zq, .int .i64 zm, .int .u8 0, .int .u8 0, .int .u8 0, .int .u8 0, .int .u8 0]) ?_ 9 _ rfl; (with_reducible repeat (first | refine blk_drewN ?_ _ | refine blk_drew ?_ | refine blk_alloc ?_ _)); refine blk_put (cs := #[.int .i64 zj, .int .i64 zi, .int .u8 zk, .int .u8 zl, .int .u8 zn, .int .u8 zo, .int .u8 zp, .int .i64 zq, .int .i64 0, .int .u8 0, .int .u8 0, .int .u8 0, .int .u8 0, .int .u8 0]) ?_ 8 _ rfl; (with_reducible repeat (first | refine blk_drewN ?_ _ | refine blk_drew ?_ | refine blk_alloc ?_ _)); refine blk_put (cs := #[.int .i64 zj, .int .i64 zi, .int .u8 zk, .int .u8 zl, .int .u8 zn, .int .u8 zo, .int .u8 zp, .int .i64 0, .int .i64 0, .int .u8 0, .int .u8 0, .int .u8 0, .int .u8 0, .int .u8 0]) ?_ 7 _ rfl; (with_reducible repeat (first | refine blk_drewN ?_ _ | refine blk_drew ?_ | refine blk_alloc ?_ _)); refine blk_put (cs := #[.int .i64 zj, .int .i64 zi, .int .u8 zk, .int .u8 zl, .int .u8 zn, .int .u8 zo, .int .u8 0, .int .i64 0, .int .i64 0, .int .u8 0, .int .u8 0, .int .u8 0, .int .u8 0, .int .u8 0]) ?_ 6 _ rfl; (with_reducible repeat (first | refine blk_drewN ?_ _ | refine blk_drew ?_ | refine blk_alloc ?_ _)); refine blk_put (cs := #[.int .i64 zj, .int .i64 zi, .int .u8 zk, .int .u8 zl, .int .u8 zn, .int .u8 0, .int .u8 0, .int .i64 0, .int .i64 0, .int .u8 0, .int .u8 0, .int .u8 0, .int .u8 0, .int .u8 0]) ?_ 5 _ rfl; (with_reducible repeat (first | refine blk_drewN ?_ _ | refine blk_drew ?_ | refine blk_alloc ?_ _)); refine blk_put (cs := #[.int .i64 zj, .int .i64 zi, .int .u8 zk, .int .u8 zl, .int .u8 0, .int .u8 0, .int .u8 0, .int .i64 0, .int .i64 0, .int .u8 0, .int .u8 0, .int .u8 0, .int .u8 0, .int .u8 0]) ?_ 4 _ rfl; (with_reducible repeat (first | refine blk_drewN ?_ _ | refine blk_drew ?_ | refine blk_alloc ?_ _)); refine blk_put (cs := #[.int .i64 zj, .int .i64 zi, .int .u8 zk, .int .u8 0, .int .u8 0, .int .u8 0, .int .u8 0, .int .i64 0, .int .i64 0, .int .u8 0, .int .u8 0, .int .u8 0, .int .u8 0, .int .u8 0]) ?_ 3 _ rfl; (with_reducible repeat (first | refine blk_drewN ?_ _ | refine blk_drew ?_ | refine blk_alloc ?_ _)); refine blk_put (cs := #[.int .i64 zj, .int .i64 zi, .int .u8 0, .int .u8 0, .int .u8 0, .int .u8 0, .int .u8 0, .int .i64 0, .int .i64 0, .int .u8 0, .int .u8 0, .int .u8 0, .int .u8 0, .int .u8 0]) ?_ 2 _ rfl; (with_reducible repeat (first | refine blk_drewN ?_ _ | refine blk_drew ?_ | refine blk_alloc ?_ _)); refine blk_put (cs := #[.int .i64 zj, .int .i64 0, .int .u8 0, .int .u8 0, .int .u8 0, .int .u8 0, .int .u8 0, .int .i64 0, .int .i64 0, .int .u8 0, .int .u8 0, .int .u8 0, .int .u8 0, .int .u8 0]) ?_ 1 _ rfl; (with_reducible repeat (first | refine blk_drewN ?_ _ | refine blk_drew ?_ | refine blk_alloc ?_ _)); refine blk_put (cs := #[.int .i64 0, .int .i64 0, .int .u8 0, .int .u8 0, .int .u8 0, .int .u8 0, .int .u8 0, .int .i64 0, .int .i64 0, .int .u8 0, .int .u8 0, .int .u8 0, .int .u8 0, .int .u8 0]) ?_ 0 _ rfl; (with_reducible repeat (first | refine blk_drewN ?_ _ | refine blk_drew ?_ | refine blk_alloc ?_ _)); exact za.out) hb); have n1_ := sq_m (below_step (by with_reducible repeat (first | exact HB.out | apply sq_b | apply sq_n | apply sq_d | refine below_set ?_ zak.out)) hb); clear za; clear HB; have za := n0_; have HB := n1_; clear n0_ n1_; (try clear hb); (try clear hb2); (try clear hk); (try clear hi)) | ((with_reducible refine gate_dst (N := 5) rfl ?_); refine box_event ?hg (N := 5) ?hd (cs := #[.int .i64 0, .int .i64 0, .int .u8 0, .int .u8 0, .int .u8 0, .int .u8 0, .int .u8 0, .int .i64 0, .int .i64 0, .int .u8 0, .int .u8 0, .int .u8 0, .int .u8 0, .int .u8 0]) (t := 25) ?hr ?_; (case hd => rfl); (case hg => rfl); (case hr => first | (go_simp; done) | (go_simp; rfl)); intro zf hg w11 hbox hb; have n0_ := sq_m (blk_below (g := zc) (o := .cells #[.int .i64 zj, .int .i64 zi, .int .u8 zk, .int .u8 zl, .int .u8 zn, .int .u8 zo, .int .u8 zp, .int .i64 zq, .int .i64 zm, .int .u8 zr, .int .u8 zs, .int .u8 zt, .int .u8 zu, .int .u8 zv] 25 (0, 0)) (by (with_reducible repeat (first | refine blk_drewN ?_ _ | refine blk_drew ?_ | refine blk_alloc ?_ _)); exact za.out) hb); have n1_ := sq_m (below_step (by with_reducible repeat (first | exact HB.out | apply sq_b | apply sq_n | apply sq_d | refine below_set ?_ zak.out)) hb); have n2_ := sq_m (hbox); have n3_ := sq_m ((by rw [hg]; exact (below_size (by with_reducible repeat (first | exact HB.out | apply sq_b | apply sq_n | apply sq_d | refine below_set ?_ zak.out))) : w.heap.size ≤ zf)); have n4_ := sq_m ((by rw [hg]; exact (below_size (by with_reducible repeat (first | exact HB.out | apply sq_b | apply sq_n | apply sq_d | refine below_set ?_ zak.out))) : w.heap.size ≤ zf)); have n5_ := sq_m ((by rw [hg]; exact Nat.ne_of_lt (blk_lt (g := zc) (o := .cells #[.int .i64 zj, .int .i64 zi, .int .u8 zk, .int .u8 zl, .int .u8 zn, .int .u8 zo, .int .u8 zp, .int .i64 zq, .int .i64 zm, .int .u8 zr, .int .u8 zs, .int .u8 zt, .int .u8 zu, .int .u8 zv] 25 (0, 0)) (by (with_reducible repeat (first | refine blk_drewN ?_ _ | refine blk_drew ?_ | refine blk_alloc ?_ _)); exact za.out)) : zc ≠ zf)); have n6_ := sq_m ((by rw [hg]; exact Nat.ne_of_gt (blk_lt (g := zc) (o := .cells #[.int .i64 zj, .int .i64 zi, .int .u8 zk, .int .u8 zl, .int .u8 zn, .int .u8 zo, .int .u8 zp, .int .i64 zq, .int .i64 zm, .int .u8 zr, .int .u8 zs, .int .u8 zt, .int .u8 zu, .int .u8 zv] 25 (0, 0)) (by (with_reducible repeat (first | refine blk_drewN ?_ _ | refine blk_drew ?_ | refine blk_alloc ?_ _)); exact za.out)) : zf ≠ zc)); clear za; clear HB; have za := n0_; have HB := n1_; have zb := n2_; have GW232 := n3_; have zal := n4_; have NB216_232 := n5_; have NB232_216 := n6_; clear n0_ n1_ n2_ n3_ n4_ n5_ n6_; clear hb hbox hg; have hnb12 := NB232_216.out; have hnc12 := NB216_232.out; have hcz13_0 : w11.cell? ⟨zf, 0, none⟩ = some (.int .i64 0) := (blk_cell zb.out 0).trans rfl; have hcz13_1 : w11.cell? ⟨zf, 1, none⟩ = some (.int .i64 0) := (blk_cell zb.out 1).trans rfl; have hcz13_2 : w11.cell? ⟨zf, 2, none⟩ = some (.int .u8 0) := (blk_cell zb.out 2).trans rfl; have hcz13_3 : w11.cell? ⟨zf, 3, none⟩ = some (.int .u8 0) := (blk_cell zb.out 3).trans rfl; have hcz13_4 : w11.cell? ⟨zf, 4, none⟩ = some (.int .u8 0) := (blk_cell zb.out 4).trans rfl; have hcz13_5 : w11.cell? ⟨zf, 5, none⟩ = some (.int .u8 0) := (blk_cell zb.out 5).trans rfl; have hcz13_6 : w11.cell? ⟨zf, 6, none⟩ = some (.int .u8 0) := (blk_cell zb.out 6).trans rfl; have hcz13_7 : w11.cell? ⟨zf, 7, none⟩ = some (.int .i64 0) := (blk_cell zb.out 7).trans rfl; have hcz13_8 : w11.cell? ⟨zf, 8, none⟩ = some (.int .i64 0) := (blk_cell zb.out 8).trans rfl; have hcz13_9 : w11.cell? ⟨zf, 9, none⟩ = some (.int .u8 0) := (blk_cell zb.out 9).trans rfl; have hcz13_10 : w11.cell? ⟨zf, 10, none⟩ = some (.int .u8 0) := (blk_cell zb.out 10).trans rfl; have hcz13_11 : w11.cell? ⟨zf, 11, none⟩ = some (.int .u8 0) := (blk_cell zb.out 11).trans rfl; have hcz13_12 : w11.cell? ⟨zf, 12, none⟩ = some (.int .u8 0) := (blk_cell zb.out 12).trans rfl; have hcz13_13 : w11.cell? ⟨zf, 13, none⟩ = some (.int .u8 0) := (blk_cell zb.out 13).trans rfl; have hfz13_0 := blk_frozen zb.out 0; have hfz13_1 := blk_frozen zb.out 1; have hfz13_2 := blk_frozen zb.out 2; have hfz13_3 := blk_frozen zb.out 3; have hfz13_4 := blk_frozen zb.out 4; have hfz13_5 := blk_frozen zb.out 5; have hfz13_6 := blk_frozen zb.out 6; have hfz13_7 := blk_frozen zb.out 7; have hfz13_8 := blk_frozen zb.out 8; have hfz13_9 := blk_frozen zb.out 9; have hfz13_10 := blk_frozen zb.out 10; have hfz13_11 := blk_frozen zb.out 11; have hfz13_12 := blk_frozen zb.out 12; have hfz13_13 := blk_frozen zb.out 13) | ((with_reducible refine gate_callee (f := 11) rfl ?_); refine goesL_ (some 21) rfl rfl Tryd.func11 (by kernel_rfl) rfl #[] rfl (by (try simp only [List.map_toArray, List.map_cons, List.map_nil]); first | done | rfl | (simp only [List.length_drop, List.length_take]; rfl)) ?_; (with_reducible refine (shuttlelaw07_leads.calls  true _ A4.out).mono ?_); rintro e w14 ⟨rfl, hb⟩; refine ⟨_, rfl, ?_⟩; have n0_ := sq_m (blk_below (g := zc) (o := .cells #[.int .i64 zj, .int .i64 zi, .int .u8 zk, .int .u8 zl, .int .u8 zn, .int .u8 zo, .int .u8 zp, .int .i64 zq, .int .i64 zm, .int .u8 zr, .int .u8 zs, .int .u8 zt, .int .u8 zu, .int .u8 zv] 25 (0, 0)) (by (with_reducible repeat (first | refine blk_drewN ?_ _ | refine blk_drew ?_ | refine blk_alloc ?_ _)); refine blk_far ?_ NB216_232.out _; (with_reducible repeat (first | refine blk_drewN ?_ _ | refine blk_drew ?_ | refine blk_alloc ?_ _)); refine blk_far ?_ NB216_232.out _; (with_reducible repeat (first | refine blk_drewN ?_ _ | refine blk_drew ?_ | refine blk_alloc ?_ _)); refine blk_far ?_ NB216_232.out _; (with_reducible repeat (first | refine blk_drewN ?_ _ | refine blk_drew ?_ | refine blk_alloc ?_ _)); refine blk_far ?_ NB216_232.out _; (with_reducible repeat (first | refine blk_drewN ?_ _ | refine blk_drew ?_ | refine blk_alloc ?_ _)); refine blk_far ?_ NB216_232.out _; (with_reducible repeat (first | refine blk_drewN ?_ _ | refine blk_drew ?_ | refine blk_alloc ?_ _)); refine blk_far ?_ NB216_232.out _; (with_reducible repeat (first | refine blk_drewN ?_ _ | refine blk_drew ?_ | refine blk_alloc ?_ _)); refine blk_far ?_ NB216_232.out _; (with_reducible repeat (first | refine blk_drewN ?_ _ | refine blk_drew ?_ | refine blk_alloc ?_ _)); refine blk_far ?_ NB216_232.out _; (with_reducible repeat (first | refine blk_drewN ?_ _ | refine blk_drew ?_ | refine blk_alloc ?_ _)); refine blk_far ?_ NB216_232.out _; (with_reducible repeat (first | refine blk_drewN ?_ _ | refine blk_drew ?_ | refine blk_alloc ?_ _)); refine blk_far ?_ NB216_232.out _; (with_reducible repeat (first | refine blk_drewN ?_ _ | refine blk_drew ?_ | refine blk_alloc ?_ _)); refine blk_far ?_ NB216_232.out _; (with_reducible repeat (first | refine blk_drewN ?_ _ | refine blk_drew ?_ | refine blk_alloc ?_ _)); refine blk_far ?_ NB216_232.out _; (with_reducible repeat (first | refine blk_drewN ?_ _ | refine blk_drew ?_ | refine blk_alloc ?_ _)); refine blk_far ?_ NB216_232.out _; (with_reducible repeat (first | refine blk_drewN ?_ _ | refine blk_drew ?_ | refine blk_alloc ?_ _)); refine blk_far ?_ NB216_232.out _; (with_reducible repeat (first | refine blk_drewN ?_ _ | refine blk_drew ?_ | refine blk_alloc ?_ _)); exact za.out) hb); have n1_ := sq_m (blk_below (g := zf) (o := .cells #[.int .i64 zx, .int .i64 zw, .int .u8 zz, .int .u8 zaa, .int .u8 zab, .int .u8 zac, .int .u8 zad, .int .i64 zae, .int .i64 zy, .int .u8 zaf, .int .u8 zag, .int .u8 zah, .int .u8 zai, .int .u8 zaj] 25 (0, 0)) (by (with_reducible repeat (first | refine blk_drewN ?_ _ | refine blk_drew ?_ | refine blk_alloc ?_ _)); refine blk_put (cs := #[.int .i64 zx, .int .i64 zw, .int .u8 zz, .int .u8 zaa, .int .u8 zab, .int .u8 zac, .int .u8 zad, .int .i64 zae, .int .i64 zy, .int .u8 zaf, .int .u8 zag, .int .u8 zah, .int .u8 zai, .int .u8 0]) ?_ 13 _ rfl; (with_reducible repeat (first | refine blk_drewN ?_ _ | refine blk_drew ?_ | refine blk_alloc ?_ _)); refine blk_put (cs := #[.int .i64 zx, .int .i64 zw, .int .u8 zz, .int .u8 zaa, .int .u8 zab, .int .u8 zac, .int .u8 zad, .int .i64 zae, .int .i64 zy, .int .u8 zaf, .int .u8 zag, .int .u8 zah, .int .u8 0, .int .u8 0]) ?_ 12 _ rfl; (with_reducible repeat (first | refine blk_drewN ?_ _ | refine blk_drew ?_ | refine blk_alloc ?_ _)); refine blk_put (cs := #[.int .i64 zx, .int .i64 zw, .int .u8 zz, .int .u8 zaa, .int .u8 zab, .int .u8 zac, .int .u8 zad, .int .i64 zae, .int .i64 zy, .int .u8 zaf, .int .u8 zag, .int .u8 0, .int .u8 0, .int .u8 0]) ?_ 11 _ rfl; (with_reducible repeat (first | refine blk_drewN ?_ _ | refine blk_drew ?_ | refine blk_alloc ?_ _)); refine blk_put (cs := #[.int .i64 zx, .int .i64 zw, .int .u8 zz, .int .u8 zaa, .int .u8 zab, .int .u8 zac, .int .u8 zad, .int .i64 zae, .int .i64 zy, .int .u8 zaf, .int .u8 0, .int .u8 0, .int .u8 0, .int .u8 0]) ?_ 10 _ rfl; (with_reducible repeat (first | refine blk_drewN ?_ _ | refine blk_drew ?_ | refine blk_alloc ?_ _)); refine blk_put (cs := #[.int .i64 zx, .int .i64 zw, .int .u8 zz, .int .u8 zaa, .int .u8 zab, .int .u8 zac, .int .u8 zad, .int .i64 zae, .int .i64 zy, .int .u8 0, .int .u8 0, .int .u8 0, .int .u8 0, .int .u8 0]) ?_ 9 _ rfl; (with_reducible repeat (first | refine blk_drewN ?_ _ | refine blk_drew ?_ | refine blk_alloc ?_ _)); refine blk_put (cs := #[.int .i64 zx, .int .i64 zw, .int .u8 zz, .int .u8 zaa, .int .u8 zab, .int .u8 zac, .int .u8 zad, .int .i64 zae, .int .i64 0, .int .u8 0, .int .u8 0, .int .u8 0, .int .u8 0, .int .u8 0]) ?_ 8 _ rfl; (with_reducible repeat (first | refine blk_drewN ?_ _ | refine blk_drew ?_ | refine blk_alloc ?_ _)); refine blk_put (cs := #[.int .i64 zx, .int .i64 zw, .int .u8 zz, .int .u8 zaa, .int .u8 zab, .int .u8 zac, .int .u8 zad, .int .i64 0, .int .i64 0, .int .u8 0, .int .u8 0, .int .u8 0, .int .u8 0, .int .u8 0]) ?_ 7 _ rfl; (with_reducible repeat (first | refine blk_drewN ?_ _ | refine blk_drew ?_ | refine blk_alloc ?_ _)); refine blk_put (cs := #[.int .i64 zx, .int .i64 zw, .int .u8 zz, .int .u8 zaa, .int .u8 zab, .int .u8 zac, .int .u8 0, .int .i64 0, .int .i64 0, .int .u8 0, .int .u8 0, .int .u8 0, .int .u8 0, .int .u8 0]) ?_ 6 _ rfl; (with_reducible repeat (first | refine blk_drewN ?_ _ | refine blk_drew ?_ | refine blk_alloc ?_ _)); refine blk_put (cs := #[.int .i64 zx, .int .i64 zw, .int .u8 zz, .int .u8 zaa, .int .u8 zab, .int .u8 0, .int .u8 0, .int .i64 0, .int .i64 0, .int .u8 0, .int .u8 0, .int .u8 0, .int .u8 0, .int .u8 0]) ?_ 5 _ rfl; (with_reducible repeat (first | refine blk_drewN ?_ _ | refine blk_drew ?_ | refine blk_alloc ?_ _)); refine blk_put (cs := #[.int .i64 zx, .int .i64 zw, .int .u8 zz, .int .u8 zaa, .int .u8 0, .int .u8 0, .int .u8 0, .int .i64 0, .int .i64 0, .int .u8 0, .int .u8 0, .int .u8 0, .int .u8 0, .int .u8 0]) ?_ 4 _ rfl; (with_reducible repeat (first | refine blk_drewN ?_ _ | refine blk_drew ?_ | refine blk_alloc ?_ _)); refine blk_put (cs := #[.int .i64 zx, .int .i64 zw, .int .u8 zz, .int .u8 0, .int .u8 0, .int .u8 0, .int .u8 0, .int .i64 0, .int .i64 0, .int .u8 0, .int .u8 0, .int .u8 0, .int .u8 0, .int .u8 0]) ?_ 3 _ rfl; (with_reducible repeat (first | refine blk_drewN ?_ _ | refine blk_drew ?_ | refine blk_alloc ?_ _)); refine blk_put (cs := #[.int .i64 zx, .int .i64 zw, .int .u8 0, .int .u8 0, .int .u8 0, .int .u8 0, .int .u8 0, .int .i64 0, .int .i64 0, .int .u8 0, .int .u8 0, .int .u8 0, .int .u8 0, .int .u8 0]) ?_ 2 _ rfl; (with_reducible repeat (first | refine blk_drewN ?_ _ | refine blk_drew ?_ | refine blk_alloc ?_ _)); refine blk_put (cs := #[.int .i64 zx, .int .i64 0, .int .u8 0, .int .u8 0, .int .u8 0, .int .u8 0, .int .u8 0, .int .i64 0, .int .i64 0, .int .u8 0, .int .u8 0, .int .u8 0, .int .u8 0, .int .u8 0]) ?_ 1 _ rfl; (with_reducible repeat (first | refine blk_drewN ?_ _ | refine blk_drew ?_ | refine blk_alloc ?_ _)); refine blk_put (cs := #[.int .i64 0, .int .i64 0, .int .u8 0, .int .u8 0, .int .u8 0, .int .u8 0, .int .u8 0, .int .i64 0, .int .i64 0, .int .u8 0, .int .u8 0, .int .u8 0, .int .u8 0, .int .u8 0]) ?_ 0 _ rfl; (with_reducible repeat (first | refine blk_drewN ?_ _ | refine blk_drew ?_ | refine blk_alloc ?_ _)); exact zb.out) hb); have n2_ := sq_m (below_step (by with_reducible repeat (first | exact HB.out | apply sq_b | apply sq_n | apply sq_d | refine below_set ?_ zak.out | refine below_set ?_ zal.out)) hb); clear za; clear zb; clear HB; have za := n0_; have zb := n1_; have HB := n2_; clear n0_ n1_ n2_; (try clear hb); (try clear hb2); (try clear hk); (try clear hi)))
  (try simp only [Act.put, sq_a1, sq_a2, sq_a3])
  go_cut [28] (fun v28 wc => ∃ (kq : Nat) (x28_5 : Bool), v28 = .bool x28_5 ∧ Aside0 (shuttlelaw07_TrellisEdges.j1 kq a0 zas zaz x28_5 zj zi zk zl zn zo zp zq zm zr zs zt zu zv zx zw zz zaa zab zac zad zae zy zaf zag zah zai zaj = some r) ∧ Aside0 (kq ≤ k) ∧ Aside0 (wc.heap[zc]? = some (.cells #[.int .i64 zj, .int .i64 zi, .int .u8 zk, .int .u8 zl, .int .u8 zn, .int .u8 zo, .int .u8 zp, .int .i64 zq, .int .i64 zm, .int .u8 zr, .int .u8 zs, .int .u8 zt, .int .u8 zu, .int .u8 zv] 25 (0, 0))) ∧ Aside0 (wc.heap[zf]? = some (.cells #[.int .i64 zx, .int .i64 zw, .int .u8 zz, .int .u8 zaa, .int .u8 zab, .int .u8 zac, .int .u8 zad, .int .i64 zae, .int .i64 zy, .int .u8 zaf, .int .u8 zag, .int .u8 zah, .int .u8 zai, .int .u8 zaj] 25 (0, 0))) ∧ Aside0 (Below w.heap.size w wc))
  case first =>
   have H := HC6.out
   clear HC6
   by_cases c15 : a0 < 0
   ·rw [if_pos c15] at H
    have c15b0 : decide (a0 < 0) = true := decide_eq_true c15
    clear c15
    (first | rw [c15b0] | (simp only [i64_w, i32_w]; rw [c15b0]) | skip)
    have H' := sq_m H
    clear H
    go_wp2
    go_meet
    case rel => exact ⟨_, (true), (by first | rfl | (simp; done) | (simp [*]; done)), H', ⟨by first | omega | exact Nat.le_refl _⟩, ⟨by (with_reducible repeat (first | refine blk_drewN ?_ _ | refine blk_drew ?_ | refine blk_alloc ?_ _)); exact za.out⟩, ⟨by (with_reducible repeat (first | refine blk_drewN ?_ _ | refine blk_drew ?_ | refine blk_alloc ?_ _)); exact zb.out⟩, ⟨by with_reducible repeat (first | exact HB.out | apply sq_b | apply sq_n | apply sq_d | refine below_set ?_ zak.out | refine below_set ?_ zal.out)⟩⟩
   ·rw [if_neg c15] at H
    have c15b0 : decide (a0 < 0) = false := decide_eq_false c15
    clear c15
    (first | rw [c15b0] | (simp only [i64_w, i32_w]; rw [c15b0]) | skip)
    have H' := sq_m H
    clear H
    go_wp2
    go_meet
    case rel => exact ⟨_, (decide (a0 > 63)), (by first | rfl | (simp; done) | (simp [*]; done)), H', ⟨by first | omega | exact Nat.le_refl _⟩, ⟨by (with_reducible repeat (first | refine blk_drewN ?_ _ | refine blk_drew ?_ | refine blk_alloc ?_ _)); exact za.out⟩, ⟨by (with_reducible repeat (first | refine blk_drewN ?_ _ | refine blk_drew ?_ | refine blk_alloc ?_ _)); exact zb.out⟩, ⟨by with_reducible repeat (first | exact HB.out | apply sq_b | apply sq_n | apply sq_d | refine below_set ?_ zak.out | refine below_set ?_ zal.out)⟩⟩
  case rest =>
   clear HC6
   try clear c1
   try clear p2
   try clear c3
   try clear c5
   try clear c9
   try clear c10
   try clear c11
   try clear c12
   try clear c15
   try clear c15b0
   try clear hcz13_0
   try clear hcz13_1
   try clear hcz13_10
   try clear hcz13_11
   try clear hcz13_12
   try clear hcz13_13
   try clear hcz13_2
   try clear hcz13_3
   try clear hcz13_4
   try clear hcz13_5
   try clear hcz13_6
   try clear hcz13_7
   try clear hcz13_8
   try clear hcz13_9
   try clear hcz9_0
   try clear hcz9_1
   try clear hcz9_10
   try clear hcz9_11
   try clear hcz9_12
   try clear hcz9_13
   try clear hcz9_2
   try clear hcz9_3
   try clear hcz9_4
   try clear hcz9_5
   try clear hcz9_6
   try clear hcz9_7
   try clear hcz9_8
   try clear hcz9_9
   try clear hfz13_0
   try clear hfz13_1
   try clear hfz13_10
   try clear hfz13_11
   try clear hfz13_12
   try clear hfz13_13
   try clear hfz13_2
   try clear hfz13_3
   try clear hfz13_4
   try clear hfz13_5
   try clear hfz13_6
   try clear hfz13_7
   try clear hfz13_8
   try clear hfz13_9
   try clear hfz9_0
   try clear hfz9_1
   try clear hfz9_10
   try clear hfz9_11
   try clear hfz9_12
   try clear hfz9_13
   try clear hfz9_2
   try clear hfz9_3
   try clear hfz9_4
   try clear hfz9_5
   try clear hfz9_6
   try clear hfz9_7
   try clear hfz9_8
   try clear hfz9_9
   obtain ⟨kq, x28_5, rfl, HA, HJ5, za, zb, HB⟩ := hcut
   cases kq with
   | zero => exact absurd HA.out (by simp [shuttlelaw07_TrellisEdges.j1])
   | succ kj5 =>
    have H := HA.out
    clear HA
    simp only [shuttlelaw07_TrellisEdges.j1] at H
    by_cases c16 : x28_5 = true
    ·subst c16
     have H1 : (if zas = 1 then (if zaz = 1 then (if ((zj == 0 && (zi == 0 && (zk == 0 && ((zl == 0 && (zn == 0 && (zo == 0 && (zp == 0)))))))) && ((zq == 0 && (zm == 0 && (zr == 0 && ((zs == 0 && (zt == 0 && (zu == 0 && (zv == 0)))))))))) = true then (some ((zx == 0 && (zw == 0 && (zz == 0 && ((zaa == 0 && (zab == 0 && (zac == 0 && (zad == 0)))))))) && ((zae == 0 && (zy == 0 && (zaf == 0 && ((zag == 0 && (zah == 0 && (zai == 0 && (zaj == 0))))))))))) else (none)) else (none)) else (none)) = some r := by rw [if_pos rfl] at H; exact H
     clear H
     have H := H1
     clear H1
     by_cases c17 : zas = 1
     ·rw [if_pos c17] at H
      have c17b0 : (zas == 1) = true := beq_iff_eq.mpr c17
      have c17b1 : (zas != 1) = false := bne_eq_false_iff_eq.mpr c17
      clear c17
      by_cases c18 : zaz = 1
      ·rw [if_pos c18] at H
       have c18b0 : (zaz == 1) = true := beq_iff_eq.mpr c18
       have c18b1 : (zaz != 1) = false := bne_eq_false_iff_eq.mpr c18
       clear c18
       by_cases c19 : ((zj == 0 && (zi == 0 && (zk == 0 && ((zl == 0 && (zn == 0 && (zo == 0 && (zp == 0)))))))) && ((zq == 0 && (zm == 0 && (zr == 0 && ((zs == 0 && (zt == 0 && (zu == 0 && (zv == 0)))))))))) = true
       ·rw [if_pos c19] at H
        have c19b0 : ((zj == 0 && (zi == 0 && (zk == 0 && ((zl == 0 && (zn == 0 && (zo == 0 && (zp == 0)))))))) && ((zq == 0 && (zm == 0 && (zr == 0 && ((zs == 0 && (zt == 0 && (zu == 0 && (zv == 0)))))))))) = true := c19
        clear c19
        obtain rfl := Option.some.inj H
        have hnb20 := NB216_232.out
        have hnc20 := NB232_216.out
        have hcz21_0 : wc.cell? ⟨zc, 0, none⟩ = some (.int .i64 zj) := (blk_cell za.out 0).trans rfl
        have hcz21_1 : wc.cell? ⟨zc, 1, none⟩ = some (.int .i64 zi) := (blk_cell za.out 1).trans rfl
        have hcz21_2 : wc.cell? ⟨zc, 2, none⟩ = some (.int .u8 zk) := (blk_cell za.out 2).trans rfl
        have hcz21_3 : wc.cell? ⟨zc, 3, none⟩ = some (.int .u8 zl) := (blk_cell za.out 3).trans rfl
        have hcz21_4 : wc.cell? ⟨zc, 4, none⟩ = some (.int .u8 zn) := (blk_cell za.out 4).trans rfl
        have hcz21_5 : wc.cell? ⟨zc, 5, none⟩ = some (.int .u8 zo) := (blk_cell za.out 5).trans rfl
        have hcz21_6 : wc.cell? ⟨zc, 6, none⟩ = some (.int .u8 zp) := (blk_cell za.out 6).trans rfl
        have hcz21_7 : wc.cell? ⟨zc, 7, none⟩ = some (.int .i64 zq) := (blk_cell za.out 7).trans rfl
        have hcz21_8 : wc.cell? ⟨zc, 8, none⟩ = some (.int .i64 zm) := (blk_cell za.out 8).trans rfl
        have hcz21_9 : wc.cell? ⟨zc, 9, none⟩ = some (.int .u8 zr) := (blk_cell za.out 9).trans rfl
        have hcz21_10 : wc.cell? ⟨zc, 10, none⟩ = some (.int .u8 zs) := (blk_cell za.out 10).trans rfl
        have hcz21_11 : wc.cell? ⟨zc, 11, none⟩ = some (.int .u8 zt) := (blk_cell za.out 11).trans rfl
        have hcz21_12 : wc.cell? ⟨zc, 12, none⟩ = some (.int .u8 zu) := (blk_cell za.out 12).trans rfl
        have hcz21_13 : wc.cell? ⟨zc, 13, none⟩ = some (.int .u8 zv) := (blk_cell za.out 13).trans rfl
        have hfz21_0 := blk_frozen za.out 0
        have hfz21_1 := blk_frozen za.out 1
        have hfz21_2 := blk_frozen za.out 2
        have hfz21_3 := blk_frozen za.out 3
        have hfz21_4 := blk_frozen za.out 4
        have hfz21_5 := blk_frozen za.out 5
        have hfz21_6 := blk_frozen za.out 6
        have hfz21_7 := blk_frozen za.out 7
        have hfz21_8 := blk_frozen za.out 8
        have hfz21_9 := blk_frozen za.out 9
        have hfz21_10 := blk_frozen za.out 10
        have hfz21_11 := blk_frozen za.out 11
        have hfz21_12 := blk_frozen za.out 12
        have hfz21_13 := blk_frozen za.out 13
        have hcz22_0 : wc.cell? ⟨zf, 0, none⟩ = some (.int .i64 zx) := (blk_cell zb.out 0).trans rfl
        have hcz22_1 : wc.cell? ⟨zf, 1, none⟩ = some (.int .i64 zw) := (blk_cell zb.out 1).trans rfl
        have hcz22_2 : wc.cell? ⟨zf, 2, none⟩ = some (.int .u8 zz) := (blk_cell zb.out 2).trans rfl
        have hcz22_3 : wc.cell? ⟨zf, 3, none⟩ = some (.int .u8 zaa) := (blk_cell zb.out 3).trans rfl
        have hcz22_4 : wc.cell? ⟨zf, 4, none⟩ = some (.int .u8 zab) := (blk_cell zb.out 4).trans rfl
        have hcz22_5 : wc.cell? ⟨zf, 5, none⟩ = some (.int .u8 zac) := (blk_cell zb.out 5).trans rfl
        have hcz22_6 : wc.cell? ⟨zf, 6, none⟩ = some (.int .u8 zad) := (blk_cell zb.out 6).trans rfl
        have hcz22_7 : wc.cell? ⟨zf, 7, none⟩ = some (.int .i64 zae) := (blk_cell zb.out 7).trans rfl
        have hcz22_8 : wc.cell? ⟨zf, 8, none⟩ = some (.int .i64 zy) := (blk_cell zb.out 8).trans rfl
        have hcz22_9 : wc.cell? ⟨zf, 9, none⟩ = some (.int .u8 zaf) := (blk_cell zb.out 9).trans rfl
        have hcz22_10 : wc.cell? ⟨zf, 10, none⟩ = some (.int .u8 zag) := (blk_cell zb.out 10).trans rfl
        have hcz22_11 : wc.cell? ⟨zf, 11, none⟩ = some (.int .u8 zah) := (blk_cell zb.out 11).trans rfl
        have hcz22_12 : wc.cell? ⟨zf, 12, none⟩ = some (.int .u8 zai) := (blk_cell zb.out 12).trans rfl
        have hcz22_13 : wc.cell? ⟨zf, 13, none⟩ = some (.int .u8 zaj) := (blk_cell zb.out 13).trans rfl
        have hfz22_0 := blk_frozen zb.out 0
        have hfz22_1 := blk_frozen zb.out 1
        have hfz22_2 := blk_frozen zb.out 2
        have hfz22_3 := blk_frozen zb.out 3
        have hfz22_4 := blk_frozen zb.out 4
        have hfz22_5 := blk_frozen zb.out 5
        have hfz22_6 := blk_frozen zb.out 6
        have hfz22_7 := blk_frozen zb.out 7
        have hfz22_8 := blk_frozen zb.out 8
        have hfz22_9 := blk_frozen zb.out 9
        have hfz22_10 := blk_frozen zb.out 10
        have hfz22_11 := blk_frozen zb.out 11
        have hfz22_12 := blk_frozen zb.out 12
        have hfz22_13 := blk_frozen zb.out 13
        go_wp2
        go_ret
        exact ⟨by first | rfl | (simp [errW_none, errW_some] <;> rfl) | (simp [*, errW_none, errW_some] <;> rfl), by with_reducible repeat (first | exact HB.out | apply sq_b | apply sq_n | apply sq_d | refine below_set ?_ zak.out | refine below_set ?_ zal.out)⟩
       ·rw [if_neg c19] at H
        exact absurd H (by simp)
      ·rw [if_neg c18] at H
       exact absurd H (by simp)
     ·rw [if_neg c17] at H
      exact absurd H (by simp)
    ·replace c16 := Bool.eq_false_iff.mpr c16
     subst c16
     have H1 : (shuttlelaw07_TrellisEdges.l0 kj5 a0 zas zaz ((wrap64 (Int.tdiv a0 32)) % 256) 0 zj zi zk zl zn zo zp zq zm zr zs zt zu zv zx zw zz zaa zab zac zad zae zy zaf zag zah zai zaj) = some r := by rw [if_neg (show ¬ (false = true) by decide)] at H; exact H
     clear H
     have H := H1
     clear H1
     have H' := sq_m H
     clear H
     go_wp2
     go_loopg [8] kj5 (fun kq v8 w' => ∃ (x8_2 : Int), v8 = .int .i64 x8_2 ∧ Aside0 (shuttlelaw07_TrellisEdges.l0 kq a0 zas zaz ((wrap64 (Int.tdiv a0 32)) % 256) x8_2 zj zi zk zl zn zo zp zq zm zr zs zt zu zv zx zw zz zaa zab zac zad zae zy zaf zag zah zai zaj = some r) ∧ Aside0 (kq ≤ kj5) ∧ Aside0 (w'.heap[zc]? = some (.cells #[.int .i64 zj, .int .i64 zi, .int .u8 zk, .int .u8 zl, .int .u8 zn, .int .u8 zo, .int .u8 zp, .int .i64 zq, .int .i64 zm, .int .u8 zr, .int .u8 zs, .int .u8 zt, .int .u8 zu, .int .u8 zv] 25 (0, 0))) ∧ Aside0 (w'.heap[zf]? = some (.cells #[.int .i64 zx, .int .i64 zw, .int .u8 zz, .int .u8 zaa, .int .u8 zab, .int .u8 zac, .int .u8 zad, .int .i64 zae, .int .i64 zy, .int .u8 zaf, .int .u8 zag, .int .u8 zah, .int .u8 zai, .int .u8 zaj] 25 (0, 0))) ∧ Aside0 (Below w.heap.size w w'))
     case atStart => exact ⟨(0), (by first | rfl | (simp; done) | (simp [*]; done)), H', ⟨Nat.le_refl _⟩, ⟨by (with_reducible repeat (first | refine blk_drewN ?_ _ | refine blk_drew ?_ | refine blk_alloc ?_ _)); exact za.out⟩, ⟨by (with_reducible repeat (first | refine blk_drewN ?_ _ | refine blk_drew ?_ | refine blk_alloc ?_ _)); exact zb.out⟩, ⟨by with_reducible repeat (first | exact HB.out | apply sq_b | apply sq_n | apply sq_d | refine below_set ?_ zak.out | refine below_set ?_ zal.out)⟩⟩
     case round =>
      clear H'
      try clear c1
      try clear c2
      try clear p2
      try clear c3
      try clear c5
      try clear p6
      try clear c9
      try clear c10
      try clear c11
      try clear c12
      try clear c15
      try clear c15b0
      try clear c16
      try clear c17
      try clear c17b0
      try clear c17b1
      try clear c18
      try clear c18b0
      try clear c18b1
      try clear c19
      try clear c19b0
      try clear c20
      try clear hcz13_0
      try clear hcz13_1
      try clear hcz13_10
      try clear hcz13_11
      try clear hcz13_12
      try clear hcz13_13
      try clear hcz13_2
      try clear hcz13_3
      try clear hcz13_4
      try clear hcz13_5
      try clear hcz13_6
      try clear hcz13_7
      try clear hcz13_8
      try clear hcz13_9
      try clear hcz21_0
      try clear hcz21_1
      try clear hcz21_10
      try clear hcz21_11
      try clear hcz21_12
      try clear hcz21_13
      try clear hcz21_2
      try clear hcz21_3
      try clear hcz21_4
      try clear hcz21_5
      try clear hcz21_6
      try clear hcz21_7
      try clear hcz21_8
      try clear hcz21_9
      try clear hcz22_0
      try clear hcz22_1
      try clear hcz22_10
      try clear hcz22_11
      try clear hcz22_12
      try clear hcz22_13
      try clear hcz22_2
      try clear hcz22_3
      try clear hcz22_4
      try clear hcz22_5
      try clear hcz22_6
      try clear hcz22_7
      try clear hcz22_8
      try clear hcz22_9
      try clear hcz9_0
      try clear hcz9_1
      try clear hcz9_10
      try clear hcz9_11
      try clear hcz9_12
      try clear hcz9_13
      try clear hcz9_2
      try clear hcz9_3
      try clear hcz9_4
      try clear hcz9_5
      try clear hcz9_6
      try clear hcz9_7
      try clear hcz9_8
      try clear hcz9_9
      try clear hfz13_0
      try clear hfz13_1
      try clear hfz13_10
      try clear hfz13_11
      try clear hfz13_12
      try clear hfz13_13
      try clear hfz13_2
      try clear hfz13_3
      try clear hfz13_4
      try clear hfz13_5
      try clear hfz13_6
      try clear hfz13_7
      try clear hfz13_8
      try clear hfz13_9
      try clear hfz21_0
      try clear hfz21_1
      try clear hfz21_10
      try clear hfz21_11
      try clear hfz21_12
      try clear hfz21_13
      try clear hfz21_2
      try clear hfz21_3
      try clear hfz21_4
      try clear hfz21_5
      try clear hfz21_6
      try clear hfz21_7
      try clear hfz21_8
      try clear hfz21_9
      try clear hfz22_0
      try clear hfz22_1
      try clear hfz22_10
      try clear hfz22_11
      try clear hfz22_12
      try clear hfz22_13
      try clear hfz22_2
      try clear hfz22_3
      try clear hfz22_4
      try clear hfz22_5
      try clear hfz22_6
      try clear hfz22_7
      try clear hfz22_8
      try clear hfz22_9
      try clear hfz9_0
      try clear hfz9_1
      try clear hfz9_10
      try clear hfz9_11
      try clear hfz9_12
      try clear hfz9_13
      try clear hfz9_2
      try clear hfz9_3
      try clear hfz9_4
      try clear hfz9_5
      try clear hfz9_6
      try clear hfz9_7
      try clear hfz9_8
      try clear hfz9_9
      try clear p2
      obtain ⟨x8_2, rfl, HA, HK2, za, zb, HB⟩ := hrel
      cases gk with
      | zero => exact absurd HA.out (by simp [shuttlelaw07_TrellisEdges.l0])
      | succ k2 =>
       have H := HA.out
       clear HA
       simp only [shuttlelaw07_TrellisEdges.l0] at H
       by_cases c23 : x8_2 < 2
       ·rw [if_pos c23] at H
        have c23b0 : decide (x8_2 < 2) = true := decide_eq_true c23
        clear c23
        have HC24 := sq_m H
        clear H
        go_upto_region 11 with (fail)
        go_cut [82] (fun v82 wc => ∃ (kq : Nat) (x82_23 : Bool), v82 = .bool x82_23 ∧ Aside0 (shuttlelaw07_TrellisEdges.j3 kq a0 zas zaz ((wrap64 (Int.tdiv a0 32)) % 256) x8_2 x82_23 zj zi zk zl zn zo zp zq zm zr zs zt zu zv zx zw zz zaa zab zac zad zae zy zaf zag zah zai zaj = some r) ∧ Aside0 (kq ≤ k2) ∧ Aside0 (wc.heap[zc]? = some (.cells #[.int .i64 zj, .int .i64 zi, .int .u8 zk, .int .u8 zl, .int .u8 zn, .int .u8 zo, .int .u8 zp, .int .i64 zq, .int .i64 zm, .int .u8 zr, .int .u8 zs, .int .u8 zt, .int .u8 zu, .int .u8 zv] 25 (0, 0))) ∧ Aside0 (wc.heap[zf]? = some (.cells #[.int .i64 zx, .int .i64 zw, .int .u8 zz, .int .u8 zaa, .int .u8 zab, .int .u8 zac, .int .u8 zad, .int .i64 zae, .int .i64 zy, .int .u8 zaf, .int .u8 zag, .int .u8 zah, .int .u8 zai, .int .u8 zaj] 25 (0, 0))) ∧ Aside0 (Below w.heap.size w wc))
        case first =>
         have H := HC24.out
         clear HC24
         by_cases c25 : x8_2 = 0
         ·rw [if_pos c25] at H
          subst c25
          replace H := Option.bind_eq_some_iff.mp H
          obtain ⟨⟨t250, t251, t252, t253, t254, t255, t256⟩, A260, H⟩ := H
          replace H : ((shuttlelaw07_same.f zj zi zk zl zn zo zp t250 t251 t252 t253 t254 t255 t256).bind fun t257 => (if t257 = true then ((shuttleref07_Step.f k2 (wrap64 ((wrap64 ((Int.tmod a0 32) * 2)) + 0)) ((wrap64 (Int.tdiv a0 32)) % 256)).bind fun bt258 => ((shuttlelaw07_same.f zx zw zz zaa zab zac zad bt258.1 bt258.2.1 bt258.2.2.1 bt258.2.2.2.1 bt258.2.2.2.2.1 bt258.2.2.2.2.2.1 bt258.2.2.2.2.2.2).bind fun t265 => (if t265 = true then (shuttlelaw07_TrellisEdges.j3 k2 a0 zas zaz ((wrap64 (Int.tdiv a0 32)) % 256) 0 (zw != a0) zj zi zk zl zn zo zp zq zm zr zs zt zu zv zx zw zz zaa zab zac zad zae zy zaf zag zah zai zaj) else (none)))) else (none))) = some r := H
          have A26 := sq_m A260
          clear A260
          replace H := Option.bind_eq_some_iff.mp H
          obtain ⟨t257, A270, H⟩ := H
          replace H : (if t257 = true then ((shuttleref07_Step.f k2 (wrap64 ((wrap64 ((Int.tmod a0 32) * 2)) + 0)) ((wrap64 (Int.tdiv a0 32)) % 256)).bind fun bt258 => ((shuttlelaw07_same.f zx zw zz zaa zab zac zad bt258.1 bt258.2.1 bt258.2.2.1 bt258.2.2.2.1 bt258.2.2.2.2.1 bt258.2.2.2.2.2.1 bt258.2.2.2.2.2.2).bind fun t265 => (if t265 = true then (shuttlelaw07_TrellisEdges.j3 k2 a0 zas zaz ((wrap64 (Int.tdiv a0 32)) % 256) 0 (zw != a0) zj zi zk zl zn zo zp zq zm zr zs zt zu zv zx zw zz zaa zab zac zad zae zy zaf zag zah zai zaj) else (none)))) else (none)) = some r := H
          have A27 := sq_m A270
          clear A270
          by_cases c28 : t257 = true
          ·subst c28
           have H1 : ((shuttleref07_Step.f k2 (wrap64 ((wrap64 ((Int.tmod a0 32) * 2)) + 0)) ((wrap64 (Int.tdiv a0 32)) % 256)).bind fun bt258 => ((shuttlelaw07_same.f zx zw zz zaa zab zac zad bt258.1 bt258.2.1 bt258.2.2.1 bt258.2.2.2.1 bt258.2.2.2.2.1 bt258.2.2.2.2.2.1 bt258.2.2.2.2.2.2).bind fun t265 => (if t265 = true then (shuttlelaw07_TrellisEdges.j3 k2 a0 zas zaz ((wrap64 (Int.tdiv a0 32)) % 256) 0 (zw != a0) zj zi zk zl zn zo zp zq zm zr zs zt zu zv zx zw zz zaa zab zac zad zae zy zaf zag zah zai zaj) else (none)))) = some r := by rw [if_pos rfl] at H; exact H
           clear H
           have H := H1
           clear H1
           replace H := Option.bind_eq_some_iff.mp H
           obtain ⟨⟨t258, t259, t260, t261, t262, t263, t264⟩, A290, H⟩ := H
           replace H : ((shuttlelaw07_same.f zx zw zz zaa zab zac zad t258 t259 t260 t261 t262 t263 t264).bind fun t265 => (if t265 = true then (shuttlelaw07_TrellisEdges.j3 k2 a0 zas zaz ((wrap64 (Int.tdiv a0 32)) % 256) 0 (zw != a0) zj zi zk zl zn zo zp zq zm zr zs zt zu zv zx zw zz zaa zab zac zad zae zy zaf zag zah zai zaj) else (none))) = some r := H
           have A29 := sq_m A290
           clear A290
           replace H := Option.bind_eq_some_iff.mp H
           obtain ⟨t265, A300, H⟩ := H
           replace H : (if t265 = true then (shuttlelaw07_TrellisEdges.j3 k2 a0 zas zaz ((wrap64 (Int.tdiv a0 32)) % 256) 0 (zw != a0) zj zi zk zl zn zo zp zq zm zr zs zt zu zv zx zw zz zaa zab zac zad zae zy zaf zag zah zai zaj) else (none)) = some r := H
           have A30 := sq_m A300
           clear A300
           by_cases c31 : t265 = true
           ·subst c31
            have H1 : (shuttlelaw07_TrellisEdges.j3 k2 a0 zas zaz ((wrap64 (Int.tdiv a0 32)) % 256) 0 (zw != a0) zj zi zk zl zn zo zp zq zm zr zs zt zu zv zx zw zz zaa zab zac zad zae zy zaf zag zah zai zaj) = some r := by rw [if_pos rfl] at H; exact H
            clear H
            have H := H1
            clear H1
            have H' := sq_m H
            clear H
            try go_wp2
            have n0_ := sq_m (blk_drew za.out)
            have n1_ := sq_m (blk_drew zb.out)
            have n2_ := sq_m (sq_d HB.out)
            clear za
            clear zb
            clear HB
            have za := n0_
            have zb := n1_
            have HB := n2_
            clear n0_ n1_ n2_
            refine start_ (n := 31) (S := fun w' => w'.cell? ⟨zc, 0, none⟩ = some (.int .i64 zj) ∧ w'.cell? ⟨zc, 1, none⟩ = some (.int .i64 zi) ∧ w'.cell? ⟨zc, 2, none⟩ = some (.int .u8 zk) ∧ w'.cell? ⟨zc, 3, none⟩ = some (.int .u8 zl) ∧ w'.cell? ⟨zc, 4, none⟩ = some (.int .u8 zn) ∧ w'.cell? ⟨zc, 5, none⟩ = some (.int .u8 zo) ∧ w'.cell? ⟨zc, 6, none⟩ = some (.int .u8 zp) ∧ w'.cell? ⟨zc, 7, none⟩ = some (.int .i64 zq) ∧ w'.cell? ⟨zc, 8, none⟩ = some (.int .i64 zm) ∧ w'.cell? ⟨zc, 9, none⟩ = some (.int .u8 zr) ∧ w'.cell? ⟨zc, 10, none⟩ = some (.int .u8 zs) ∧ w'.cell? ⟨zc, 11, none⟩ = some (.int .u8 zt) ∧ w'.cell? ⟨zc, 12, none⟩ = some (.int .u8 zu) ∧ w'.cell? ⟨zc, 13, none⟩ = some (.int .u8 zv) ∧ w'.cell? ⟨zf, 0, none⟩ = some (.int .i64 zx) ∧ w'.cell? ⟨zf, 1, none⟩ = some (.int .i64 zw) ∧ w'.cell? ⟨zf, 2, none⟩ = some (.int .u8 zz) ∧ w'.cell? ⟨zf, 3, none⟩ = some (.int .u8 zaa) ∧ w'.cell? ⟨zf, 4, none⟩ = some (.int .u8 zab) ∧ w'.cell? ⟨zf, 5, none⟩ = some (.int .u8 zac) ∧ w'.cell? ⟨zf, 6, none⟩ = some (.int .u8 zad) ∧ w'.cell? ⟨zf, 7, none⟩ = some (.int .i64 zae) ∧ w'.cell? ⟨zf, 8, none⟩ = some (.int .i64 zy) ∧ w'.cell? ⟨zf, 9, none⟩ = some (.int .u8 zaf) ∧ w'.cell? ⟨zf, 10, none⟩ = some (.int .u8 zag) ∧ w'.cell? ⟨zf, 11, none⟩ = some (.int .u8 zah) ∧ w'.cell? ⟨zf, 12, none⟩ = some (.int .u8 zai) ∧ w'.cell? ⟨zf, 13, none⟩ = some (.int .u8 zaj)) (ds := []) mk0 (by kernel_rfl) rfl rfl ⟨(blk_cell za.out 0).trans rfl, (blk_cell za.out 1).trans rfl, (blk_cell za.out 2).trans rfl, (blk_cell za.out 3).trans rfl, (blk_cell za.out 4).trans rfl, (blk_cell za.out 5).trans rfl, (blk_cell za.out 6).trans rfl, (blk_cell za.out 7).trans rfl, (blk_cell za.out 8).trans rfl, (blk_cell za.out 9).trans rfl, (blk_cell za.out 10).trans rfl, (blk_cell za.out 11).trans rfl, (blk_cell za.out 12).trans rfl, (blk_cell za.out 13).trans rfl, (blk_cell zb.out 0).trans rfl, (blk_cell zb.out 1).trans rfl, (blk_cell zb.out 2).trans rfl, (blk_cell zb.out 3).trans rfl, (blk_cell zb.out 4).trans rfl, (blk_cell zb.out 5).trans rfl, (blk_cell zb.out 6).trans rfl, (blk_cell zb.out 7).trans rfl, (blk_cell zb.out 8).trans rfl, (blk_cell zb.out 9).trans rfl, (blk_cell zb.out 10).trans rfl, (blk_cell zb.out 11).trans rfl, (blk_cell zb.out 12).trans rfl, (blk_cell zb.out 13).trans rfl⟩ (fun hHeld => ?_); refine with_tabW shuttlelaw07_TrellisEdges.tab11 shuttlelaw07_TrellisEdges.bits11 (fun HT_ HW_ => ?_)
            generalize wr.drew = w32 at za zb HB hHeld ⊢
            refine pure_ (i := 0) (N := some 52) (v := ?_) (a' := ?_) mk1 rfl rfl (any_of HT_.out (by kernel_rfl)) (fun _ _ _ h => h) (Or.inl ⟨by rfl, ?_⟩) ?_ ?_; rotate_left; (intro w'; go_simp; with_reducible rfl); rotate_left; (simp only [Act.put, sq_a1, sq_a2, sq_a3, i64_w, i32_w]; rfl)
            refine pure_ (i := 1) (N := some 53) (v := ?_) (a' := ?_) mk2 rfl rfl (any_of HT_.out (by kernel_rfl)) (fun _ _ _ h => h) (Or.inl ⟨by rfl, ?_⟩) ?_ ?_; rotate_left; (intro w'; go_simp; with_reducible rfl); rotate_left; (simp only [Act.put, sq_a1, sq_a2, sq_a3, i64_w, i32_w]; rfl)
            refine pure_ (i := 3) (N := some 55) (v := ?_) (a' := ?_) mk3 rfl rfl (any_of HT_.out (by kernel_rfl)) (fun _ _ _ h => h) (Or.inl ⟨by rfl, ?_⟩) ?_ ?_; rotate_left; (intro w'; go_simp; with_reducible rfl); rotate_left; (simp only [Act.put, sq_a1, sq_a2, sq_a3, i64_w, i32_w]; rfl)
            refine pure_ (i := 4) (N := some 56) (v := ?_) (a' := ?_) mk4 rfl rfl (any_of HT_.out (by kernel_rfl)) (fun _ _ _ h => h) (Or.inl ⟨by rfl, ?_⟩) ?_ ?_; rotate_left; (intro w'; go_simp; with_reducible rfl); rotate_left; (simp only [Act.put, sq_a1, sq_a2, sq_a3, i64_w, i32_w]; rfl)
            refine pure_ (i := 5) (N := some 57) (v := ?_) (a' := ?_) mk5 rfl rfl (any_of HT_.out (by kernel_rfl)) (fun _ _ _ h => h) (Or.inl ⟨by rfl, ?_⟩) ?_ ?_; rotate_left; (intro w'; go_simp; with_reducible rfl); rotate_left; (simp only [Act.put, sq_a1, sq_a2, sq_a3, i64_w, i32_w]; rfl)
            refine take_ (i := 2) (N := some 54) (v := ?_) (a' := ?_) mk6 rfl rfl (take_ofW HT_.out HW_.out (by kernel_rfl)) (fun _ _ _ h => h) (Or.inl ⟨by rfl, ?_⟩) hHeld ?_ ?_
            rotate_left
            ·rintro w' ⟨s0, s1, s2, s3, s4, s5, s6, s7, s8, s9, s10, s11, s12, s13, s14, s15, s16, s17, s18, s19, s20, s21, s22, s23, s24, s25, s26, s27⟩
             go_simp
             with_reducible rfl
            rotate_left
            ·simp only [Act.put, sq_a1, sq_a2, sq_a3, i64_w, i32_w]
             rfl
            refine one_ (i := 6) (N := some 58) mk7 rfl rfl (one_of HT_.out (by kernel_rfl)) (by decide) (fun K hK => ?_)
            refine goes_ Tryd.func13 (by kernel_rfl) rfl #[.int .i64 a0, .int .u8 0] (by rfl) rfl rfl (by (try simp only [List.map_toArray, List.map_cons, List.map_nil]); first | done | rfl | (simp only [List.length_drop, List.length_take]; rfl)) ?_
            with_reducible refine (shuttleref07_Step.calls k2 a0 0 t250 t251 t252 t253 t254 t255 t256 _ A26.out).mono ?_
            rintro e w33 ⟨rfl, hb⟩
            refine ⟨_, rfl, ?_⟩
            have n0_ := sq_m (blk_below (g := zc) (o := .cells #[.int .i64 zj, .int .i64 zi, .int .u8 zk, .int .u8 zl, .int .u8 zn, .int .u8 zo, .int .u8 zp, .int .i64 zq, .int .i64 zm, .int .u8 zr, .int .u8 zs, .int .u8 zt, .int .u8 zu, .int .u8 zv] 25 (0, 0)) (by (with_reducible repeat (first | refine blk_drewN ?_ _ | refine blk_drew ?_ | refine blk_alloc ?_ _)); exact za.out) hb)
            have n1_ := sq_m (blk_below (g := zf) (o := .cells #[.int .i64 zx, .int .i64 zw, .int .u8 zz, .int .u8 zaa, .int .u8 zab, .int .u8 zac, .int .u8 zad, .int .i64 zae, .int .i64 zy, .int .u8 zaf, .int .u8 zag, .int .u8 zah, .int .u8 zai, .int .u8 zaj] 25 (0, 0)) (by (with_reducible repeat (first | refine blk_drewN ?_ _ | refine blk_drew ?_ | refine blk_alloc ?_ _)); exact zb.out) hb)
            have n2_ := sq_m (below_step (by with_reducible repeat (first | exact HB.out | apply sq_b | apply sq_n | apply sq_d | refine below_set ?_ zak.out | refine below_set ?_ zal.out)) hb)
            clear za
            clear zb
            clear HB
            have za := n0_
            have zb := n1_
            have HB := n2_
            clear n0_ n1_ n2_
            (try clear hb)
            (try clear hb2)
            (try clear hk)
            (try clear hi)
            refine hK.out _ _ ⟨(blk_cell za.out 0).trans rfl, (blk_cell za.out 1).trans rfl, (blk_cell za.out 2).trans rfl, (blk_cell za.out 3).trans rfl, (blk_cell za.out 4).trans rfl, (blk_cell za.out 5).trans rfl, (blk_cell za.out 6).trans rfl, (blk_cell za.out 7).trans rfl, (blk_cell za.out 8).trans rfl, (blk_cell za.out 9).trans rfl, (blk_cell za.out 10).trans rfl, (blk_cell za.out 11).trans rfl, (blk_cell za.out 12).trans rfl, (blk_cell za.out 13).trans rfl, (blk_cell zb.out 0).trans rfl, (blk_cell zb.out 1).trans rfl, (blk_cell zb.out 2).trans rfl, (blk_cell zb.out 3).trans rfl, (blk_cell zb.out 4).trans rfl, (blk_cell zb.out 5).trans rfl, (blk_cell zb.out 6).trans rfl, (blk_cell zb.out 7).trans rfl, (blk_cell zb.out 8).trans rfl, (blk_cell zb.out 9).trans rfl, (blk_cell zb.out 10).trans rfl, (blk_cell zb.out 11).trans rfl, (blk_cell zb.out 12).trans rfl, (blk_cell zb.out 13).trans rfl⟩ (fun hHeld => ?_)
            clear hK K
            refine norm_ (a' := ?_) ?_ ?_
            rotate_left
            ·show Act.put _ (some 58) _ = _
             simp only [Act.put, sq_a1, sq_a2, sq_a3, i64_w, i32_w]
             rfl
            refine one_ (i := 7) (N := some 59) mk8 rfl rfl (one_of HT_.out (by kernel_rfl)) (by decide) (fun K hK => ?_)
            refine goes_ Tryd.func12 (by kernel_rfl) rfl #[.agg #[.int .i64 zj, .int .i64 zi, .int .u8 zk, .int .u8 zl, .int .u8 zn, .int .u8 zo, .int .u8 zp], .agg #[.int .i64 t250, .int .i64 t251, .int .u8 t252, .int .u8 t253, .int .u8 t254, .int .u8 t255, .int .u8 t256]] (by rfl) rfl rfl (by (try simp only [List.map_toArray, List.map_cons, List.map_nil]); first | done | rfl | (simp only [List.length_drop, List.length_take]; rfl)) ?_
            with_reducible refine (shuttlelaw07_same.calls zj zi zk zl zn zo zp t250 t251 t252 t253 t254 t255 t256 true _ A27.out).mono ?_
            rintro e w34 ⟨rfl, hb⟩
            refine ⟨_, rfl, ?_⟩
            have n0_ := sq_m (blk_below (g := zc) (o := .cells #[.int .i64 zj, .int .i64 zi, .int .u8 zk, .int .u8 zl, .int .u8 zn, .int .u8 zo, .int .u8 zp, .int .i64 zq, .int .i64 zm, .int .u8 zr, .int .u8 zs, .int .u8 zt, .int .u8 zu, .int .u8 zv] 25 (0, 0)) (by (with_reducible repeat (first | refine blk_drewN ?_ _ | refine blk_drew ?_ | refine blk_alloc ?_ _)); exact za.out) hb)
            have n1_ := sq_m (blk_below (g := zf) (o := .cells #[.int .i64 zx, .int .i64 zw, .int .u8 zz, .int .u8 zaa, .int .u8 zab, .int .u8 zac, .int .u8 zad, .int .i64 zae, .int .i64 zy, .int .u8 zaf, .int .u8 zag, .int .u8 zah, .int .u8 zai, .int .u8 zaj] 25 (0, 0)) (by (with_reducible repeat (first | refine blk_drewN ?_ _ | refine blk_drew ?_ | refine blk_alloc ?_ _)); exact zb.out) hb)
            have n2_ := sq_m (below_step (by with_reducible repeat (first | exact HB.out | apply sq_b | apply sq_n | apply sq_d | refine below_set ?_ zak.out | refine below_set ?_ zal.out)) hb)
            clear za
            clear zb
            clear HB
            have za := n0_
            have zb := n1_
            have HB := n2_
            clear n0_ n1_ n2_
            (try clear hb)
            (try clear hb2)
            (try clear hk)
            (try clear hi)
            refine hK.out _ _ ⟨(blk_cell za.out 0).trans rfl, (blk_cell za.out 1).trans rfl, (blk_cell za.out 2).trans rfl, (blk_cell za.out 3).trans rfl, (blk_cell za.out 4).trans rfl, (blk_cell za.out 5).trans rfl, (blk_cell za.out 6).trans rfl, (blk_cell za.out 7).trans rfl, (blk_cell za.out 8).trans rfl, (blk_cell za.out 9).trans rfl, (blk_cell za.out 10).trans rfl, (blk_cell za.out 11).trans rfl, (blk_cell za.out 12).trans rfl, (blk_cell za.out 13).trans rfl, (blk_cell zb.out 0).trans rfl, (blk_cell zb.out 1).trans rfl, (blk_cell zb.out 2).trans rfl, (blk_cell zb.out 3).trans rfl, (blk_cell zb.out 4).trans rfl, (blk_cell zb.out 5).trans rfl, (blk_cell zb.out 6).trans rfl, (blk_cell zb.out 7).trans rfl, (blk_cell zb.out 8).trans rfl, (blk_cell zb.out 9).trans rfl, (blk_cell zb.out 10).trans rfl, (blk_cell zb.out 11).trans rfl, (blk_cell zb.out 12).trans rfl, (blk_cell zb.out 13).trans rfl⟩ (fun hHeld => ?_)
            clear hK K
            refine norm_ (a' := ?_) ?_ ?_
            rotate_left
            ·show Act.put _ (some 59) _ = _
             simp only [Act.put, sq_a1, sq_a2, sq_a3, i64_w, i32_w]
             rfl
            refine pure_ (i := 8) (N := some 60) (v := ?_) (a' := ?_) mk9 rfl rfl (any_of HT_.out (by kernel_rfl)) (fun _ _ _ h => h) (Or.inl ⟨by rfl, ?_⟩) ?_ ?_; rotate_left; (intro w'; go_simp; with_reducible rfl); rotate_left; (simp only [Act.put, sq_a1, sq_a2, sq_a3, i64_w, i32_w]; rfl)
            refine pure_ (i := 9) (N := some 61) (v := ?_) (a' := ?_) mk10 rfl rfl (any_of HT_.out (by kernel_rfl)) (fun _ _ _ h => h) (Or.inl ⟨by rfl, ?_⟩) ?_ ?_; rotate_left; (intro w'; go_simp; with_reducible rfl); rotate_left; (simp only [Act.put, sq_a1, sq_a2, sq_a3, i64_w, i32_w]; rfl)
            refine pure_ (i := 10) (N := some 62) (v := ?_) (a' := ?_) mk11 rfl rfl (any_of HT_.out (by kernel_rfl)) (fun _ _ _ h => h) (Or.inl ⟨by rfl, ?_⟩) ?_ ?_; rotate_left; (intro w'; go_simp; with_reducible rfl); rotate_left; (simp only [Act.put, sq_a1, sq_a2, sq_a3, i64_w, i32_w]; rfl)
            refine pure_ (i := 11) (N := some 63) (v := ?_) (a' := ?_) mk12 rfl rfl (any_of HT_.out (by kernel_rfl)) (fun _ _ _ h => h) (Or.inl ⟨by rfl, ?_⟩) ?_ ?_; rotate_left; (intro w'; go_simp; with_reducible rfl); rotate_left; (simp only [Act.put, sq_a1, sq_a2, sq_a3, i64_w, i32_w]; rfl)
            refine pure_ (i := 13) (N := some 65) (v := ?_) (a' := ?_) mk13 rfl rfl (any_of HT_.out (by kernel_rfl)) (fun _ _ _ h => h) (Or.inl ⟨by rfl, ?_⟩) ?_ ?_; rotate_left; (intro w'; go_simp; with_reducible rfl); rotate_left; (simp only [Act.put, sq_a1, sq_a2, sq_a3, i64_w, i32_w]; rfl)
            refine pure_ (i := 14) (N := some 66) (v := ?_) (a' := ?_) mk14 rfl rfl (any_of HT_.out (by kernel_rfl)) (fun _ _ _ h => h) (Or.inl ⟨by rfl, ?_⟩) ?_ ?_; rotate_left; (intro w'; go_simp; with_reducible rfl); rotate_left; (simp only [Act.put, sq_a1, sq_a2, sq_a3, i64_w, i32_w]; rfl)
            refine pure_ (i := 15) (N := some 67) (v := ?_) (a' := ?_) mk15 rfl rfl (any_of HT_.out (by kernel_rfl)) (fun _ _ _ h => h) (Or.inl ⟨by rfl, ?_⟩) ?_ ?_; rotate_left; (intro w'; go_simp; with_reducible rfl); rotate_left; (simp only [Act.put, sq_a1, sq_a2, sq_a3, i64_w, i32_w]; rfl)
            refine pure_ (i := 16) (N := some 68) (v := ?_) (a' := ?_) mk16 rfl rfl (any_of HT_.out (by kernel_rfl)) (fun _ _ _ h => h) (Or.inl ⟨by rfl, ?_⟩) ?_ ?_; rotate_left; (intro w'; go_simp; with_reducible rfl); rotate_left; (simp only [Act.put, sq_a1, sq_a2, sq_a3, i64_w, i32_w]; rfl)
            refine pure_ (i := 17) (N := some 69) (v := ?_) (a' := ?_) mk17 rfl rfl (any_of HT_.out (by kernel_rfl)) (fun _ _ _ h => h) (Or.inl ⟨by rfl, ?_⟩) ?_ ?_; rotate_left; (intro w'; go_simp; with_reducible rfl); rotate_left; (simp only [Act.put, sq_a1, sq_a2, sq_a3, i64_w, i32_w]; rfl)
            refine pure_ (i := 18) (N := some 70) (v := ?_) (a' := ?_) mk18 rfl rfl (any_of HT_.out (by kernel_rfl)) (fun _ _ _ h => h) (Or.inl ⟨by rfl, ?_⟩) ?_ ?_; rotate_left; (intro w'; go_simp; with_reducible rfl); rotate_left; (simp only [Act.put, sq_a1, sq_a2, sq_a3, i64_w, i32_w]; rfl)
            refine take_ (i := 12) (N := some 64) (v := ?_) (a' := ?_) mk19 rfl rfl (take_ofW HT_.out HW_.out (by kernel_rfl)) (fun _ _ _ h => h) (Or.inl ⟨by rfl, ?_⟩) hHeld ?_ ?_
            rotate_left
            ·rintro w' ⟨s0, s1, s2, s3, s4, s5, s6, s7, s8, s9, s10, s11, s12, s13, s14, s15, s16, s17, s18, s19, s20, s21, s22, s23, s24, s25, s26, s27⟩
             go_simp
             with_reducible rfl
            rotate_left
            ·simp only [Act.put, sq_a1, sq_a2, sq_a3, i64_w, i32_w]
             rfl
            refine one_ (i := 19) (N := some 71) mk20 rfl rfl (one_of HT_.out (by kernel_rfl)) (by decide) (fun K hK => ?_)
            refine goes_ Tryd.func13 (by kernel_rfl) rfl #[.int .i64 (wrap64 ((wrap64 ((Int.tmod a0 32) * 2)) + 0)), .int .u8 ((wrap64 (Int.tdiv a0 32)) % 256)] (by rfl) rfl rfl (by (try simp only [List.map_toArray, List.map_cons, List.map_nil]); first | done | rfl | (simp only [Int.add_zero]; rfl) | (simp only [List.length_drop, List.length_take]; rfl)) ?_
            with_reducible refine (shuttleref07_Step.calls k2 (wrap64 ((wrap64 ((Int.tmod a0 32) * 2)) + 0)) ((wrap64 (Int.tdiv a0 32)) % 256) t258 t259 t260 t261 t262 t263 t264 _ A29.out).mono ?_
            rintro e w35 ⟨rfl, hb⟩
            refine ⟨_, rfl, ?_⟩
            have n0_ := sq_m (blk_below (g := zc) (o := .cells #[.int .i64 zj, .int .i64 zi, .int .u8 zk, .int .u8 zl, .int .u8 zn, .int .u8 zo, .int .u8 zp, .int .i64 zq, .int .i64 zm, .int .u8 zr, .int .u8 zs, .int .u8 zt, .int .u8 zu, .int .u8 zv] 25 (0, 0)) (by (with_reducible repeat (first | refine blk_drewN ?_ _ | refine blk_drew ?_ | refine blk_alloc ?_ _)); exact za.out) hb)
            have n1_ := sq_m (blk_below (g := zf) (o := .cells #[.int .i64 zx, .int .i64 zw, .int .u8 zz, .int .u8 zaa, .int .u8 zab, .int .u8 zac, .int .u8 zad, .int .i64 zae, .int .i64 zy, .int .u8 zaf, .int .u8 zag, .int .u8 zah, .int .u8 zai, .int .u8 zaj] 25 (0, 0)) (by (with_reducible repeat (first | refine blk_drewN ?_ _ | refine blk_drew ?_ | refine blk_alloc ?_ _)); exact zb.out) hb)
            have n2_ := sq_m (below_step (by with_reducible repeat (first | exact HB.out | apply sq_b | apply sq_n | apply sq_d | refine below_set ?_ zak.out | refine below_set ?_ zal.out)) hb)
            clear za
            clear zb
            clear HB
            have za := n0_
            have zb := n1_
            have HB := n2_
            clear n0_ n1_ n2_
            (try clear hb)
            (try clear hb2)
            (try clear hk)
            (try clear hi)
            refine hK.out _ _ ⟨(blk_cell za.out 0).trans rfl, (blk_cell za.out 1).trans rfl, (blk_cell za.out 2).trans rfl, (blk_cell za.out 3).trans rfl, (blk_cell za.out 4).trans rfl, (blk_cell za.out 5).trans rfl, (blk_cell za.out 6).trans rfl, (blk_cell za.out 7).trans rfl, (blk_cell za.out 8).trans rfl, (blk_cell za.out 9).trans rfl, (blk_cell za.out 10).trans rfl, (blk_cell za.out 11).trans rfl, (blk_cell za.out 12).trans rfl, (blk_cell za.out 13).trans rfl, (blk_cell zb.out 0).trans rfl, (blk_cell zb.out 1).trans rfl, (blk_cell zb.out 2).trans rfl, (blk_cell zb.out 3).trans rfl, (blk_cell zb.out 4).trans rfl, (blk_cell zb.out 5).trans rfl, (blk_cell zb.out 6).trans rfl, (blk_cell zb.out 7).trans rfl, (blk_cell zb.out 8).trans rfl, (blk_cell zb.out 9).trans rfl, (blk_cell zb.out 10).trans rfl, (blk_cell zb.out 11).trans rfl, (blk_cell zb.out 12).trans rfl, (blk_cell zb.out 13).trans rfl⟩ (fun hHeld => ?_)
            clear hK K
            refine norm_ (a' := ?_) ?_ ?_
            rotate_left
            ·show Act.put _ (some 71) _ = _
             simp only [Act.put, sq_a1, sq_a2, sq_a3, i64_w, i32_w]
             rfl
            refine one_ (i := 20) (N := some 72) mk21 rfl rfl (one_of HT_.out (by kernel_rfl)) (by decide) (fun K hK => ?_)
            refine goes_ Tryd.func12 (by kernel_rfl) rfl #[.agg #[.int .i64 zx, .int .i64 zw, .int .u8 zz, .int .u8 zaa, .int .u8 zab, .int .u8 zac, .int .u8 zad], .agg #[.int .i64 t258, .int .i64 t259, .int .u8 t260, .int .u8 t261, .int .u8 t262, .int .u8 t263, .int .u8 t264]] (by rfl) rfl rfl (by (try simp only [List.map_toArray, List.map_cons, List.map_nil]); first | done | rfl | (simp only [List.length_drop, List.length_take]; rfl)) ?_
            with_reducible refine (shuttlelaw07_same.calls zx zw zz zaa zab zac zad t258 t259 t260 t261 t262 t263 t264 true _ A30.out).mono ?_
            rintro e w36 ⟨rfl, hb⟩
            refine ⟨_, rfl, ?_⟩
            have n0_ := sq_m (blk_below (g := zc) (o := .cells #[.int .i64 zj, .int .i64 zi, .int .u8 zk, .int .u8 zl, .int .u8 zn, .int .u8 zo, .int .u8 zp, .int .i64 zq, .int .i64 zm, .int .u8 zr, .int .u8 zs, .int .u8 zt, .int .u8 zu, .int .u8 zv] 25 (0, 0)) (by (with_reducible repeat (first | refine blk_drewN ?_ _ | refine blk_drew ?_ | refine blk_alloc ?_ _)); exact za.out) hb)
            have n1_ := sq_m (blk_below (g := zf) (o := .cells #[.int .i64 zx, .int .i64 zw, .int .u8 zz, .int .u8 zaa, .int .u8 zab, .int .u8 zac, .int .u8 zad, .int .i64 zae, .int .i64 zy, .int .u8 zaf, .int .u8 zag, .int .u8 zah, .int .u8 zai, .int .u8 zaj] 25 (0, 0)) (by (with_reducible repeat (first | refine blk_drewN ?_ _ | refine blk_drew ?_ | refine blk_alloc ?_ _)); exact zb.out) hb)
            have n2_ := sq_m (below_step (by with_reducible repeat (first | exact HB.out | apply sq_b | apply sq_n | apply sq_d | refine below_set ?_ zak.out | refine below_set ?_ zal.out)) hb)
            clear za
            clear zb
            clear HB
            have za := n0_
            have zb := n1_
            have HB := n2_
            clear n0_ n1_ n2_
            (try clear hb)
            (try clear hb2)
            (try clear hk)
            (try clear hi)
            refine hK.out _ _ ⟨(blk_cell za.out 0).trans rfl, (blk_cell za.out 1).trans rfl, (blk_cell za.out 2).trans rfl, (blk_cell za.out 3).trans rfl, (blk_cell za.out 4).trans rfl, (blk_cell za.out 5).trans rfl, (blk_cell za.out 6).trans rfl, (blk_cell za.out 7).trans rfl, (blk_cell za.out 8).trans rfl, (blk_cell za.out 9).trans rfl, (blk_cell za.out 10).trans rfl, (blk_cell za.out 11).trans rfl, (blk_cell za.out 12).trans rfl, (blk_cell za.out 13).trans rfl, (blk_cell zb.out 0).trans rfl, (blk_cell zb.out 1).trans rfl, (blk_cell zb.out 2).trans rfl, (blk_cell zb.out 3).trans rfl, (blk_cell zb.out 4).trans rfl, (blk_cell zb.out 5).trans rfl, (blk_cell zb.out 6).trans rfl, (blk_cell zb.out 7).trans rfl, (blk_cell zb.out 8).trans rfl, (blk_cell zb.out 9).trans rfl, (blk_cell zb.out 10).trans rfl, (blk_cell zb.out 11).trans rfl, (blk_cell zb.out 12).trans rfl, (blk_cell zb.out 13).trans rfl⟩ (fun hHeld => ?_)
            clear hK K
            refine norm_ (a' := ?_) ?_ ?_
            rotate_left
            ·show Act.put _ (some 72) _ = _
             simp only [Act.put, sq_a1, sq_a2, sq_a3, i64_w, i32_w]
             rfl
            refine pure_ (i := 21) (N := some 73) (v := ?_) (a' := ?_) mk22 rfl rfl (any_of HT_.out (by kernel_rfl)) (fun _ _ _ h => h) (Or.inl ⟨by rfl, ?_⟩) ?_ ?_; rotate_left; (intro w'; go_simp; with_reducible rfl); rotate_left; (simp only [Act.put, sq_a1, sq_a2, sq_a3, i64_w, i32_w]; rfl)
            refine pure_ (i := 22) (N := some 74) (v := ?_) (a' := ?_) mk23 rfl rfl (any_of HT_.out (by kernel_rfl)) (fun _ _ _ h => h) (Or.inl ⟨by rfl, ?_⟩) ?_ ?_; rotate_left; (intro w'; go_simp; with_reducible rfl); rotate_left; (simp only [Act.put, sq_a1, sq_a2, sq_a3, i64_w, i32_w]; rfl)
            refine pure_ (i := 23) (N := some 75) (v := ?_) (a' := ?_) mk24 rfl rfl (any_of HT_.out (by kernel_rfl)) (fun _ _ _ h => h) (Or.inl ⟨by rfl, ?_⟩) ?_ ?_; rotate_left; (intro w'; go_simp; with_reducible rfl); rotate_left; (simp only [Act.put, sq_a1, sq_a2, sq_a3, i64_w, i32_w]; rfl)
            refine pure_ (i := 24) (N := some 76) (v := ?_) (a' := ?_) mk25 rfl rfl (any_of HT_.out (by kernel_rfl)) (fun _ _ _ h => h) (Or.inl ⟨by rfl, ?_⟩) ?_ ?_; rotate_left; (intro w'; go_simp; with_reducible rfl); rotate_left; (simp only [Act.put, sq_a1, sq_a2, sq_a3, i64_w, i32_w]; rfl)
            refine pure_ (i := 25) (N := some 77) (v := ?_) (a' := ?_) mk26 rfl rfl (any_of HT_.out (by kernel_rfl)) (fun _ _ _ h => h) (Or.inl ⟨by rfl, ?_⟩) ?_ ?_; rotate_left; (intro w'; go_simp; with_reducible rfl); rotate_left; (simp only [Act.put, sq_a1, sq_a2, sq_a3, i64_w, i32_w]; rfl)
            refine pure_ (i := 26) (N := some 78) (v := ?_) (a' := ?_) mk27 rfl rfl (any_of HT_.out (by kernel_rfl)) (fun _ _ _ h => h) (Or.inl ⟨by rfl, ?_⟩) ?_ ?_; rotate_left; (intro w'; go_simp; with_reducible rfl); rotate_left; (simp only [Act.put, sq_a1, sq_a2, sq_a3, i64_w, i32_w]; rfl)
            refine pure_ (i := 28) (N := some 80) (v := ?_) (a' := ?_) mk28 rfl rfl (any_of HT_.out (by kernel_rfl)) (fun _ _ _ h => h) (Or.inl ⟨by rfl, ?_⟩) ?_ ?_; rotate_left; (intro w'; go_simp; with_reducible rfl); rotate_left; (simp only [Act.put, sq_a1, sq_a2, sq_a3, i64_w, i32_w]; rfl)
            refine take_ (i := 27) (N := some 79) (v := ?_) (a' := ?_) mk29 rfl rfl (take_ofW HT_.out HW_.out (by kernel_rfl)) (fun _ _ _ h => h) (Or.inl ⟨by rfl, ?_⟩) hHeld ?_ ?_
            rotate_left
            ·rintro w' ⟨s0, s1, s2, s3, s4, s5, s6, s7, s8, s9, s10, s11, s12, s13, s14, s15, s16, s17, s18, s19, s20, s21, s22, s23, s24, s25, s26, s27⟩
             go_simp
             with_reducible rfl
            rotate_left
            ·simp only [Act.put, sq_a1, sq_a2, sq_a3, i64_w, i32_w]
             rfl
            refine pure_ (i := 29) (N := some 81) (v := ?_) (a' := ?_) mk30 rfl rfl (any_of HT_.out (by kernel_rfl)) (fun _ _ _ h => h) (Or.inl ⟨by rfl, ?_⟩) ?_ ?_; rotate_left; (intro w'; go_simp; with_reducible rfl); rotate_left; (simp only [Act.put, sq_a1, sq_a2, sq_a3, i64_w, i32_w]; rfl)
            refine pure_ (i := 30) (N := some 82) (v := ?_) (a' := ?_) mk31 rfl rfl (any_of HT_.out (by kernel_rfl)) (fun _ _ _ h => h) (Or.inl ⟨by rfl, ?_⟩) ?_ ?_; rotate_left; (intro w'; go_simp; with_reducible rfl); rotate_left; (simp only [Act.put, sq_a1, sq_a2, sq_a3, i64_w, i32_w]; rfl)
            refine done_ (done_of HT_.out (by kernel_rfl)) ?_
            try go_wp2
            go_meet
            case rel => exact ⟨_, ((zw != a0)), (by first | rfl | (simp; done) | (simp [*]; done)), H', ⟨by have := HJ5.out; have := HK2.out; first | omega | exact Nat.le_refl _⟩, ⟨by (with_reducible repeat (first | refine blk_drewN ?_ _ | refine blk_drew ?_ | refine blk_alloc ?_ _)); exact za.out⟩, ⟨by (with_reducible repeat (first | refine blk_drewN ?_ _ | refine blk_drew ?_ | refine blk_alloc ?_ _)); exact zb.out⟩, ⟨by with_reducible repeat (first | exact HB.out | apply sq_b | apply sq_n | apply sq_d | refine below_set ?_ zak.out | refine below_set ?_ zal.out)⟩⟩
           ·replace c31 := Bool.eq_false_iff.mpr c31
            subst c31
            have H1 : (none) = some r := by rw [if_neg (show ¬ (false = true) by decide)] at H; exact H
            clear H
            have H := H1
            clear H1
            exact absurd H (by simp)
          ·replace c28 := Bool.eq_false_iff.mpr c28
           subst c28
           have H1 : (none) = some r := by rw [if_neg (show ¬ (false = true) by decide)] at H; exact H
           clear H
           have H := H1
           clear H1
           exact absurd H (by simp)
         ·rw [if_neg c25] at H
          clear c25
          by_cases c37 : x8_2 = 1
          ·rw [if_pos c37] at H
           subst c37
           replace H := Option.bind_eq_some_iff.mp H
           obtain ⟨⟨t234, t235, t236, t237, t238, t239, t240⟩, A380, H⟩ := H
           replace H : ((shuttlelaw07_same.f zq zm zr zs zt zu zv t234 t235 t236 t237 t238 t239 t240).bind fun t241 => (if t241 = true then ((shuttleref07_Step.f k2 (wrap64 ((wrap64 ((Int.tmod a0 32) * 2)) + 1)) ((wrap64 (Int.tdiv a0 32)) % 256)).bind fun bt242 => ((shuttlelaw07_same.f zae zy zaf zag zah zai zaj bt242.1 bt242.2.1 bt242.2.2.1 bt242.2.2.2.1 bt242.2.2.2.2.1 bt242.2.2.2.2.2.1 bt242.2.2.2.2.2.2).bind fun t249 => (if t249 = true then (shuttlelaw07_TrellisEdges.j3 k2 a0 zas zaz ((wrap64 (Int.tdiv a0 32)) % 256) 1 (zy != a0) zj zi zk zl zn zo zp zq zm zr zs zt zu zv zx zw zz zaa zab zac zad zae zy zaf zag zah zai zaj) else (none)))) else (none))) = some r := H
           have A38 := sq_m A380
           clear A380
           replace H := Option.bind_eq_some_iff.mp H
           obtain ⟨t241, A390, H⟩ := H
           replace H : (if t241 = true then ((shuttleref07_Step.f k2 (wrap64 ((wrap64 ((Int.tmod a0 32) * 2)) + 1)) ((wrap64 (Int.tdiv a0 32)) % 256)).bind fun bt242 => ((shuttlelaw07_same.f zae zy zaf zag zah zai zaj bt242.1 bt242.2.1 bt242.2.2.1 bt242.2.2.2.1 bt242.2.2.2.2.1 bt242.2.2.2.2.2.1 bt242.2.2.2.2.2.2).bind fun t249 => (if t249 = true then (shuttlelaw07_TrellisEdges.j3 k2 a0 zas zaz ((wrap64 (Int.tdiv a0 32)) % 256) 1 (zy != a0) zj zi zk zl zn zo zp zq zm zr zs zt zu zv zx zw zz zaa zab zac zad zae zy zaf zag zah zai zaj) else (none)))) else (none)) = some r := H
           have A39 := sq_m A390
           clear A390
           by_cases c40 : t241 = true
           ·subst c40
            have H1 : ((shuttleref07_Step.f k2 (wrap64 ((wrap64 ((Int.tmod a0 32) * 2)) + 1)) ((wrap64 (Int.tdiv a0 32)) % 256)).bind fun bt242 => ((shuttlelaw07_same.f zae zy zaf zag zah zai zaj bt242.1 bt242.2.1 bt242.2.2.1 bt242.2.2.2.1 bt242.2.2.2.2.1 bt242.2.2.2.2.2.1 bt242.2.2.2.2.2.2).bind fun t249 => (if t249 = true then (shuttlelaw07_TrellisEdges.j3 k2 a0 zas zaz ((wrap64 (Int.tdiv a0 32)) % 256) 1 (zy != a0) zj zi zk zl zn zo zp zq zm zr zs zt zu zv zx zw zz zaa zab zac zad zae zy zaf zag zah zai zaj) else (none)))) = some r := by rw [if_pos rfl] at H; exact H
            clear H
            have H := H1
            clear H1
            replace H := Option.bind_eq_some_iff.mp H
            obtain ⟨⟨t242, t243, t244, t245, t246, t247, t248⟩, A410, H⟩ := H
            replace H : ((shuttlelaw07_same.f zae zy zaf zag zah zai zaj t242 t243 t244 t245 t246 t247 t248).bind fun t249 => (if t249 = true then (shuttlelaw07_TrellisEdges.j3 k2 a0 zas zaz ((wrap64 (Int.tdiv a0 32)) % 256) 1 (zy != a0) zj zi zk zl zn zo zp zq zm zr zs zt zu zv zx zw zz zaa zab zac zad zae zy zaf zag zah zai zaj) else (none))) = some r := H
            have A41 := sq_m A410
            clear A410
            replace H := Option.bind_eq_some_iff.mp H
            obtain ⟨t249, A420, H⟩ := H
            replace H : (if t249 = true then (shuttlelaw07_TrellisEdges.j3 k2 a0 zas zaz ((wrap64 (Int.tdiv a0 32)) % 256) 1 (zy != a0) zj zi zk zl zn zo zp zq zm zr zs zt zu zv zx zw zz zaa zab zac zad zae zy zaf zag zah zai zaj) else (none)) = some r := H
            have A42 := sq_m A420
            clear A420
            by_cases c43 : t249 = true
            ·subst c43
             have H1 : (shuttlelaw07_TrellisEdges.j3 k2 a0 zas zaz ((wrap64 (Int.tdiv a0 32)) % 256) 1 (zy != a0) zj zi zk zl zn zo zp zq zm zr zs zt zu zv zx zw zz zaa zab zac zad zae zy zaf zag zah zai zaj) = some r := by rw [if_pos rfl] at H; exact H
             clear H
             have H := H1
             clear H1
             have H' := sq_m H
             clear H
             try go_wp2
             have n0_ := sq_m (blk_drew za.out)
             have n1_ := sq_m (blk_drew zb.out)
             have n2_ := sq_m (sq_d HB.out)
             clear za
             clear zb
             clear HB
             have za := n0_
             have zb := n1_
             have HB := n2_
             clear n0_ n1_ n2_
             refine start_ (n := 31) (S := fun w' => w'.cell? ⟨zc, 0, none⟩ = some (.int .i64 zj) ∧ w'.cell? ⟨zc, 1, none⟩ = some (.int .i64 zi) ∧ w'.cell? ⟨zc, 2, none⟩ = some (.int .u8 zk) ∧ w'.cell? ⟨zc, 3, none⟩ = some (.int .u8 zl) ∧ w'.cell? ⟨zc, 4, none⟩ = some (.int .u8 zn) ∧ w'.cell? ⟨zc, 5, none⟩ = some (.int .u8 zo) ∧ w'.cell? ⟨zc, 6, none⟩ = some (.int .u8 zp) ∧ w'.cell? ⟨zc, 7, none⟩ = some (.int .i64 zq) ∧ w'.cell? ⟨zc, 8, none⟩ = some (.int .i64 zm) ∧ w'.cell? ⟨zc, 9, none⟩ = some (.int .u8 zr) ∧ w'.cell? ⟨zc, 10, none⟩ = some (.int .u8 zs) ∧ w'.cell? ⟨zc, 11, none⟩ = some (.int .u8 zt) ∧ w'.cell? ⟨zc, 12, none⟩ = some (.int .u8 zu) ∧ w'.cell? ⟨zc, 13, none⟩ = some (.int .u8 zv) ∧ w'.cell? ⟨zf, 0, none⟩ = some (.int .i64 zx) ∧ w'.cell? ⟨zf, 1, none⟩ = some (.int .i64 zw) ∧ w'.cell? ⟨zf, 2, none⟩ = some (.int .u8 zz) ∧ w'.cell? ⟨zf, 3, none⟩ = some (.int .u8 zaa) ∧ w'.cell? ⟨zf, 4, none⟩ = some (.int .u8 zab) ∧ w'.cell? ⟨zf, 5, none⟩ = some (.int .u8 zac) ∧ w'.cell? ⟨zf, 6, none⟩ = some (.int .u8 zad) ∧ w'.cell? ⟨zf, 7, none⟩ = some (.int .i64 zae) ∧ w'.cell? ⟨zf, 8, none⟩ = some (.int .i64 zy) ∧ w'.cell? ⟨zf, 9, none⟩ = some (.int .u8 zaf) ∧ w'.cell? ⟨zf, 10, none⟩ = some (.int .u8 zag) ∧ w'.cell? ⟨zf, 11, none⟩ = some (.int .u8 zah) ∧ w'.cell? ⟨zf, 12, none⟩ = some (.int .u8 zai) ∧ w'.cell? ⟨zf, 13, none⟩ = some (.int .u8 zaj)) (ds := []) mk0 (by kernel_rfl) rfl rfl ⟨(blk_cell za.out 0).trans rfl, (blk_cell za.out 1).trans rfl, (blk_cell za.out 2).trans rfl, (blk_cell za.out 3).trans rfl, (blk_cell za.out 4).trans rfl, (blk_cell za.out 5).trans rfl, (blk_cell za.out 6).trans rfl, (blk_cell za.out 7).trans rfl, (blk_cell za.out 8).trans rfl, (blk_cell za.out 9).trans rfl, (blk_cell za.out 10).trans rfl, (blk_cell za.out 11).trans rfl, (blk_cell za.out 12).trans rfl, (blk_cell za.out 13).trans rfl, (blk_cell zb.out 0).trans rfl, (blk_cell zb.out 1).trans rfl, (blk_cell zb.out 2).trans rfl, (blk_cell zb.out 3).trans rfl, (blk_cell zb.out 4).trans rfl, (blk_cell zb.out 5).trans rfl, (blk_cell zb.out 6).trans rfl, (blk_cell zb.out 7).trans rfl, (blk_cell zb.out 8).trans rfl, (blk_cell zb.out 9).trans rfl, (blk_cell zb.out 10).trans rfl, (blk_cell zb.out 11).trans rfl, (blk_cell zb.out 12).trans rfl, (blk_cell zb.out 13).trans rfl⟩ (fun hHeld => ?_); refine with_tabW shuttlelaw07_TrellisEdges.tab11 shuttlelaw07_TrellisEdges.bits11 (fun HT_ HW_ => ?_)
             generalize wr.drew = w44 at za zb HB hHeld ⊢
             refine pure_ (i := 0) (N := some 52) (v := ?_) (a' := ?_) mk1 rfl rfl (any_of HT_.out (by kernel_rfl)) (fun _ _ _ h => h) (Or.inl ⟨by rfl, ?_⟩) ?_ ?_; rotate_left; (intro w'; go_simp; with_reducible rfl); rotate_left; (simp only [Act.put, sq_a1, sq_a2, sq_a3, i64_w, i32_w]; rfl)
             refine pure_ (i := 1) (N := some 53) (v := ?_) (a' := ?_) mk2 rfl rfl (any_of HT_.out (by kernel_rfl)) (fun _ _ _ h => h) (Or.inl ⟨by rfl, ?_⟩) ?_ ?_; rotate_left; (intro w'; go_simp; with_reducible rfl); rotate_left; (simp only [Act.put, sq_a1, sq_a2, sq_a3, i64_w, i32_w]; rfl)
             refine pure_ (i := 3) (N := some 55) (v := ?_) (a' := ?_) mk3 rfl rfl (any_of HT_.out (by kernel_rfl)) (fun _ _ _ h => h) (Or.inl ⟨by rfl, ?_⟩) ?_ ?_; rotate_left; (intro w'; go_simp; with_reducible rfl); rotate_left; (simp only [Act.put, sq_a1, sq_a2, sq_a3, i64_w, i32_w]; rfl)
             refine pure_ (i := 4) (N := some 56) (v := ?_) (a' := ?_) mk4 rfl rfl (any_of HT_.out (by kernel_rfl)) (fun _ _ _ h => h) (Or.inl ⟨by rfl, ?_⟩) ?_ ?_; rotate_left; (intro w'; go_simp; with_reducible rfl); rotate_left; (simp only [Act.put, sq_a1, sq_a2, sq_a3, i64_w, i32_w]; rfl)
             refine pure_ (i := 5) (N := some 57) (v := ?_) (a' := ?_) mk5 rfl rfl (any_of HT_.out (by kernel_rfl)) (fun _ _ _ h => h) (Or.inl ⟨by rfl, ?_⟩) ?_ ?_; rotate_left; (intro w'; go_simp; with_reducible rfl); rotate_left; (simp only [Act.put, sq_a1, sq_a2, sq_a3, i64_w, i32_w]; rfl)
             refine take_ (i := 2) (N := some 54) (v := ?_) (a' := ?_) mk6 rfl rfl (take_ofW HT_.out HW_.out (by kernel_rfl)) (fun _ _ _ h => h) (Or.inl ⟨by rfl, ?_⟩) hHeld ?_ ?_
             rotate_left
             ·rintro w' ⟨s0, s1, s2, s3, s4, s5, s6, s7, s8, s9, s10, s11, s12, s13, s14, s15, s16, s17, s18, s19, s20, s21, s22, s23, s24, s25, s26, s27⟩
              go_simp
              with_reducible rfl
             rotate_left
             ·simp only [Act.put, sq_a1, sq_a2, sq_a3, i64_w, i32_w]
              rfl
             refine one_ (i := 6) (N := some 58) mk7 rfl rfl (one_of HT_.out (by kernel_rfl)) (by decide) (fun K hK => ?_)
             refine goes_ Tryd.func13 (by kernel_rfl) rfl #[.int .i64 a0, .int .u8 1] (by rfl) rfl rfl (by (try simp only [List.map_toArray, List.map_cons, List.map_nil]); first | done | rfl | (simp only [List.length_drop, List.length_take]; rfl)) ?_
             with_reducible refine (shuttleref07_Step.calls k2 a0 1 t234 t235 t236 t237 t238 t239 t240 _ A38.out).mono ?_
             rintro e w45 ⟨rfl, hb⟩
             refine ⟨_, rfl, ?_⟩
             have n0_ := sq_m (blk_below (g := zc) (o := .cells #[.int .i64 zj, .int .i64 zi, .int .u8 zk, .int .u8 zl, .int .u8 zn, .int .u8 zo, .int .u8 zp, .int .i64 zq, .int .i64 zm, .int .u8 zr, .int .u8 zs, .int .u8 zt, .int .u8 zu, .int .u8 zv] 25 (0, 0)) (by (with_reducible repeat (first | refine blk_drewN ?_ _ | refine blk_drew ?_ | refine blk_alloc ?_ _)); exact za.out) hb)
             have n1_ := sq_m (blk_below (g := zf) (o := .cells #[.int .i64 zx, .int .i64 zw, .int .u8 zz, .int .u8 zaa, .int .u8 zab, .int .u8 zac, .int .u8 zad, .int .i64 zae, .int .i64 zy, .int .u8 zaf, .int .u8 zag, .int .u8 zah, .int .u8 zai, .int .u8 zaj] 25 (0, 0)) (by (with_reducible repeat (first | refine blk_drewN ?_ _ | refine blk_drew ?_ | refine blk_alloc ?_ _)); exact zb.out) hb)
             have n2_ := sq_m (below_step (by with_reducible repeat (first | exact HB.out | apply sq_b | apply sq_n | apply sq_d | refine below_set ?_ zak.out | refine below_set ?_ zal.out)) hb)
             clear za
             clear zb
             clear HB
             have za := n0_
             have zb := n1_
             have HB := n2_
             clear n0_ n1_ n2_
             (try clear hb)
             (try clear hb2)
             (try clear hk)
             (try clear hi)
             refine hK.out _ _ ⟨(blk_cell za.out 0).trans rfl, (blk_cell za.out 1).trans rfl, (blk_cell za.out 2).trans rfl, (blk_cell za.out 3).trans rfl, (blk_cell za.out 4).trans rfl, (blk_cell za.out 5).trans rfl, (blk_cell za.out 6).trans rfl, (blk_cell za.out 7).trans rfl, (blk_cell za.out 8).trans rfl, (blk_cell za.out 9).trans rfl, (blk_cell za.out 10).trans rfl, (blk_cell za.out 11).trans rfl, (blk_cell za.out 12).trans rfl, (blk_cell za.out 13).trans rfl, (blk_cell zb.out 0).trans rfl, (blk_cell zb.out 1).trans rfl, (blk_cell zb.out 2).trans rfl, (blk_cell zb.out 3).trans rfl, (blk_cell zb.out 4).trans rfl, (blk_cell zb.out 5).trans rfl, (blk_cell zb.out 6).trans rfl, (blk_cell zb.out 7).trans rfl, (blk_cell zb.out 8).trans rfl, (blk_cell zb.out 9).trans rfl, (blk_cell zb.out 10).trans rfl, (blk_cell zb.out 11).trans rfl, (blk_cell zb.out 12).trans rfl, (blk_cell zb.out 13).trans rfl⟩ (fun hHeld => ?_)
             clear hK K
             refine norm_ (a' := ?_) ?_ ?_
             rotate_left
             ·show Act.put _ (some 58) _ = _
              simp only [Act.put, sq_a1, sq_a2, sq_a3, i64_w, i32_w]
              rfl
             refine one_ (i := 7) (N := some 59) mk8 rfl rfl (one_of HT_.out (by kernel_rfl)) (by decide) (fun K hK => ?_)
             refine goes_ Tryd.func12 (by kernel_rfl) rfl #[.agg #[.int .i64 zq, .int .i64 zm, .int .u8 zr, .int .u8 zs, .int .u8 zt, .int .u8 zu, .int .u8 zv], .agg #[.int .i64 t234, .int .i64 t235, .int .u8 t236, .int .u8 t237, .int .u8 t238, .int .u8 t239, .int .u8 t240]] (by rfl) rfl rfl (by (try simp only [List.map_toArray, List.map_cons, List.map_nil]); first | done | rfl | (simp only [List.length_drop, List.length_take]; rfl)) ?_
             with_reducible refine (shuttlelaw07_same.calls zq zm zr zs zt zu zv t234 t235 t236 t237 t238 t239 t240 true _ A39.out).mono ?_
             rintro e w46 ⟨rfl, hb⟩
             refine ⟨_, rfl, ?_⟩
             have n0_ := sq_m (blk_below (g := zc) (o := .cells #[.int .i64 zj, .int .i64 zi, .int .u8 zk, .int .u8 zl, .int .u8 zn, .int .u8 zo, .int .u8 zp, .int .i64 zq, .int .i64 zm, .int .u8 zr, .int .u8 zs, .int .u8 zt, .int .u8 zu, .int .u8 zv] 25 (0, 0)) (by (with_reducible repeat (first | refine blk_drewN ?_ _ | refine blk_drew ?_ | refine blk_alloc ?_ _)); exact za.out) hb)
             have n1_ := sq_m (blk_below (g := zf) (o := .cells #[.int .i64 zx, .int .i64 zw, .int .u8 zz, .int .u8 zaa, .int .u8 zab, .int .u8 zac, .int .u8 zad, .int .i64 zae, .int .i64 zy, .int .u8 zaf, .int .u8 zag, .int .u8 zah, .int .u8 zai, .int .u8 zaj] 25 (0, 0)) (by (with_reducible repeat (first | refine blk_drewN ?_ _ | refine blk_drew ?_ | refine blk_alloc ?_ _)); exact zb.out) hb)
             have n2_ := sq_m (below_step (by with_reducible repeat (first | exact HB.out | apply sq_b | apply sq_n | apply sq_d | refine below_set ?_ zak.out | refine below_set ?_ zal.out)) hb)
             clear za
             clear zb
             clear HB
             have za := n0_
             have zb := n1_
             have HB := n2_
             clear n0_ n1_ n2_
             (try clear hb)
             (try clear hb2)
             (try clear hk)
             (try clear hi)
             refine hK.out _ _ ⟨(blk_cell za.out 0).trans rfl, (blk_cell za.out 1).trans rfl, (blk_cell za.out 2).trans rfl, (blk_cell za.out 3).trans rfl, (blk_cell za.out 4).trans rfl, (blk_cell za.out 5).trans rfl, (blk_cell za.out 6).trans rfl, (blk_cell za.out 7).trans rfl, (blk_cell za.out 8).trans rfl, (blk_cell za.out 9).trans rfl, (blk_cell za.out 10).trans rfl, (blk_cell za.out 11).trans rfl, (blk_cell za.out 12).trans rfl, (blk_cell za.out 13).trans rfl, (blk_cell zb.out 0).trans rfl, (blk_cell zb.out 1).trans rfl, (blk_cell zb.out 2).trans rfl, (blk_cell zb.out 3).trans rfl, (blk_cell zb.out 4).trans rfl, (blk_cell zb.out 5).trans rfl, (blk_cell zb.out 6).trans rfl, (blk_cell zb.out 7).trans rfl, (blk_cell zb.out 8).trans rfl, (blk_cell zb.out 9).trans rfl, (blk_cell zb.out 10).trans rfl, (blk_cell zb.out 11).trans rfl, (blk_cell zb.out 12).trans rfl, (blk_cell zb.out 13).trans rfl⟩ (fun hHeld => ?_)
             clear hK K
             refine norm_ (a' := ?_) ?_ ?_
             rotate_left
             ·show Act.put _ (some 59) _ = _
              simp only [Act.put, sq_a1, sq_a2, sq_a3, i64_w, i32_w]
              rfl
             refine pure_ (i := 8) (N := some 60) (v := ?_) (a' := ?_) mk9 rfl rfl (any_of HT_.out (by kernel_rfl)) (fun _ _ _ h => h) (Or.inl ⟨by rfl, ?_⟩) ?_ ?_; rotate_left; (intro w'; go_simp; with_reducible rfl); rotate_left; (simp only [Act.put, sq_a1, sq_a2, sq_a3, i64_w, i32_w]; rfl)
             refine pure_ (i := 9) (N := some 61) (v := ?_) (a' := ?_) mk10 rfl rfl (any_of HT_.out (by kernel_rfl)) (fun _ _ _ h => h) (Or.inl ⟨by rfl, ?_⟩) ?_ ?_; rotate_left; (intro w'; go_simp; with_reducible rfl); rotate_left; (simp only [Act.put, sq_a1, sq_a2, sq_a3, i64_w, i32_w]; rfl)
             refine pure_ (i := 10) (N := some 62) (v := ?_) (a' := ?_) mk11 rfl rfl (any_of HT_.out (by kernel_rfl)) (fun _ _ _ h => h) (Or.inl ⟨by rfl, ?_⟩) ?_ ?_; rotate_left; (intro w'; go_simp; with_reducible rfl); rotate_left; (simp only [Act.put, sq_a1, sq_a2, sq_a3, i64_w, i32_w]; rfl)
             refine pure_ (i := 11) (N := some 63) (v := ?_) (a' := ?_) mk12 rfl rfl (any_of HT_.out (by kernel_rfl)) (fun _ _ _ h => h) (Or.inl ⟨by rfl, ?_⟩) ?_ ?_; rotate_left; (intro w'; go_simp; with_reducible rfl); rotate_left; (simp only [Act.put, sq_a1, sq_a2, sq_a3, i64_w, i32_w]; rfl)
             refine pure_ (i := 13) (N := some 65) (v := ?_) (a' := ?_) mk13 rfl rfl (any_of HT_.out (by kernel_rfl)) (fun _ _ _ h => h) (Or.inl ⟨by rfl, ?_⟩) ?_ ?_; rotate_left; (intro w'; go_simp; with_reducible rfl); rotate_left; (simp only [Act.put, sq_a1, sq_a2, sq_a3, i64_w, i32_w]; rfl)
             refine pure_ (i := 14) (N := some 66) (v := ?_) (a' := ?_) mk14 rfl rfl (any_of HT_.out (by kernel_rfl)) (fun _ _ _ h => h) (Or.inl ⟨by rfl, ?_⟩) ?_ ?_; rotate_left; (intro w'; go_simp; with_reducible rfl); rotate_left; (simp only [Act.put, sq_a1, sq_a2, sq_a3, i64_w, i32_w]; rfl)
             refine pure_ (i := 15) (N := some 67) (v := ?_) (a' := ?_) mk15 rfl rfl (any_of HT_.out (by kernel_rfl)) (fun _ _ _ h => h) (Or.inl ⟨by rfl, ?_⟩) ?_ ?_; rotate_left; (intro w'; go_simp; with_reducible rfl); rotate_left; (simp only [Act.put, sq_a1, sq_a2, sq_a3, i64_w, i32_w]; rfl)
             refine pure_ (i := 16) (N := some 68) (v := ?_) (a' := ?_) mk16 rfl rfl (any_of HT_.out (by kernel_rfl)) (fun _ _ _ h => h) (Or.inl ⟨by rfl, ?_⟩) ?_ ?_; rotate_left; (intro w'; go_simp; with_reducible rfl); rotate_left; (simp only [Act.put, sq_a1, sq_a2, sq_a3, i64_w, i32_w]; rfl)
             refine pure_ (i := 17) (N := some 69) (v := ?_) (a' := ?_) mk17 rfl rfl (any_of HT_.out (by kernel_rfl)) (fun _ _ _ h => h) (Or.inl ⟨by rfl, ?_⟩) ?_ ?_; rotate_left; (intro w'; go_simp; with_reducible rfl); rotate_left; (simp only [Act.put, sq_a1, sq_a2, sq_a3, i64_w, i32_w]; rfl)
             refine pure_ (i := 18) (N := some 70) (v := ?_) (a' := ?_) mk18 rfl rfl (any_of HT_.out (by kernel_rfl)) (fun _ _ _ h => h) (Or.inl ⟨by rfl, ?_⟩) ?_ ?_; rotate_left; (intro w'; go_simp; with_reducible rfl); rotate_left; (simp only [Act.put, sq_a1, sq_a2, sq_a3, i64_w, i32_w]; rfl)
             refine take_ (i := 12) (N := some 64) (v := ?_) (a' := ?_) mk19 rfl rfl (take_ofW HT_.out HW_.out (by kernel_rfl)) (fun _ _ _ h => h) (Or.inl ⟨by rfl, ?_⟩) hHeld ?_ ?_
             rotate_left
             ·rintro w' ⟨s0, s1, s2, s3, s4, s5, s6, s7, s8, s9, s10, s11, s12, s13, s14, s15, s16, s17, s18, s19, s20, s21, s22, s23, s24, s25, s26, s27⟩
              go_simp
              with_reducible rfl
             rotate_left
             ·simp only [Act.put, sq_a1, sq_a2, sq_a3, i64_w, i32_w]
              rfl
             refine one_ (i := 19) (N := some 71) mk20 rfl rfl (one_of HT_.out (by kernel_rfl)) (by decide) (fun K hK => ?_)
             refine goes_ Tryd.func13 (by kernel_rfl) rfl #[.int .i64 (wrap64 ((wrap64 ((Int.tmod a0 32) * 2)) + 1)), .int .u8 ((wrap64 (Int.tdiv a0 32)) % 256)] (by rfl) rfl rfl (by (try simp only [List.map_toArray, List.map_cons, List.map_nil]); first | done | rfl | (simp only [List.length_drop, List.length_take]; rfl)) ?_
             with_reducible refine (shuttleref07_Step.calls k2 (wrap64 ((wrap64 ((Int.tmod a0 32) * 2)) + 1)) ((wrap64 (Int.tdiv a0 32)) % 256) t242 t243 t244 t245 t246 t247 t248 _ A41.out).mono ?_
             rintro e w47 ⟨rfl, hb⟩
             refine ⟨_, rfl, ?_⟩
             have n0_ := sq_m (blk_below (g := zc) (o := .cells #[.int .i64 zj, .int .i64 zi, .int .u8 zk, .int .u8 zl, .int .u8 zn, .int .u8 zo, .int .u8 zp, .int .i64 zq, .int .i64 zm, .int .u8 zr, .int .u8 zs, .int .u8 zt, .int .u8 zu, .int .u8 zv] 25 (0, 0)) (by (with_reducible repeat (first | refine blk_drewN ?_ _ | refine blk_drew ?_ | refine blk_alloc ?_ _)); exact za.out) hb)
             have n1_ := sq_m (blk_below (g := zf) (o := .cells #[.int .i64 zx, .int .i64 zw, .int .u8 zz, .int .u8 zaa, .int .u8 zab, .int .u8 zac, .int .u8 zad, .int .i64 zae, .int .i64 zy, .int .u8 zaf, .int .u8 zag, .int .u8 zah, .int .u8 zai, .int .u8 zaj] 25 (0, 0)) (by (with_reducible repeat (first | refine blk_drewN ?_ _ | refine blk_drew ?_ | refine blk_alloc ?_ _)); exact zb.out) hb)
             have n2_ := sq_m (below_step (by with_reducible repeat (first | exact HB.out | apply sq_b | apply sq_n | apply sq_d | refine below_set ?_ zak.out | refine below_set ?_ zal.out)) hb)
             clear za
             clear zb
             clear HB
             have za := n0_
             have zb := n1_
             have HB := n2_
             clear n0_ n1_ n2_
             (try clear hb)
             (try clear hb2)
             (try clear hk)
             (try clear hi)
             refine hK.out _ _ ⟨(blk_cell za.out 0).trans rfl, (blk_cell za.out 1).trans rfl, (blk_cell za.out 2).trans rfl, (blk_cell za.out 3).trans rfl, (blk_cell za.out 4).trans rfl, (blk_cell za.out 5).trans rfl, (blk_cell za.out 6).trans rfl, (blk_cell za.out 7).trans rfl, (blk_cell za.out 8).trans rfl, (blk_cell za.out 9).trans rfl, (blk_cell za.out 10).trans rfl, (blk_cell za.out 11).trans rfl, (blk_cell za.out 12).trans rfl, (blk_cell za.out 13).trans rfl, (blk_cell zb.out 0).trans rfl, (blk_cell zb.out 1).trans rfl, (blk_cell zb.out 2).trans rfl, (blk_cell zb.out 3).trans rfl, (blk_cell zb.out 4).trans rfl, (blk_cell zb.out 5).trans rfl, (blk_cell zb.out 6).trans rfl, (blk_cell zb.out 7).trans rfl, (blk_cell zb.out 8).trans rfl, (blk_cell zb.out 9).trans rfl, (blk_cell zb.out 10).trans rfl, (blk_cell zb.out 11).trans rfl, (blk_cell zb.out 12).trans rfl, (blk_cell zb.out 13).trans rfl⟩ (fun hHeld => ?_)
             clear hK K
             refine norm_ (a' := ?_) ?_ ?_
             rotate_left
             ·show Act.put _ (some 71) _ = _
              simp only [Act.put, sq_a1, sq_a2, sq_a3, i64_w, i32_w]
              rfl
             refine one_ (i := 20) (N := some 72) mk21 rfl rfl (one_of HT_.out (by kernel_rfl)) (by decide) (fun K hK => ?_)
             refine goes_ Tryd.func12 (by kernel_rfl) rfl #[.agg #[.int .i64 zae, .int .i64 zy, .int .u8 zaf, .int .u8 zag, .int .u8 zah, .int .u8 zai, .int .u8 zaj], .agg #[.int .i64 t242, .int .i64 t243, .int .u8 t244, .int .u8 t245, .int .u8 t246, .int .u8 t247, .int .u8 t248]] (by rfl) rfl rfl (by (try simp only [List.map_toArray, List.map_cons, List.map_nil]); first | done | rfl | (simp only [List.length_drop, List.length_take]; rfl)) ?_
             with_reducible refine (shuttlelaw07_same.calls zae zy zaf zag zah zai zaj t242 t243 t244 t245 t246 t247 t248 true _ A42.out).mono ?_
             rintro e w48 ⟨rfl, hb⟩
             refine ⟨_, rfl, ?_⟩
             have n0_ := sq_m (blk_below (g := zc) (o := .cells #[.int .i64 zj, .int .i64 zi, .int .u8 zk, .int .u8 zl, .int .u8 zn, .int .u8 zo, .int .u8 zp, .int .i64 zq, .int .i64 zm, .int .u8 zr, .int .u8 zs, .int .u8 zt, .int .u8 zu, .int .u8 zv] 25 (0, 0)) (by (with_reducible repeat (first | refine blk_drewN ?_ _ | refine blk_drew ?_ | refine blk_alloc ?_ _)); exact za.out) hb)
             have n1_ := sq_m (blk_below (g := zf) (o := .cells #[.int .i64 zx, .int .i64 zw, .int .u8 zz, .int .u8 zaa, .int .u8 zab, .int .u8 zac, .int .u8 zad, .int .i64 zae, .int .i64 zy, .int .u8 zaf, .int .u8 zag, .int .u8 zah, .int .u8 zai, .int .u8 zaj] 25 (0, 0)) (by (with_reducible repeat (first | refine blk_drewN ?_ _ | refine blk_drew ?_ | refine blk_alloc ?_ _)); exact zb.out) hb)
             have n2_ := sq_m (below_step (by with_reducible repeat (first | exact HB.out | apply sq_b | apply sq_n | apply sq_d | refine below_set ?_ zak.out | refine below_set ?_ zal.out)) hb)
             clear za
             clear zb
             clear HB
             have za := n0_
             have zb := n1_
             have HB := n2_
             clear n0_ n1_ n2_
             (try clear hb)
             (try clear hb2)
             (try clear hk)
             (try clear hi)
             refine hK.out _ _ ⟨(blk_cell za.out 0).trans rfl, (blk_cell za.out 1).trans rfl, (blk_cell za.out 2).trans rfl, (blk_cell za.out 3).trans rfl, (blk_cell za.out 4).trans rfl, (blk_cell za.out 5).trans rfl, (blk_cell za.out 6).trans rfl, (blk_cell za.out 7).trans rfl, (blk_cell za.out 8).trans rfl, (blk_cell za.out 9).trans rfl, (blk_cell za.out 10).trans rfl, (blk_cell za.out 11).trans rfl, (blk_cell za.out 12).trans rfl, (blk_cell za.out 13).trans rfl, (blk_cell zb.out 0).trans rfl, (blk_cell zb.out 1).trans rfl, (blk_cell zb.out 2).trans rfl, (blk_cell zb.out 3).trans rfl, (blk_cell zb.out 4).trans rfl, (blk_cell zb.out 5).trans rfl, (blk_cell zb.out 6).trans rfl, (blk_cell zb.out 7).trans rfl, (blk_cell zb.out 8).trans rfl, (blk_cell zb.out 9).trans rfl, (blk_cell zb.out 10).trans rfl, (blk_cell zb.out 11).trans rfl, (blk_cell zb.out 12).trans rfl, (blk_cell zb.out 13).trans rfl⟩ (fun hHeld => ?_)
             clear hK K
             refine norm_ (a' := ?_) ?_ ?_
             rotate_left
             ·show Act.put _ (some 72) _ = _
              simp only [Act.put, sq_a1, sq_a2, sq_a3, i64_w, i32_w]
              rfl
             refine pure_ (i := 21) (N := some 73) (v := ?_) (a' := ?_) mk22 rfl rfl (any_of HT_.out (by kernel_rfl)) (fun _ _ _ h => h) (Or.inl ⟨by rfl, ?_⟩) ?_ ?_; rotate_left; (intro w'; go_simp; with_reducible rfl); rotate_left; (simp only [Act.put, sq_a1, sq_a2, sq_a3, i64_w, i32_w]; rfl)
             refine pure_ (i := 22) (N := some 74) (v := ?_) (a' := ?_) mk23 rfl rfl (any_of HT_.out (by kernel_rfl)) (fun _ _ _ h => h) (Or.inl ⟨by rfl, ?_⟩) ?_ ?_; rotate_left; (intro w'; go_simp; with_reducible rfl); rotate_left; (simp only [Act.put, sq_a1, sq_a2, sq_a3, i64_w, i32_w]; rfl)
             refine pure_ (i := 23) (N := some 75) (v := ?_) (a' := ?_) mk24 rfl rfl (any_of HT_.out (by kernel_rfl)) (fun _ _ _ h => h) (Or.inl ⟨by rfl, ?_⟩) ?_ ?_; rotate_left; (intro w'; go_simp; with_reducible rfl); rotate_left; (simp only [Act.put, sq_a1, sq_a2, sq_a3, i64_w, i32_w]; rfl)
             refine pure_ (i := 24) (N := some 76) (v := ?_) (a' := ?_) mk25 rfl rfl (any_of HT_.out (by kernel_rfl)) (fun _ _ _ h => h) (Or.inl ⟨by rfl, ?_⟩) ?_ ?_; rotate_left; (intro w'; go_simp; with_reducible rfl); rotate_left; (simp only [Act.put, sq_a1, sq_a2, sq_a3, i64_w, i32_w]; rfl)
             refine pure_ (i := 25) (N := some 77) (v := ?_) (a' := ?_) mk26 rfl rfl (any_of HT_.out (by kernel_rfl)) (fun _ _ _ h => h) (Or.inl ⟨by rfl, ?_⟩) ?_ ?_; rotate_left; (intro w'; go_simp; with_reducible rfl); rotate_left; (simp only [Act.put, sq_a1, sq_a2, sq_a3, i64_w, i32_w]; rfl)
             refine pure_ (i := 26) (N := some 78) (v := ?_) (a' := ?_) mk27 rfl rfl (any_of HT_.out (by kernel_rfl)) (fun _ _ _ h => h) (Or.inl ⟨by rfl, ?_⟩) ?_ ?_; rotate_left; (intro w'; go_simp; with_reducible rfl); rotate_left; (simp only [Act.put, sq_a1, sq_a2, sq_a3, i64_w, i32_w]; rfl)
             refine pure_ (i := 28) (N := some 80) (v := ?_) (a' := ?_) mk28 rfl rfl (any_of HT_.out (by kernel_rfl)) (fun _ _ _ h => h) (Or.inl ⟨by rfl, ?_⟩) ?_ ?_; rotate_left; (intro w'; go_simp; with_reducible rfl); rotate_left; (simp only [Act.put, sq_a1, sq_a2, sq_a3, i64_w, i32_w]; rfl)
             refine take_ (i := 27) (N := some 79) (v := ?_) (a' := ?_) mk29 rfl rfl (take_ofW HT_.out HW_.out (by kernel_rfl)) (fun _ _ _ h => h) (Or.inl ⟨by rfl, ?_⟩) hHeld ?_ ?_
             rotate_left
             ·rintro w' ⟨s0, s1, s2, s3, s4, s5, s6, s7, s8, s9, s10, s11, s12, s13, s14, s15, s16, s17, s18, s19, s20, s21, s22, s23, s24, s25, s26, s27⟩
              go_simp
              with_reducible rfl
             rotate_left
             ·simp only [Act.put, sq_a1, sq_a2, sq_a3, i64_w, i32_w]
              rfl
             refine pure_ (i := 29) (N := some 81) (v := ?_) (a' := ?_) mk30 rfl rfl (any_of HT_.out (by kernel_rfl)) (fun _ _ _ h => h) (Or.inl ⟨by rfl, ?_⟩) ?_ ?_; rotate_left; (intro w'; go_simp; with_reducible rfl); rotate_left; (simp only [Act.put, sq_a1, sq_a2, sq_a3, i64_w, i32_w]; rfl)
             refine pure_ (i := 30) (N := some 82) (v := ?_) (a' := ?_) mk31 rfl rfl (any_of HT_.out (by kernel_rfl)) (fun _ _ _ h => h) (Or.inl ⟨by rfl, ?_⟩) ?_ ?_; rotate_left; (intro w'; go_simp; with_reducible rfl); rotate_left; (simp only [Act.put, sq_a1, sq_a2, sq_a3, i64_w, i32_w]; rfl)
             refine done_ (done_of HT_.out (by kernel_rfl)) ?_
             try go_wp2
             go_meet
             case rel => exact ⟨_, ((zy != a0)), (by first | rfl | (simp; done) | (simp [*]; done)), H', ⟨by have := HJ5.out; have := HK2.out; first | omega | exact Nat.le_refl _⟩, ⟨by (with_reducible repeat (first | refine blk_drewN ?_ _ | refine blk_drew ?_ | refine blk_alloc ?_ _)); exact za.out⟩, ⟨by (with_reducible repeat (first | refine blk_drewN ?_ _ | refine blk_drew ?_ | refine blk_alloc ?_ _)); exact zb.out⟩, ⟨by with_reducible repeat (first | exact HB.out | apply sq_b | apply sq_n | apply sq_d | refine below_set ?_ zak.out | refine below_set ?_ zal.out)⟩⟩
            ·replace c43 := Bool.eq_false_iff.mpr c43
             subst c43
             have H1 : (none) = some r := by rw [if_neg (show ¬ (false = true) by decide)] at H; exact H
             clear H
             have H := H1
             clear H1
             exact absurd H (by simp)
           ·replace c40 := Bool.eq_false_iff.mpr c40
            subst c40
            have H1 : (none) = some r := by rw [if_neg (show ¬ (false = true) by decide)] at H; exact H
            clear H
            have H := H1
            clear H1
            exact absurd H (by simp)
          ·rw [if_neg c37] at H
           clear c37
           exact absurd H (by simp)
        case rest =>
         clear HC24
         try clear c1
         try clear c2
         try clear p2
         try clear c3
         try clear c4
         try clear p6
         try clear c12
         try clear c13
         try clear c25
         try clear c28
         try clear c31
         try clear c37
         try clear c40
         try clear c43
         obtain ⟨kq, x82_23, rfl, HA, HJ23, za, zb, HB⟩ := hcut
         cases kq with
         | zero => exact absurd HA.out (by simp [shuttlelaw07_TrellisEdges.j3])
         | succ kj23 =>
          have H := HA.out
          clear HA
          simp only [shuttlelaw07_TrellisEdges.j3] at H
          by_cases c49 : x82_23 = true
          ·subst c49
           have H1 : (none) = some r := by rw [if_pos rfl] at H; exact H
           clear H
           have H := H1
           clear H1
           exact absurd H (by simp)
          ·replace c49 := Bool.eq_false_iff.mpr c49
           subst c49
           have H1 : (if x8_2 = 0 then ((trellis_Into.f zi).bind fun bt282 => (if bt282.2.2.2.2.2.2.2.2.2.2.2.2.2.2 = 0 then (if (!(bt282.1 == zj) || (!(bt282.2.1 == zi) || (!(bt282.2.2.1 == zk) || ((!(bt282.2.2.2.1 == zl) || (!(bt282.2.2.2.2.1 == zn) || (!(bt282.2.2.2.2.2.1 == zo) || (!(bt282.2.2.2.2.2.2.1 == zp))))))))) = true then (if (!(bt282.2.2.2.2.2.2.2.1 == zj) || (!(bt282.2.2.2.2.2.2.2.2.1 == zi) || (!(bt282.2.2.2.2.2.2.2.2.2.1 == zk) || ((!(bt282.2.2.2.2.2.2.2.2.2.2.1 == zl) || (!(bt282.2.2.2.2.2.2.2.2.2.2.2.1 == zn) || (!(bt282.2.2.2.2.2.2.2.2.2.2.2.2.1 == zo) || (!(bt282.2.2.2.2.2.2.2.2.2.2.2.2.2.1 == zp))))))))) = true then (none) else (shuttlelaw07_TrellisEdges.l0 kj23 a0 zas zaz ((wrap64 (Int.tdiv a0 32)) % 256) (0 + 1) zj zi zk zl zn zo zp zq zm zr zs zt zu zv zx zw zz zaa zab zac zad zae zy zaf zag zah zai zaj)) else (shuttlelaw07_TrellisEdges.l0 kj23 a0 zas zaz ((wrap64 (Int.tdiv a0 32)) % 256) (0 + 1) zj zi zk zl zn zo zp zq zm zr zs zt zu zv zx zw zz zaa zab zac zad zae zy zaf zag zah zai zaj)) else (none))) else (if x8_2 = 1 then ((trellis_Into.f zm).bind fun bt266 => (if bt266.2.2.2.2.2.2.2.2.2.2.2.2.2.2 = 0 then (if (!(bt266.1 == zq) || (!(bt266.2.1 == zm) || (!(bt266.2.2.1 == zr) || ((!(bt266.2.2.2.1 == zs) || (!(bt266.2.2.2.2.1 == zt) || (!(bt266.2.2.2.2.2.1 == zu) || (!(bt266.2.2.2.2.2.2.1 == zv))))))))) = true then (if (!(bt266.2.2.2.2.2.2.2.1 == zq) || (!(bt266.2.2.2.2.2.2.2.2.1 == zm) || (!(bt266.2.2.2.2.2.2.2.2.2.1 == zr) || ((!(bt266.2.2.2.2.2.2.2.2.2.2.1 == zs) || (!(bt266.2.2.2.2.2.2.2.2.2.2.2.1 == zt) || (!(bt266.2.2.2.2.2.2.2.2.2.2.2.2.1 == zu) || (!(bt266.2.2.2.2.2.2.2.2.2.2.2.2.2.1 == zv))))))))) = true then (none) else (shuttlelaw07_TrellisEdges.l0 kj23 a0 zas zaz ((wrap64 (Int.tdiv a0 32)) % 256) (1 + 1) zj zi zk zl zn zo zp zq zm zr zs zt zu zv zx zw zz zaa zab zac zad zae zy zaf zag zah zai zaj)) else (shuttlelaw07_TrellisEdges.l0 kj23 a0 zas zaz ((wrap64 (Int.tdiv a0 32)) % 256) (1 + 1) zj zi zk zl zn zo zp zq zm zr zs zt zu zv zx zw zz zaa zab zac zad zae zy zaf zag zah zai zaj)) else (none))) else (none))) = some r := by rw [if_neg (show ¬ (false = true) by decide)] at H; exact H
           clear H
           have H := H1
           clear H1
           by_cases c50 : x8_2 = 0
           ·rw [if_pos c50] at H
            subst c50
            replace H := Option.bind_eq_some_iff.mp H
            obtain ⟨⟨zam, zao, zaq, zat, zav, zax, zba, zbc, zbe, zbg, zbi, zbk, zbm, zbo, t296⟩, A510, H⟩ := H
            replace H : (if t296 = 0 then (if (!(zam == zj) || (!(zao == zi) || (!(zaq == zk) || ((!(zat == zl) || (!(zav == zn) || (!(zax == zo) || (!(zba == zp))))))))) = true then (if (!(zbc == zj) || (!(zbe == zi) || (!(zbg == zk) || ((!(zbi == zl) || (!(zbk == zn) || (!(zbm == zo) || (!(zbo == zp))))))))) = true then (none) else (shuttlelaw07_TrellisEdges.l0 kj23 a0 zas zaz ((wrap64 (Int.tdiv a0 32)) % 256) (0 + 1) zj zi zk zl zn zo zp zq zm zr zs zt zu zv zx zw zz zaa zab zac zad zae zy zaf zag zah zai zaj)) else (shuttlelaw07_TrellisEdges.l0 kj23 a0 zas zaz ((wrap64 (Int.tdiv a0 32)) % 256) (0 + 1) zj zi zk zl zn zo zp zq zm zr zs zt zu zv zx zw zz zaa zab zac zad zae zy zaf zag zah zai zaj)) else (none)) = some r := H
            have A51 := sq_m A510
            clear A510
            by_cases c52 : t296 = 0
            ·rw [if_pos c52] at H
             have c52b0 : (t296 == 0) = true := beq_iff_eq.mpr c52
             have c52b1 : (t296 != 0) = false := bne_eq_false_iff_eq.mpr c52
             clear c52
             by_cases c53 : (!(zam == zj) || (!(zao == zi) || (!(zaq == zk) || ((!(zat == zl) || (!(zav == zn) || (!(zax == zo) || (!(zba == zp))))))))) = true
             ·rw [if_pos c53] at H
              have c53b0 : (!(zam == zj) || (!(zao == zi) || (!(zaq == zk) || ((!(zat == zl) || (!(zav == zn) || (!(zax == zo) || (!(zba == zp))))))))) = true := c53
              clear c53
              by_cases c54 : (!(zbc == zj) || (!(zbe == zi) || (!(zbg == zk) || ((!(zbi == zl) || (!(zbk == zn) || (!(zbm == zo) || (!(zbo == zp))))))))) = true
              ·rw [if_pos c54] at H
               exact absurd H (by simp)
              ·rw [if_neg c54] at H
               have c54b0 : (!(zbc == zj) || (!(zbe == zi) || (!(zbg == zk) || ((!(zbi == zl) || (!(zbk == zn) || (!(zbm == zo) || (!(zbo == zp))))))))) = false := by simpa using c54
               clear c54
               have H' := sq_m H
               clear H
               have hnb55 := NB216_232.out
               have hnc55 := NB232_216.out
               have hcz56_0 : wc.cell? ⟨zc, 0, none⟩ = some (.int .i64 zj) := (blk_cell za.out 0).trans rfl
               have hcz56_1 : wc.cell? ⟨zc, 1, none⟩ = some (.int .i64 zi) := (blk_cell za.out 1).trans rfl
               have hcz56_2 : wc.cell? ⟨zc, 2, none⟩ = some (.int .u8 zk) := (blk_cell za.out 2).trans rfl
               have hcz56_3 : wc.cell? ⟨zc, 3, none⟩ = some (.int .u8 zl) := (blk_cell za.out 3).trans rfl
               have hcz56_4 : wc.cell? ⟨zc, 4, none⟩ = some (.int .u8 zn) := (blk_cell za.out 4).trans rfl
               have hcz56_5 : wc.cell? ⟨zc, 5, none⟩ = some (.int .u8 zo) := (blk_cell za.out 5).trans rfl
               have hcz56_6 : wc.cell? ⟨zc, 6, none⟩ = some (.int .u8 zp) := (blk_cell za.out 6).trans rfl
               have hcz56_7 : wc.cell? ⟨zc, 7, none⟩ = some (.int .i64 zq) := (blk_cell za.out 7).trans rfl
               have hcz56_8 : wc.cell? ⟨zc, 8, none⟩ = some (.int .i64 zm) := (blk_cell za.out 8).trans rfl
               have hcz56_9 : wc.cell? ⟨zc, 9, none⟩ = some (.int .u8 zr) := (blk_cell za.out 9).trans rfl
               have hcz56_10 : wc.cell? ⟨zc, 10, none⟩ = some (.int .u8 zs) := (blk_cell za.out 10).trans rfl
               have hcz56_11 : wc.cell? ⟨zc, 11, none⟩ = some (.int .u8 zt) := (blk_cell za.out 11).trans rfl
               have hcz56_12 : wc.cell? ⟨zc, 12, none⟩ = some (.int .u8 zu) := (blk_cell za.out 12).trans rfl
               have hcz56_13 : wc.cell? ⟨zc, 13, none⟩ = some (.int .u8 zv) := (blk_cell za.out 13).trans rfl
               have hfz56_0 := blk_frozen za.out 0
               have hfz56_1 := blk_frozen za.out 1
               have hfz56_2 := blk_frozen za.out 2
               have hfz56_3 := blk_frozen za.out 3
               have hfz56_4 := blk_frozen za.out 4
               have hfz56_5 := blk_frozen za.out 5
               have hfz56_6 := blk_frozen za.out 6
               have hfz56_7 := blk_frozen za.out 7
               have hfz56_8 := blk_frozen za.out 8
               have hfz56_9 := blk_frozen za.out 9
               have hfz56_10 := blk_frozen za.out 10
               have hfz56_11 := blk_frozen za.out 11
               have hfz56_12 := blk_frozen za.out 12
               have hfz56_13 := blk_frozen za.out 13
               try go_wp2_with (first | ((with_reducible refine gate_callee (f := 10) rfl ?_); refine goesL_ (some 88) rfl rfl Tryd.func10 (by kernel_rfl) rfl #[.int .i64 zi] rfl (by (try simp only [List.map_toArray, List.map_cons, List.map_nil]); first | done | rfl | (simp only [List.length_drop, List.length_take]; rfl)) ?_; (with_reducible refine (trellis_Into.calls zi zam zao zaq zat zav zax zba zbc zbe zbg zbi zbk zbm zbo t296 _ A51.out).mono ?_); rintro e w57 ⟨rfl, hb⟩; refine ⟨_, rfl, ?_⟩; have n0_ := sq_m (blk_below (g := zc) (o := .cells #[.int .i64 zj, .int .i64 zi, .int .u8 zk, .int .u8 zl, .int .u8 zn, .int .u8 zo, .int .u8 zp, .int .i64 zq, .int .i64 zm, .int .u8 zr, .int .u8 zs, .int .u8 zt, .int .u8 zu, .int .u8 zv] 25 (0, 0)) (by (with_reducible repeat (first | refine blk_drewN ?_ _ | refine blk_drew ?_ | refine blk_alloc ?_ _)); exact za.out) hb); have n1_ := sq_m (blk_below (g := zf) (o := .cells #[.int .i64 zx, .int .i64 zw, .int .u8 zz, .int .u8 zaa, .int .u8 zab, .int .u8 zac, .int .u8 zad, .int .i64 zae, .int .i64 zy, .int .u8 zaf, .int .u8 zag, .int .u8 zah, .int .u8 zai, .int .u8 zaj] 25 (0, 0)) (by (with_reducible repeat (first | refine blk_drewN ?_ _ | refine blk_drew ?_ | refine blk_alloc ?_ _)); exact zb.out) hb); have n2_ := sq_m (below_step (by with_reducible repeat (first | exact HB.out | apply sq_b | apply sq_n | apply sq_d | refine below_set ?_ zak.out | refine below_set ?_ zal.out)) hb); clear za; clear zb; clear HB; have za := n0_; have zb := n1_; have HB := n2_; clear n0_ n1_ n2_; (try clear hb); (try clear hb2); (try clear hk); (try clear hi)) | ((with_reducible refine gate_dst (N := 9) rfl ?_); refine box_event ?hg (N := 9) ?hd (cs := #[.int .i64 0, .int .i64 0, .int .u8 0, .int .u8 0, .int .u8 0, .int .u8 0, .int .u8 0, .int .i64 0, .int .i64 0, .int .u8 0, .int .u8 0, .int .u8 0, .int .u8 0, .int .u8 0]) (t := 25) ?hr ?_; (case hd => rfl); (case hg => rfl); (case hr => first | (go_simp; done) | (go_simp; rfl)); intro zd hg w58 hbox hb; have n0_ := sq_m (blk_below (g := zc) (o := .cells #[.int .i64 zj, .int .i64 zi, .int .u8 zk, .int .u8 zl, .int .u8 zn, .int .u8 zo, .int .u8 zp, .int .i64 zq, .int .i64 zm, .int .u8 zr, .int .u8 zs, .int .u8 zt, .int .u8 zu, .int .u8 zv] 25 (0, 0)) (by (with_reducible repeat (first | refine blk_drewN ?_ _ | refine blk_drew ?_ | refine blk_alloc ?_ _)); exact za.out) hb); have n1_ := sq_m (blk_below (g := zf) (o := .cells #[.int .i64 zx, .int .i64 zw, .int .u8 zz, .int .u8 zaa, .int .u8 zab, .int .u8 zac, .int .u8 zad, .int .i64 zae, .int .i64 zy, .int .u8 zaf, .int .u8 zag, .int .u8 zah, .int .u8 zai, .int .u8 zaj] 25 (0, 0)) (by (with_reducible repeat (first | refine blk_drewN ?_ _ | refine blk_drew ?_ | refine blk_alloc ?_ _)); exact zb.out) hb); have n2_ := sq_m (below_step (by with_reducible repeat (first | exact HB.out | apply sq_b | apply sq_n | apply sq_d | refine below_set ?_ zak.out | refine below_set ?_ zal.out)) hb); have n3_ := sq_m (hbox); have n4_ := sq_m ((by rw [hg]; exact (below_size (by with_reducible repeat (first | exact HB.out | apply sq_b | apply sq_n | apply sq_d | refine below_set ?_ zak.out | refine below_set ?_ zal.out))) : w.heap.size ≤ zd)); have n5_ := sq_m ((by rw [hg]; exact (below_size (by with_reducible repeat (first | exact HB.out | apply sq_b | apply sq_n | apply sq_d | refine below_set ?_ zak.out | refine below_set ?_ zal.out))) : w.heap.size ≤ zd)); have n6_ := sq_m ((by rw [hg]; exact Nat.ne_of_lt (blk_lt (g := zc) (o := .cells #[.int .i64 zj, .int .i64 zi, .int .u8 zk, .int .u8 zl, .int .u8 zn, .int .u8 zo, .int .u8 zp, .int .i64 zq, .int .i64 zm, .int .u8 zr, .int .u8 zs, .int .u8 zt, .int .u8 zu, .int .u8 zv] 25 (0, 0)) (by (with_reducible repeat (first | refine blk_drewN ?_ _ | refine blk_drew ?_ | refine blk_alloc ?_ _)); exact za.out)) : zc ≠ zd)); have n7_ := sq_m ((by rw [hg]; exact Nat.ne_of_gt (blk_lt (g := zc) (o := .cells #[.int .i64 zj, .int .i64 zi, .int .u8 zk, .int .u8 zl, .int .u8 zn, .int .u8 zo, .int .u8 zp, .int .i64 zq, .int .i64 zm, .int .u8 zr, .int .u8 zs, .int .u8 zt, .int .u8 zu, .int .u8 zv] 25 (0, 0)) (by (with_reducible repeat (first | refine blk_drewN ?_ _ | refine blk_drew ?_ | refine blk_alloc ?_ _)); exact za.out)) : zd ≠ zc)); have n8_ := sq_m ((by rw [hg]; exact Nat.ne_of_lt (blk_lt (g := zf) (o := .cells #[.int .i64 zx, .int .i64 zw, .int .u8 zz, .int .u8 zaa, .int .u8 zab, .int .u8 zac, .int .u8 zad, .int .i64 zae, .int .i64 zy, .int .u8 zaf, .int .u8 zag, .int .u8 zah, .int .u8 zai, .int .u8 zaj] 25 (0, 0)) (by (with_reducible repeat (first | refine blk_drewN ?_ _ | refine blk_drew ?_ | refine blk_alloc ?_ _)); exact zb.out)) : zf ≠ zd)); have n9_ := sq_m ((by rw [hg]; exact Nat.ne_of_gt (blk_lt (g := zf) (o := .cells #[.int .i64 zx, .int .i64 zw, .int .u8 zz, .int .u8 zaa, .int .u8 zab, .int .u8 zac, .int .u8 zad, .int .i64 zae, .int .i64 zy, .int .u8 zaf, .int .u8 zag, .int .u8 zah, .int .u8 zai, .int .u8 zaj] 25 (0, 0)) (by (with_reducible repeat (first | refine blk_drewN ?_ _ | refine blk_drew ?_ | refine blk_alloc ?_ _)); exact zb.out)) : zd ≠ zf)); clear za; clear zb; clear HB; have za := n0_; have zb := n1_; have HB := n2_; have zg := n3_; have GW297 := n4_; have GE297 := n5_; have NB216_297 := n6_; have NB297_216 := n7_; have NB232_297 := n8_; have NB297_232 := n9_; clear n0_ n1_ n2_ n3_ n4_ n5_ n6_ n7_ n8_ n9_; clear hb hbox hg; have hnb59 := NB297_216.out; have hnc59 := NB216_297.out; have hnb60 := NB297_232.out; have hnc60 := NB232_297.out; have hcz61_0 : w58.cell? ⟨zd, 0, none⟩ = some (.int .i64 0) := (blk_cell zg.out 0).trans rfl; have hcz61_1 : w58.cell? ⟨zd, 1, none⟩ = some (.int .i64 0) := (blk_cell zg.out 1).trans rfl; have hcz61_2 : w58.cell? ⟨zd, 2, none⟩ = some (.int .u8 0) := (blk_cell zg.out 2).trans rfl; have hcz61_3 : w58.cell? ⟨zd, 3, none⟩ = some (.int .u8 0) := (blk_cell zg.out 3).trans rfl; have hcz61_4 : w58.cell? ⟨zd, 4, none⟩ = some (.int .u8 0) := (blk_cell zg.out 4).trans rfl; have hcz61_5 : w58.cell? ⟨zd, 5, none⟩ = some (.int .u8 0) := (blk_cell zg.out 5).trans rfl; have hcz61_6 : w58.cell? ⟨zd, 6, none⟩ = some (.int .u8 0) := (blk_cell zg.out 6).trans rfl; have hcz61_7 : w58.cell? ⟨zd, 7, none⟩ = some (.int .i64 0) := (blk_cell zg.out 7).trans rfl; have hcz61_8 : w58.cell? ⟨zd, 8, none⟩ = some (.int .i64 0) := (blk_cell zg.out 8).trans rfl; have hcz61_9 : w58.cell? ⟨zd, 9, none⟩ = some (.int .u8 0) := (blk_cell zg.out 9).trans rfl; have hcz61_10 : w58.cell? ⟨zd, 10, none⟩ = some (.int .u8 0) := (blk_cell zg.out 10).trans rfl; have hcz61_11 : w58.cell? ⟨zd, 11, none⟩ = some (.int .u8 0) := (blk_cell zg.out 11).trans rfl; have hcz61_12 : w58.cell? ⟨zd, 12, none⟩ = some (.int .u8 0) := (blk_cell zg.out 12).trans rfl; have hcz61_13 : w58.cell? ⟨zd, 13, none⟩ = some (.int .u8 0) := (blk_cell zg.out 13).trans rfl; have hfz61_0 := blk_frozen zg.out 0; have hfz61_1 := blk_frozen zg.out 1; have hfz61_2 := blk_frozen zg.out 2; have hfz61_3 := blk_frozen zg.out 3; have hfz61_4 := blk_frozen zg.out 4; have hfz61_5 := blk_frozen zg.out 5; have hfz61_6 := blk_frozen zg.out 6; have hfz61_7 := blk_frozen zg.out 7; have hfz61_8 := blk_frozen zg.out 8; have hfz61_9 := blk_frozen zg.out 9; have hfz61_10 := blk_frozen zg.out 10; have hfz61_11 := blk_frozen zg.out 11; have hfz61_12 := blk_frozen zg.out 12; have hfz61_13 := blk_frozen zg.out 13))
               have n0_ : Aside0 (((((((((((((((w58.setCell ⟨zd, 0, none⟩ (.int .i64 zam)).setCell ⟨zd, 1, none⟩ (.int .i64 zao)).setCell ⟨zd, 2, none⟩ (.int .u8 zaq)).setCell ⟨zd, 3, none⟩ (.int .u8 zat)).setCell ⟨zd, 4, none⟩ (.int .u8 zav)).setCell ⟨zd, 5, none⟩ (.int .u8 zax)).setCell ⟨zd, 6, none⟩ (.int .u8 zba)).setCell ⟨zd, 7, none⟩ (.int .i64 zbc)).setCell ⟨zd, 8, none⟩ (.int .i64 zbe)).setCell ⟨zd, 9, none⟩ (.int .u8 zbg)).setCell ⟨zd, 10, none⟩ (.int .u8 zbi)).setCell ⟨zd, 11, none⟩ (.int .u8 zbk)).setCell ⟨zd, 12, none⟩ (.int .u8 zbm)).setCell ⟨zd, 13, none⟩ (.int .u8 zbo)).heap[zc]? = some (.cells #[.int .i64 zj, .int .i64 zi, .int .u8 zk, .int .u8 zl, .int .u8 zn, .int .u8 zo, .int .u8 zp, .int .i64 zq, .int .i64 zm, .int .u8 zr, .int .u8 zs, .int .u8 zt, .int .u8 zu, .int .u8 zv] 25 (0, 0))) := ⟨by (with_reducible repeat (first | refine blk_drewN ?_ _ | refine blk_drew ?_ | refine blk_alloc ?_ _)); refine blk_far ?_ NB216_297.out _; (with_reducible repeat (first | refine blk_drewN ?_ _ | refine blk_drew ?_ | refine blk_alloc ?_ _)); refine blk_far ?_ NB216_297.out _; (with_reducible repeat (first | refine blk_drewN ?_ _ | refine blk_drew ?_ | refine blk_alloc ?_ _)); refine blk_far ?_ NB216_297.out _; (with_reducible repeat (first | refine blk_drewN ?_ _ | refine blk_drew ?_ | refine blk_alloc ?_ _)); refine blk_far ?_ NB216_297.out _; (with_reducible repeat (first | refine blk_drewN ?_ _ | refine blk_drew ?_ | refine blk_alloc ?_ _)); refine blk_far ?_ NB216_297.out _; (with_reducible repeat (first | refine blk_drewN ?_ _ | refine blk_drew ?_ | refine blk_alloc ?_ _)); refine blk_far ?_ NB216_297.out _; (with_reducible repeat (first | refine blk_drewN ?_ _ | refine blk_drew ?_ | refine blk_alloc ?_ _)); refine blk_far ?_ NB216_297.out _; (with_reducible repeat (first | refine blk_drewN ?_ _ | refine blk_drew ?_ | refine blk_alloc ?_ _)); refine blk_far ?_ NB216_297.out _; (with_reducible repeat (first | refine blk_drewN ?_ _ | refine blk_drew ?_ | refine blk_alloc ?_ _)); refine blk_far ?_ NB216_297.out _; (with_reducible repeat (first | refine blk_drewN ?_ _ | refine blk_drew ?_ | refine blk_alloc ?_ _)); refine blk_far ?_ NB216_297.out _; (with_reducible repeat (first | refine blk_drewN ?_ _ | refine blk_drew ?_ | refine blk_alloc ?_ _)); refine blk_far ?_ NB216_297.out _; (with_reducible repeat (first | refine blk_drewN ?_ _ | refine blk_drew ?_ | refine blk_alloc ?_ _)); refine blk_far ?_ NB216_297.out _; (with_reducible repeat (first | refine blk_drewN ?_ _ | refine blk_drew ?_ | refine blk_alloc ?_ _)); refine blk_far ?_ NB216_297.out _; (with_reducible repeat (first | refine blk_drewN ?_ _ | refine blk_drew ?_ | refine blk_alloc ?_ _)); refine blk_far ?_ NB216_297.out _; (with_reducible repeat (first | refine blk_drewN ?_ _ | refine blk_drew ?_ | refine blk_alloc ?_ _)); exact za.out⟩
               have n1_ : Aside0 (((((((((((((((w58.setCell ⟨zd, 0, none⟩ (.int .i64 zam)).setCell ⟨zd, 1, none⟩ (.int .i64 zao)).setCell ⟨zd, 2, none⟩ (.int .u8 zaq)).setCell ⟨zd, 3, none⟩ (.int .u8 zat)).setCell ⟨zd, 4, none⟩ (.int .u8 zav)).setCell ⟨zd, 5, none⟩ (.int .u8 zax)).setCell ⟨zd, 6, none⟩ (.int .u8 zba)).setCell ⟨zd, 7, none⟩ (.int .i64 zbc)).setCell ⟨zd, 8, none⟩ (.int .i64 zbe)).setCell ⟨zd, 9, none⟩ (.int .u8 zbg)).setCell ⟨zd, 10, none⟩ (.int .u8 zbi)).setCell ⟨zd, 11, none⟩ (.int .u8 zbk)).setCell ⟨zd, 12, none⟩ (.int .u8 zbm)).setCell ⟨zd, 13, none⟩ (.int .u8 zbo)).heap[zf]? = some (.cells #[.int .i64 zx, .int .i64 zw, .int .u8 zz, .int .u8 zaa, .int .u8 zab, .int .u8 zac, .int .u8 zad, .int .i64 zae, .int .i64 zy, .int .u8 zaf, .int .u8 zag, .int .u8 zah, .int .u8 zai, .int .u8 zaj] 25 (0, 0))) := ⟨by (with_reducible repeat (first | refine blk_drewN ?_ _ | refine blk_drew ?_ | refine blk_alloc ?_ _)); refine blk_far ?_ NB232_297.out _; (with_reducible repeat (first | refine blk_drewN ?_ _ | refine blk_drew ?_ | refine blk_alloc ?_ _)); refine blk_far ?_ NB232_297.out _; (with_reducible repeat (first | refine blk_drewN ?_ _ | refine blk_drew ?_ | refine blk_alloc ?_ _)); refine blk_far ?_ NB232_297.out _; (with_reducible repeat (first | refine blk_drewN ?_ _ | refine blk_drew ?_ | refine blk_alloc ?_ _)); refine blk_far ?_ NB232_297.out _; (with_reducible repeat (first | refine blk_drewN ?_ _ | refine blk_drew ?_ | refine blk_alloc ?_ _)); refine blk_far ?_ NB232_297.out _; (with_reducible repeat (first | refine blk_drewN ?_ _ | refine blk_drew ?_ | refine blk_alloc ?_ _)); refine blk_far ?_ NB232_297.out _; (with_reducible repeat (first | refine blk_drewN ?_ _ | refine blk_drew ?_ | refine blk_alloc ?_ _)); refine blk_far ?_ NB232_297.out _; (with_reducible repeat (first | refine blk_drewN ?_ _ | refine blk_drew ?_ | refine blk_alloc ?_ _)); refine blk_far ?_ NB232_297.out _; (with_reducible repeat (first | refine blk_drewN ?_ _ | refine blk_drew ?_ | refine blk_alloc ?_ _)); refine blk_far ?_ NB232_297.out _; (with_reducible repeat (first | refine blk_drewN ?_ _ | refine blk_drew ?_ | refine blk_alloc ?_ _)); refine blk_far ?_ NB232_297.out _; (with_reducible repeat (first | refine blk_drewN ?_ _ | refine blk_drew ?_ | refine blk_alloc ?_ _)); refine blk_far ?_ NB232_297.out _; (with_reducible repeat (first | refine blk_drewN ?_ _ | refine blk_drew ?_ | refine blk_alloc ?_ _)); refine blk_far ?_ NB232_297.out _; (with_reducible repeat (first | refine blk_drewN ?_ _ | refine blk_drew ?_ | refine blk_alloc ?_ _)); refine blk_far ?_ NB232_297.out _; (with_reducible repeat (first | refine blk_drewN ?_ _ | refine blk_drew ?_ | refine blk_alloc ?_ _)); refine blk_far ?_ NB232_297.out _; (with_reducible repeat (first | refine blk_drewN ?_ _ | refine blk_drew ?_ | refine blk_alloc ?_ _)); exact zb.out⟩
               have n2_ : Aside0 (((((((((((((((w58.setCell ⟨zd, 0, none⟩ (.int .i64 zam)).setCell ⟨zd, 1, none⟩ (.int .i64 zao)).setCell ⟨zd, 2, none⟩ (.int .u8 zaq)).setCell ⟨zd, 3, none⟩ (.int .u8 zat)).setCell ⟨zd, 4, none⟩ (.int .u8 zav)).setCell ⟨zd, 5, none⟩ (.int .u8 zax)).setCell ⟨zd, 6, none⟩ (.int .u8 zba)).setCell ⟨zd, 7, none⟩ (.int .i64 zbc)).setCell ⟨zd, 8, none⟩ (.int .i64 zbe)).setCell ⟨zd, 9, none⟩ (.int .u8 zbg)).setCell ⟨zd, 10, none⟩ (.int .u8 zbi)).setCell ⟨zd, 11, none⟩ (.int .u8 zbk)).setCell ⟨zd, 12, none⟩ (.int .u8 zbm)).setCell ⟨zd, 13, none⟩ (.int .u8 zbo)).heap[zd]? = some (.cells #[.int .i64 zam, .int .i64 zao, .int .u8 zaq, .int .u8 zat, .int .u8 zav, .int .u8 zax, .int .u8 zba, .int .i64 zbc, .int .i64 zbe, .int .u8 zbg, .int .u8 zbi, .int .u8 zbk, .int .u8 zbm, .int .u8 zbo] 25 (0, 0))) := ⟨by (with_reducible repeat (first | refine blk_drewN ?_ _ | refine blk_drew ?_ | refine blk_alloc ?_ _)); refine blk_put (cs := #[.int .i64 zam, .int .i64 zao, .int .u8 zaq, .int .u8 zat, .int .u8 zav, .int .u8 zax, .int .u8 zba, .int .i64 zbc, .int .i64 zbe, .int .u8 zbg, .int .u8 zbi, .int .u8 zbk, .int .u8 zbm, .int .u8 0]) ?_ 13 _ rfl; (with_reducible repeat (first | refine blk_drewN ?_ _ | refine blk_drew ?_ | refine blk_alloc ?_ _)); refine blk_put (cs := #[.int .i64 zam, .int .i64 zao, .int .u8 zaq, .int .u8 zat, .int .u8 zav, .int .u8 zax, .int .u8 zba, .int .i64 zbc, .int .i64 zbe, .int .u8 zbg, .int .u8 zbi, .int .u8 zbk, .int .u8 0, .int .u8 0]) ?_ 12 _ rfl; (with_reducible repeat (first | refine blk_drewN ?_ _ | refine blk_drew ?_ | refine blk_alloc ?_ _)); refine blk_put (cs := #[.int .i64 zam, .int .i64 zao, .int .u8 zaq, .int .u8 zat, .int .u8 zav, .int .u8 zax, .int .u8 zba, .int .i64 zbc, .int .i64 zbe, .int .u8 zbg, .int .u8 zbi, .int .u8 0, .int .u8 0, .int .u8 0]) ?_ 11 _ rfl; (with_reducible repeat (first | refine blk_drewN ?_ _ | refine blk_drew ?_ | refine blk_alloc ?_ _)); refine blk_put (cs := #[.int .i64 zam, .int .i64 zao, .int .u8 zaq, .int .u8 zat, .int .u8 zav, .int .u8 zax, .int .u8 zba, .int .i64 zbc, .int .i64 zbe, .int .u8 zbg, .int .u8 0, .int .u8 0, .int .u8 0, .int .u8 0]) ?_ 10 _ rfl; (with_reducible repeat (first | refine blk_drewN ?_ _ | refine blk_drew ?_ | refine blk_alloc ?_ _)); refine blk_put (cs := #[.int .i64 zam, .int .i64 zao, .int .u8 zaq, .int .u8 zat, .int .u8 zav, .int .u8 zax, .int .u8 zba, .int .i64 zbc, .int .i64 zbe, .int .u8 0, .int .u8 0, .int .u8 0, .int .u8 0, .int .u8 0]) ?_ 9 _ rfl; (with_reducible repeat (first | refine blk_drewN ?_ _ | refine blk_drew ?_ | refine blk_alloc ?_ _)); refine blk_put (cs := #[.int .i64 zam, .int .i64 zao, .int .u8 zaq, .int .u8 zat, .int .u8 zav, .int .u8 zax, .int .u8 zba, .int .i64 zbc, .int .i64 0, .int .u8 0, .int .u8 0, .int .u8 0, .int .u8 0, .int .u8 0]) ?_ 8 _ rfl; (with_reducible repeat (first | refine blk_drewN ?_ _ | refine blk_drew ?_ | refine blk_alloc ?_ _)); refine blk_put (cs := #[.int .i64 zam, .int .i64 zao, .int .u8 zaq, .int .u8 zat, .int .u8 zav, .int .u8 zax, .int .u8 zba, .int .i64 0, .int .i64 0, .int .u8 0, .int .u8 0, .int .u8 0, .int .u8 0, .int .u8 0]) ?_ 7 _ rfl; (with_reducible repeat (first | refine blk_drewN ?_ _ | refine blk_drew ?_ | refine blk_alloc ?_ _)); refine blk_put (cs := #[.int .i64 zam, .int .i64 zao, .int .u8 zaq, .int .u8 zat, .int .u8 zav, .int .u8 zax, .int .u8 0, .int .i64 0, .int .i64 0, .int .u8 0, .int .u8 0, .int .u8 0, .int .u8 0, .int .u8 0]) ?_ 6 _ rfl; (with_reducible repeat (first | refine blk_drewN ?_ _ | refine blk_drew ?_ | refine blk_alloc ?_ _)); refine blk_put (cs := #[.int .i64 zam, .int .i64 zao, .int .u8 zaq, .int .u8 zat, .int .u8 zav, .int .u8 0, .int .u8 0, .int .i64 0, .int .i64 0, .int .u8 0, .int .u8 0, .int .u8 0, .int .u8 0, .int .u8 0]) ?_ 5 _ rfl; (with_reducible repeat (first | refine blk_drewN ?_ _ | refine blk_drew ?_ | refine blk_alloc ?_ _)); refine blk_put (cs := #[.int .i64 zam, .int .i64 zao, .int .u8 zaq, .int .u8 zat, .int .u8 0, .int .u8 0, .int .u8 0, .int .i64 0, .int .i64 0, .int .u8 0, .int .u8 0, .int .u8 0, .int .u8 0, .int .u8 0]) ?_ 4 _ rfl; (with_reducible repeat (first | refine blk_drewN ?_ _ | refine blk_drew ?_ | refine blk_alloc ?_ _)); refine blk_put (cs := #[.int .i64 zam, .int .i64 zao, .int .u8 zaq, .int .u8 0, .int .u8 0, .int .u8 0, .int .u8 0, .int .i64 0, .int .i64 0, .int .u8 0, .int .u8 0, .int .u8 0, .int .u8 0, .int .u8 0]) ?_ 3 _ rfl; (with_reducible repeat (first | refine blk_drewN ?_ _ | refine blk_drew ?_ | refine blk_alloc ?_ _)); refine blk_put (cs := #[.int .i64 zam, .int .i64 zao, .int .u8 0, .int .u8 0, .int .u8 0, .int .u8 0, .int .u8 0, .int .i64 0, .int .i64 0, .int .u8 0, .int .u8 0, .int .u8 0, .int .u8 0, .int .u8 0]) ?_ 2 _ rfl; (with_reducible repeat (first | refine blk_drewN ?_ _ | refine blk_drew ?_ | refine blk_alloc ?_ _)); refine blk_put (cs := #[.int .i64 zam, .int .i64 0, .int .u8 0, .int .u8 0, .int .u8 0, .int .u8 0, .int .u8 0, .int .i64 0, .int .i64 0, .int .u8 0, .int .u8 0, .int .u8 0, .int .u8 0, .int .u8 0]) ?_ 1 _ rfl; (with_reducible repeat (first | refine blk_drewN ?_ _ | refine blk_drew ?_ | refine blk_alloc ?_ _)); refine blk_put (cs := #[.int .i64 0, .int .i64 0, .int .u8 0, .int .u8 0, .int .u8 0, .int .u8 0, .int .u8 0, .int .i64 0, .int .i64 0, .int .u8 0, .int .u8 0, .int .u8 0, .int .u8 0, .int .u8 0]) ?_ 0 _ rfl; (with_reducible repeat (first | refine blk_drewN ?_ _ | refine blk_drew ?_ | refine blk_alloc ?_ _)); exact zg.out⟩
               have n3_ : Aside0 (Below w.heap.size w ((((((((((((((w58.setCell ⟨zd, 0, none⟩ (.int .i64 zam)).setCell ⟨zd, 1, none⟩ (.int .i64 zao)).setCell ⟨zd, 2, none⟩ (.int .u8 zaq)).setCell ⟨zd, 3, none⟩ (.int .u8 zat)).setCell ⟨zd, 4, none⟩ (.int .u8 zav)).setCell ⟨zd, 5, none⟩ (.int .u8 zax)).setCell ⟨zd, 6, none⟩ (.int .u8 zba)).setCell ⟨zd, 7, none⟩ (.int .i64 zbc)).setCell ⟨zd, 8, none⟩ (.int .i64 zbe)).setCell ⟨zd, 9, none⟩ (.int .u8 zbg)).setCell ⟨zd, 10, none⟩ (.int .u8 zbi)).setCell ⟨zd, 11, none⟩ (.int .u8 zbk)).setCell ⟨zd, 12, none⟩ (.int .u8 zbm)).setCell ⟨zd, 13, none⟩ (.int .u8 zbo))) := ⟨by with_reducible repeat (first | exact HB.out | apply sq_b | apply sq_n | apply sq_d | refine below_set ?_ zak.out | refine below_set ?_ zal.out | refine below_set ?_ GE297.out)⟩
               (try clear za)
               (try clear zb)
               (try clear zg)
               (try clear HB)
               generalize ((((((((((((((w58.setCell ⟨zd, 0, none⟩ (.int .i64 zam)).setCell ⟨zd, 1, none⟩ (.int .i64 zao)).setCell ⟨zd, 2, none⟩ (.int .u8 zaq)).setCell ⟨zd, 3, none⟩ (.int .u8 zat)).setCell ⟨zd, 4, none⟩ (.int .u8 zav)).setCell ⟨zd, 5, none⟩ (.int .u8 zax)).setCell ⟨zd, 6, none⟩ (.int .u8 zba)).setCell ⟨zd, 7, none⟩ (.int .i64 zbc)).setCell ⟨zd, 8, none⟩ (.int .i64 zbe)).setCell ⟨zd, 9, none⟩ (.int .u8 zbg)).setCell ⟨zd, 10, none⟩ (.int .u8 zbi)).setCell ⟨zd, 11, none⟩ (.int .u8 zbk)).setCell ⟨zd, 12, none⟩ (.int .u8 zbm)).setCell ⟨zd, 13, none⟩ (.int .u8 zbo)) = w62 at n0_ n1_ n2_ n3_ ⊢
               have za := n0_
               have zb := n1_
               have zg := n2_
               have HB := n3_
               clear n0_ n1_ n2_ n3_
               have n0_ := sq_m (blk_drew za.out)
               have n1_ := sq_m (blk_drew zb.out)
               have n2_ := sq_m (blk_drew zg.out)
               have n3_ := sq_m (sq_d HB.out)
               clear za
               clear zb
               clear zg
               clear HB
               have za := n0_
               have zb := n1_
               have zg := n2_
               have HB := n3_
               clear n0_ n1_ n2_ n3_
               refine start_ (n := 18) (S := fun w' => w'.cell? ⟨zd, 0, none⟩ = some (.int .i64 zam) ∧ w'.cell? ⟨zd, 1, none⟩ = some (.int .i64 zao) ∧ w'.cell? ⟨zd, 2, none⟩ = some (.int .u8 zaq) ∧ w'.cell? ⟨zd, 3, none⟩ = some (.int .u8 zat) ∧ w'.cell? ⟨zd, 4, none⟩ = some (.int .u8 zav) ∧ w'.cell? ⟨zd, 5, none⟩ = some (.int .u8 zax) ∧ w'.cell? ⟨zd, 6, none⟩ = some (.int .u8 zba) ∧ w'.cell? ⟨zd, 7, none⟩ = some (.int .i64 zbc) ∧ w'.cell? ⟨zd, 8, none⟩ = some (.int .i64 zbe) ∧ w'.cell? ⟨zd, 9, none⟩ = some (.int .u8 zbg) ∧ w'.cell? ⟨zd, 10, none⟩ = some (.int .u8 zbi) ∧ w'.cell? ⟨zd, 11, none⟩ = some (.int .u8 zbk) ∧ w'.cell? ⟨zd, 12, none⟩ = some (.int .u8 zbm) ∧ w'.cell? ⟨zd, 13, none⟩ = some (.int .u8 zbo) ∧ w'.cell? ⟨zc, 0, none⟩ = some (.int .i64 zj) ∧ w'.cell? ⟨zc, 1, none⟩ = some (.int .i64 zi) ∧ w'.cell? ⟨zc, 2, none⟩ = some (.int .u8 zk) ∧ w'.cell? ⟨zc, 3, none⟩ = some (.int .u8 zl) ∧ w'.cell? ⟨zc, 4, none⟩ = some (.int .u8 zn) ∧ w'.cell? ⟨zc, 5, none⟩ = some (.int .u8 zo) ∧ w'.cell? ⟨zc, 6, none⟩ = some (.int .u8 zp) ∧ w'.cell? ⟨zc, 7, none⟩ = some (.int .i64 zq) ∧ w'.cell? ⟨zc, 8, none⟩ = some (.int .i64 zm) ∧ w'.cell? ⟨zc, 9, none⟩ = some (.int .u8 zr) ∧ w'.cell? ⟨zc, 10, none⟩ = some (.int .u8 zs) ∧ w'.cell? ⟨zc, 11, none⟩ = some (.int .u8 zt) ∧ w'.cell? ⟨zc, 12, none⟩ = some (.int .u8 zu) ∧ w'.cell? ⟨zc, 13, none⟩ = some (.int .u8 zv)) (ds := []) mk32 (by kernel_rfl) rfl rfl ⟨(blk_cell zg.out 0).trans rfl, (blk_cell zg.out 1).trans rfl, (blk_cell zg.out 2).trans rfl, (blk_cell zg.out 3).trans rfl, (blk_cell zg.out 4).trans rfl, (blk_cell zg.out 5).trans rfl, (blk_cell zg.out 6).trans rfl, (blk_cell zg.out 7).trans rfl, (blk_cell zg.out 8).trans rfl, (blk_cell zg.out 9).trans rfl, (blk_cell zg.out 10).trans rfl, (blk_cell zg.out 11).trans rfl, (blk_cell zg.out 12).trans rfl, (blk_cell zg.out 13).trans rfl, (blk_cell za.out 0).trans rfl, (blk_cell za.out 1).trans rfl, (blk_cell za.out 2).trans rfl, (blk_cell za.out 3).trans rfl, (blk_cell za.out 4).trans rfl, (blk_cell za.out 5).trans rfl, (blk_cell za.out 6).trans rfl, (blk_cell za.out 7).trans rfl, (blk_cell za.out 8).trans rfl, (blk_cell za.out 9).trans rfl, (blk_cell za.out 10).trans rfl, (blk_cell za.out 11).trans rfl, (blk_cell za.out 12).trans rfl, (blk_cell za.out 13).trans rfl⟩ (fun hHeld => ?_); refine with_tabW shuttlelaw07_TrellisEdges.tab14 shuttlelaw07_TrellisEdges.bits14 (fun HT_ HW_ => ?_)
               generalize w62.drew = w63 at za zb zg HB hHeld ⊢
               refine pure_ (i := 0) (N := some 91) (v := ?_) (a' := ?_) mk33 rfl rfl (any_of HT_.out (by kernel_rfl)) (fun _ _ _ h => h) (Or.inl ⟨by rfl, ?_⟩) ?_ ?_; rotate_left; (intro w'; go_simp; with_reducible rfl); rotate_left; (simp only [Act.put, sq_a1, sq_a2, sq_a3, i64_w, i32_w]; rfl)
               refine pure_ (i := 1) (N := some 92) (v := ?_) (a' := ?_) mk34 rfl rfl (any_of HT_.out (by kernel_rfl)) (fun _ _ _ h => h) (Or.inl ⟨by rfl, ?_⟩) ?_ ?_; rotate_left; (intro w'; go_simp; with_reducible rfl); rotate_left; (simp only [Act.put, sq_a1, sq_a2, sq_a3, i64_w, i32_w]; rfl)
               refine pure_ (i := 2) (N := some 93) (v := ?_) (a' := ?_) mk35 rfl rfl (any_of HT_.out (by kernel_rfl)) (fun _ _ _ h => h) (Or.inl ⟨by rfl, ?_⟩) ?_ ?_; rotate_left; (intro w'; go_simp; with_reducible rfl); rotate_left; (simp only [Act.put, sq_a1, sq_a2, sq_a3, i64_w, i32_w]; rfl)
               refine pure_ (i := 3) (N := some 94) (v := ?_) (a' := ?_) mk36 rfl rfl (any_of HT_.out (by kernel_rfl)) (fun _ _ _ h => h) (Or.inl ⟨by rfl, ?_⟩) ?_ ?_; rotate_left; (intro w'; go_simp; with_reducible rfl); rotate_left; (simp only [Act.put, sq_a1, sq_a2, sq_a3, i64_w, i32_w]; rfl)
               refine pure_ (i := 5) (N := some 96) (v := ?_) (a' := ?_) mk37 rfl rfl (any_of HT_.out (by kernel_rfl)) (fun _ _ _ h => h) (Or.inl ⟨by rfl, ?_⟩) ?_ ?_; rotate_left; (intro w'; go_simp; with_reducible rfl); rotate_left; (simp only [Act.put, sq_a1, sq_a2, sq_a3, i64_w, i32_w]; rfl)
               refine pure_ (i := 6) (N := some 97) (v := ?_) (a' := ?_) mk38 rfl rfl (any_of HT_.out (by kernel_rfl)) (fun _ _ _ h => h) (Or.inl ⟨by rfl, ?_⟩) ?_ ?_; rotate_left; (intro w'; go_simp; with_reducible rfl); rotate_left; (simp only [Act.put, sq_a1, sq_a2, sq_a3, i64_w, i32_w]; rfl)
               refine take_ (i := 4) (N := some 95) (v := ?_) (a' := ?_) mk39 rfl rfl (take_ofW HT_.out HW_.out (by kernel_rfl)) (fun _ _ _ h => h) (Or.inl ⟨by rfl, ?_⟩) hHeld ?_ ?_
               rotate_left
               ·rintro w' ⟨s0, s1, s2, s3, s4, s5, s6, s7, s8, s9, s10, s11, s12, s13, s14, s15, s16, s17, s18, s19, s20, s21, s22, s23, s24, s25, s26, s27⟩
                go_simp
                with_reducible rfl
               rotate_left
               ·simp only [Act.put, sq_a1, sq_a2, sq_a3, i64_w, i32_w]
                rfl
               refine take_ (i := 7) (N := some 98) (v := ?_) (a' := ?_) mk40 rfl rfl (take_ofW HT_.out HW_.out (by kernel_rfl)) (fun _ _ _ h => h) (Or.inl ⟨by rfl, ?_⟩) hHeld ?_ ?_
               rotate_left
               ·rintro w' ⟨s0, s1, s2, s3, s4, s5, s6, s7, s8, s9, s10, s11, s12, s13, s14, s15, s16, s17, s18, s19, s20, s21, s22, s23, s24, s25, s26, s27⟩
                go_simp
                with_reducible rfl
               rotate_left
               ·simp only [Act.put, sq_a1, sq_a2, sq_a3, i64_w, i32_w]
                rfl
               refine pure_ (i := 8) (N := some 99) (v := ?_) (a' := ?_) mk41 rfl rfl (any_of HT_.out (by kernel_rfl)) (fun _ _ _ h => h) (Or.inl ⟨by rfl, ?_⟩) ?_ ?_; rotate_left; (intro w'; go_simp; with_reducible rfl); rotate_left; (simp only [Act.put, sq_a1, sq_a2, sq_a3, i64_w, i32_w]; rfl)
               refine pure_ (i := 9) (N := some 100) (v := ?_) (a' := ?_) mk42 rfl rfl (any_of HT_.out (by kernel_rfl)) (fun _ _ _ h => h) (Or.inl ⟨by rfl, ?_⟩) ?_ ?_; rotate_left; (intro w'; go_simp; with_reducible rfl); rotate_left; (simp only [Act.put, sq_a1, sq_a2, sq_a3, i64_w, i32_w]; rfl)
               refine pure_ (i := 10) (N := some 101) (v := ?_) (a' := ?_) mk43 rfl rfl (any_of HT_.out (by kernel_rfl)) (fun _ _ _ h => h) (Or.inl ⟨by rfl, ?_⟩) ?_ ?_; rotate_left; (intro w'; go_simp; with_reducible rfl); rotate_left; (simp only [Act.put, sq_a1, sq_a2, sq_a3, i64_w, i32_w]; rfl)
               refine pure_ (i := 12) (N := some 103) (v := ?_) (a' := ?_) mk44 rfl rfl (any_of HT_.out (by kernel_rfl)) (fun _ _ _ h => h) (Or.inl ⟨by rfl, ?_⟩) ?_ ?_; rotate_left; (intro w'; go_simp; with_reducible rfl); rotate_left; (simp only [Act.put, sq_a1, sq_a2, sq_a3, i64_w, i32_w]; rfl)
               refine pure_ (i := 13) (N := some 104) (v := ?_) (a' := ?_) mk45 rfl rfl (any_of HT_.out (by kernel_rfl)) (fun _ _ _ h => h) (Or.inl ⟨by rfl, ?_⟩) ?_ ?_; rotate_left; (intro w'; go_simp; with_reducible rfl); rotate_left; (simp only [Act.put, sq_a1, sq_a2, sq_a3, i64_w, i32_w]; rfl)
               refine take_ (i := 11) (N := some 102) (v := ?_) (a' := ?_) mk46 rfl rfl (take_ofW HT_.out HW_.out (by kernel_rfl)) (fun _ _ _ h => h) (Or.inl ⟨by rfl, ?_⟩) hHeld ?_ ?_
               rotate_left
               ·rintro w' ⟨s0, s1, s2, s3, s4, s5, s6, s7, s8, s9, s10, s11, s12, s13, s14, s15, s16, s17, s18, s19, s20, s21, s22, s23, s24, s25, s26, s27⟩
                go_simp
                with_reducible rfl
               rotate_left
               ·simp only [Act.put, sq_a1, sq_a2, sq_a3, i64_w, i32_w]
                rfl
               refine take_ (i := 14) (N := some 105) (v := ?_) (a' := ?_) mk47 rfl rfl (take_ofW HT_.out HW_.out (by kernel_rfl)) (fun _ _ _ h => h) (Or.inl ⟨by rfl, ?_⟩) hHeld ?_ ?_
               rotate_left
               ·rintro w' ⟨s0, s1, s2, s3, s4, s5, s6, s7, s8, s9, s10, s11, s12, s13, s14, s15, s16, s17, s18, s19, s20, s21, s22, s23, s24, s25, s26, s27⟩
                go_simp
                with_reducible rfl
               rotate_left
               ·simp only [Act.put, sq_a1, sq_a2, sq_a3, i64_w, i32_w]
                rfl
               refine pure_ (i := 15) (N := some 106) (v := ?_) (a' := ?_) mk48 rfl rfl (any_of HT_.out (by kernel_rfl)) (fun _ _ _ h => h) (Or.inl ⟨by rfl, ?_⟩) ?_ ?_; rotate_left; (intro w'; go_simp; with_reducible rfl); rotate_left; (simp only [Act.put, sq_a1, sq_a2, sq_a3, i64_w, i32_w]; rfl)
               refine pure_ (i := 16) (N := some 107) (v := ?_) (a' := ?_) mk49 rfl rfl (any_of HT_.out (by kernel_rfl)) (fun _ _ _ h => h) (Or.inl ⟨by rfl, ?_⟩) ?_ ?_; rotate_left; (intro w'; go_simp; with_reducible rfl); rotate_left; (simp only [Act.put, sq_a1, sq_a2, sq_a3, i64_w, i32_w]; rfl)
               refine pure_ (i := 17) (N := some 108) (v := ?_) (a' := ?_) mk50 rfl rfl (any_of HT_.out (by kernel_rfl)) (fun _ _ _ h => h) (Or.inl ⟨by rfl, ?_⟩) ?_ ?_; rotate_left; (intro w'; go_simp; with_reducible rfl); rotate_left; (simp only [Act.put, sq_a1, sq_a2, sq_a3, i64_w, i32_w]; rfl)
               refine done_ (done_of HT_.out (by kernel_rfl)) ?_
               try go_wp2
               go_roundg kj23
               case measure => have := HJ5.out; have := HK2.out; have := HJ23.out; omega
               case rel => exact ⟨(0 + 1), (by first | rfl | (simp; done) | (simp [*]; done)), H', ⟨by have := HJ5.out; have := HK2.out; have := HJ23.out; omega⟩, ⟨by (with_reducible repeat (first | refine blk_drewN ?_ _ | refine blk_drew ?_ | refine blk_alloc ?_ _)); exact za.out⟩, ⟨by (with_reducible repeat (first | refine blk_drewN ?_ _ | refine blk_drew ?_ | refine blk_alloc ?_ _)); exact zb.out⟩, ⟨by with_reducible repeat (first | exact HB.out | apply sq_b | apply sq_n | apply sq_d | refine below_set ?_ zak.out | refine below_set ?_ zal.out | refine below_set ?_ GE297.out)⟩⟩
             ·rw [if_neg c53] at H
              have c53b0 : (!(zam == zj) || (!(zao == zi) || (!(zaq == zk) || ((!(zat == zl) || (!(zav == zn) || (!(zax == zo) || (!(zba == zp))))))))) = false := by simpa using c53
              clear c53
              have H' := sq_m H
              clear H
              have hnb64 := NB216_232.out
              have hnc64 := NB232_216.out
              have hcz65_0 : wc.cell? ⟨zc, 0, none⟩ = some (.int .i64 zj) := (blk_cell za.out 0).trans rfl
              have hcz65_1 : wc.cell? ⟨zc, 1, none⟩ = some (.int .i64 zi) := (blk_cell za.out 1).trans rfl
              have hcz65_2 : wc.cell? ⟨zc, 2, none⟩ = some (.int .u8 zk) := (blk_cell za.out 2).trans rfl
              have hcz65_3 : wc.cell? ⟨zc, 3, none⟩ = some (.int .u8 zl) := (blk_cell za.out 3).trans rfl
              have hcz65_4 : wc.cell? ⟨zc, 4, none⟩ = some (.int .u8 zn) := (blk_cell za.out 4).trans rfl
              have hcz65_5 : wc.cell? ⟨zc, 5, none⟩ = some (.int .u8 zo) := (blk_cell za.out 5).trans rfl
              have hcz65_6 : wc.cell? ⟨zc, 6, none⟩ = some (.int .u8 zp) := (blk_cell za.out 6).trans rfl
              have hcz65_7 : wc.cell? ⟨zc, 7, none⟩ = some (.int .i64 zq) := (blk_cell za.out 7).trans rfl
              have hcz65_8 : wc.cell? ⟨zc, 8, none⟩ = some (.int .i64 zm) := (blk_cell za.out 8).trans rfl
              have hcz65_9 : wc.cell? ⟨zc, 9, none⟩ = some (.int .u8 zr) := (blk_cell za.out 9).trans rfl
              have hcz65_10 : wc.cell? ⟨zc, 10, none⟩ = some (.int .u8 zs) := (blk_cell za.out 10).trans rfl
              have hcz65_11 : wc.cell? ⟨zc, 11, none⟩ = some (.int .u8 zt) := (blk_cell za.out 11).trans rfl
              have hcz65_12 : wc.cell? ⟨zc, 12, none⟩ = some (.int .u8 zu) := (blk_cell za.out 12).trans rfl
              have hcz65_13 : wc.cell? ⟨zc, 13, none⟩ = some (.int .u8 zv) := (blk_cell za.out 13).trans rfl
              have hfz65_0 := blk_frozen za.out 0
              have hfz65_1 := blk_frozen za.out 1
              have hfz65_2 := blk_frozen za.out 2
              have hfz65_3 := blk_frozen za.out 3
              have hfz65_4 := blk_frozen za.out 4
              have hfz65_5 := blk_frozen za.out 5
              have hfz65_6 := blk_frozen za.out 6
              have hfz65_7 := blk_frozen za.out 7
              have hfz65_8 := blk_frozen za.out 8
              have hfz65_9 := blk_frozen za.out 9
              have hfz65_10 := blk_frozen za.out 10
              have hfz65_11 := blk_frozen za.out 11
              have hfz65_12 := blk_frozen za.out 12
              have hfz65_13 := blk_frozen za.out 13
              try go_wp2_with (first | ((with_reducible refine gate_callee (f := 10) rfl ?_); refine goesL_ (some 88) rfl rfl Tryd.func10 (by kernel_rfl) rfl #[.int .i64 zi] rfl (by (try simp only [List.map_toArray, List.map_cons, List.map_nil]); first | done | rfl | (simp only [List.length_drop, List.length_take]; rfl)) ?_; (with_reducible refine (trellis_Into.calls zi zam zao zaq zat zav zax zba zbc zbe zbg zbi zbk zbm zbo t296 _ A51.out).mono ?_); rintro e w66 ⟨rfl, hb⟩; refine ⟨_, rfl, ?_⟩; have n0_ := sq_m (blk_below (g := zc) (o := .cells #[.int .i64 zj, .int .i64 zi, .int .u8 zk, .int .u8 zl, .int .u8 zn, .int .u8 zo, .int .u8 zp, .int .i64 zq, .int .i64 zm, .int .u8 zr, .int .u8 zs, .int .u8 zt, .int .u8 zu, .int .u8 zv] 25 (0, 0)) (by (with_reducible repeat (first | refine blk_drewN ?_ _ | refine blk_drew ?_ | refine blk_alloc ?_ _)); exact za.out) hb); have n1_ := sq_m (blk_below (g := zf) (o := .cells #[.int .i64 zx, .int .i64 zw, .int .u8 zz, .int .u8 zaa, .int .u8 zab, .int .u8 zac, .int .u8 zad, .int .i64 zae, .int .i64 zy, .int .u8 zaf, .int .u8 zag, .int .u8 zah, .int .u8 zai, .int .u8 zaj] 25 (0, 0)) (by (with_reducible repeat (first | refine blk_drewN ?_ _ | refine blk_drew ?_ | refine blk_alloc ?_ _)); exact zb.out) hb); have n2_ := sq_m (below_step (by with_reducible repeat (first | exact HB.out | apply sq_b | apply sq_n | apply sq_d | refine below_set ?_ zak.out | refine below_set ?_ zal.out)) hb); clear za; clear zb; clear HB; have za := n0_; have zb := n1_; have HB := n2_; clear n0_ n1_ n2_; (try clear hb); (try clear hb2); (try clear hk); (try clear hi)) | ((with_reducible refine gate_dst (N := 9) rfl ?_); refine box_event ?hg (N := 9) ?hd (cs := #[.int .i64 0, .int .i64 0, .int .u8 0, .int .u8 0, .int .u8 0, .int .u8 0, .int .u8 0, .int .i64 0, .int .i64 0, .int .u8 0, .int .u8 0, .int .u8 0, .int .u8 0, .int .u8 0]) (t := 25) ?hr ?_; (case hd => rfl); (case hg => rfl); (case hr => first | (go_simp; done) | (go_simp; rfl)); intro zd hg w67 hbox hb; have n0_ := sq_m (blk_below (g := zc) (o := .cells #[.int .i64 zj, .int .i64 zi, .int .u8 zk, .int .u8 zl, .int .u8 zn, .int .u8 zo, .int .u8 zp, .int .i64 zq, .int .i64 zm, .int .u8 zr, .int .u8 zs, .int .u8 zt, .int .u8 zu, .int .u8 zv] 25 (0, 0)) (by (with_reducible repeat (first | refine blk_drewN ?_ _ | refine blk_drew ?_ | refine blk_alloc ?_ _)); exact za.out) hb); have n1_ := sq_m (blk_below (g := zf) (o := .cells #[.int .i64 zx, .int .i64 zw, .int .u8 zz, .int .u8 zaa, .int .u8 zab, .int .u8 zac, .int .u8 zad, .int .i64 zae, .int .i64 zy, .int .u8 zaf, .int .u8 zag, .int .u8 zah, .int .u8 zai, .int .u8 zaj] 25 (0, 0)) (by (with_reducible repeat (first | refine blk_drewN ?_ _ | refine blk_drew ?_ | refine blk_alloc ?_ _)); exact zb.out) hb); have n2_ := sq_m (below_step (by with_reducible repeat (first | exact HB.out | apply sq_b | apply sq_n | apply sq_d | refine below_set ?_ zak.out | refine below_set ?_ zal.out)) hb); have n3_ := sq_m (hbox); have n4_ := sq_m ((by rw [hg]; exact (below_size (by with_reducible repeat (first | exact HB.out | apply sq_b | apply sq_n | apply sq_d | refine below_set ?_ zak.out | refine below_set ?_ zal.out))) : w.heap.size ≤ zd)); have n5_ := sq_m ((by rw [hg]; exact (below_size (by with_reducible repeat (first | exact HB.out | apply sq_b | apply sq_n | apply sq_d | refine below_set ?_ zak.out | refine below_set ?_ zal.out))) : w.heap.size ≤ zd)); have n6_ := sq_m ((by rw [hg]; exact Nat.ne_of_lt (blk_lt (g := zc) (o := .cells #[.int .i64 zj, .int .i64 zi, .int .u8 zk, .int .u8 zl, .int .u8 zn, .int .u8 zo, .int .u8 zp, .int .i64 zq, .int .i64 zm, .int .u8 zr, .int .u8 zs, .int .u8 zt, .int .u8 zu, .int .u8 zv] 25 (0, 0)) (by (with_reducible repeat (first | refine blk_drewN ?_ _ | refine blk_drew ?_ | refine blk_alloc ?_ _)); exact za.out)) : zc ≠ zd)); have n7_ := sq_m ((by rw [hg]; exact Nat.ne_of_gt (blk_lt (g := zc) (o := .cells #[.int .i64 zj, .int .i64 zi, .int .u8 zk, .int .u8 zl, .int .u8 zn, .int .u8 zo, .int .u8 zp, .int .i64 zq, .int .i64 zm, .int .u8 zr, .int .u8 zs, .int .u8 zt, .int .u8 zu, .int .u8 zv] 25 (0, 0)) (by (with_reducible repeat (first | refine blk_drewN ?_ _ | refine blk_drew ?_ | refine blk_alloc ?_ _)); exact za.out)) : zd ≠ zc)); have n8_ := sq_m ((by rw [hg]; exact Nat.ne_of_lt (blk_lt (g := zf) (o := .cells #[.int .i64 zx, .int .i64 zw, .int .u8 zz, .int .u8 zaa, .int .u8 zab, .int .u8 zac, .int .u8 zad, .int .i64 zae, .int .i64 zy, .int .u8 zaf, .int .u8 zag, .int .u8 zah, .int .u8 zai, .int .u8 zaj] 25 (0, 0)) (by (with_reducible repeat (first | refine blk_drewN ?_ _ | refine blk_drew ?_ | refine blk_alloc ?_ _)); exact zb.out)) : zf ≠ zd)); have n9_ := sq_m ((by rw [hg]; exact Nat.ne_of_gt (blk_lt (g := zf) (o := .cells #[.int .i64 zx, .int .i64 zw, .int .u8 zz, .int .u8 zaa, .int .u8 zab, .int .u8 zac, .int .u8 zad, .int .i64 zae, .int .i64 zy, .int .u8 zaf, .int .u8 zag, .int .u8 zah, .int .u8 zai, .int .u8 zaj] 25 (0, 0)) (by (with_reducible repeat (first | refine blk_drewN ?_ _ | refine blk_drew ?_ | refine blk_alloc ?_ _)); exact zb.out)) : zd ≠ zf)); clear za; clear zb; clear HB; have za := n0_; have zb := n1_; have HB := n2_; have zg := n3_; have GW297 := n4_; have GE297 := n5_; have NB216_297 := n6_; have NB297_216 := n7_; have NB232_297 := n8_; have NB297_232 := n9_; clear n0_ n1_ n2_ n3_ n4_ n5_ n6_ n7_ n8_ n9_; clear hb hbox hg; have hnb68 := NB297_216.out; have hnc68 := NB216_297.out; have hnb69 := NB297_232.out; have hnc69 := NB232_297.out; have hcz70_0 : w67.cell? ⟨zd, 0, none⟩ = some (.int .i64 0) := (blk_cell zg.out 0).trans rfl; have hcz70_1 : w67.cell? ⟨zd, 1, none⟩ = some (.int .i64 0) := (blk_cell zg.out 1).trans rfl; have hcz70_2 : w67.cell? ⟨zd, 2, none⟩ = some (.int .u8 0) := (blk_cell zg.out 2).trans rfl; have hcz70_3 : w67.cell? ⟨zd, 3, none⟩ = some (.int .u8 0) := (blk_cell zg.out 3).trans rfl; have hcz70_4 : w67.cell? ⟨zd, 4, none⟩ = some (.int .u8 0) := (blk_cell zg.out 4).trans rfl; have hcz70_5 : w67.cell? ⟨zd, 5, none⟩ = some (.int .u8 0) := (blk_cell zg.out 5).trans rfl; have hcz70_6 : w67.cell? ⟨zd, 6, none⟩ = some (.int .u8 0) := (blk_cell zg.out 6).trans rfl; have hcz70_7 : w67.cell? ⟨zd, 7, none⟩ = some (.int .i64 0) := (blk_cell zg.out 7).trans rfl; have hcz70_8 : w67.cell? ⟨zd, 8, none⟩ = some (.int .i64 0) := (blk_cell zg.out 8).trans rfl; have hcz70_9 : w67.cell? ⟨zd, 9, none⟩ = some (.int .u8 0) := (blk_cell zg.out 9).trans rfl; have hcz70_10 : w67.cell? ⟨zd, 10, none⟩ = some (.int .u8 0) := (blk_cell zg.out 10).trans rfl; have hcz70_11 : w67.cell? ⟨zd, 11, none⟩ = some (.int .u8 0) := (blk_cell zg.out 11).trans rfl; have hcz70_12 : w67.cell? ⟨zd, 12, none⟩ = some (.int .u8 0) := (blk_cell zg.out 12).trans rfl; have hcz70_13 : w67.cell? ⟨zd, 13, none⟩ = some (.int .u8 0) := (blk_cell zg.out 13).trans rfl; have hfz70_0 := blk_frozen zg.out 0; have hfz70_1 := blk_frozen zg.out 1; have hfz70_2 := blk_frozen zg.out 2; have hfz70_3 := blk_frozen zg.out 3; have hfz70_4 := blk_frozen zg.out 4; have hfz70_5 := blk_frozen zg.out 5; have hfz70_6 := blk_frozen zg.out 6; have hfz70_7 := blk_frozen zg.out 7; have hfz70_8 := blk_frozen zg.out 8; have hfz70_9 := blk_frozen zg.out 9; have hfz70_10 := blk_frozen zg.out 10; have hfz70_11 := blk_frozen zg.out 11; have hfz70_12 := blk_frozen zg.out 12; have hfz70_13 := blk_frozen zg.out 13))
              have n0_ : Aside0 (((((((((((((((w67.setCell ⟨zd, 0, none⟩ (.int .i64 zam)).setCell ⟨zd, 1, none⟩ (.int .i64 zao)).setCell ⟨zd, 2, none⟩ (.int .u8 zaq)).setCell ⟨zd, 3, none⟩ (.int .u8 zat)).setCell ⟨zd, 4, none⟩ (.int .u8 zav)).setCell ⟨zd, 5, none⟩ (.int .u8 zax)).setCell ⟨zd, 6, none⟩ (.int .u8 zba)).setCell ⟨zd, 7, none⟩ (.int .i64 zbc)).setCell ⟨zd, 8, none⟩ (.int .i64 zbe)).setCell ⟨zd, 9, none⟩ (.int .u8 zbg)).setCell ⟨zd, 10, none⟩ (.int .u8 zbi)).setCell ⟨zd, 11, none⟩ (.int .u8 zbk)).setCell ⟨zd, 12, none⟩ (.int .u8 zbm)).setCell ⟨zd, 13, none⟩ (.int .u8 zbo)).heap[zc]? = some (.cells #[.int .i64 zj, .int .i64 zi, .int .u8 zk, .int .u8 zl, .int .u8 zn, .int .u8 zo, .int .u8 zp, .int .i64 zq, .int .i64 zm, .int .u8 zr, .int .u8 zs, .int .u8 zt, .int .u8 zu, .int .u8 zv] 25 (0, 0))) := ⟨by (with_reducible repeat (first | refine blk_drewN ?_ _ | refine blk_drew ?_ | refine blk_alloc ?_ _)); refine blk_far ?_ NB216_297.out _; (with_reducible repeat (first | refine blk_drewN ?_ _ | refine blk_drew ?_ | refine blk_alloc ?_ _)); refine blk_far ?_ NB216_297.out _; (with_reducible repeat (first | refine blk_drewN ?_ _ | refine blk_drew ?_ | refine blk_alloc ?_ _)); refine blk_far ?_ NB216_297.out _; (with_reducible repeat (first | refine blk_drewN ?_ _ | refine blk_drew ?_ | refine blk_alloc ?_ _)); refine blk_far ?_ NB216_297.out _; (with_reducible repeat (first | refine blk_drewN ?_ _ | refine blk_drew ?_ | refine blk_alloc ?_ _)); refine blk_far ?_ NB216_297.out _; (with_reducible repeat (first | refine blk_drewN ?_ _ | refine blk_drew ?_ | refine blk_alloc ?_ _)); refine blk_far ?_ NB216_297.out _; (with_reducible repeat (first | refine blk_drewN ?_ _ | refine blk_drew ?_ | refine blk_alloc ?_ _)); refine blk_far ?_ NB216_297.out _; (with_reducible repeat (first | refine blk_drewN ?_ _ | refine blk_drew ?_ | refine blk_alloc ?_ _)); refine blk_far ?_ NB216_297.out _; (with_reducible repeat (first | refine blk_drewN ?_ _ | refine blk_drew ?_ | refine blk_alloc ?_ _)); refine blk_far ?_ NB216_297.out _; (with_reducible repeat (first | refine blk_drewN ?_ _ | refine blk_drew ?_ | refine blk_alloc ?_ _)); refine blk_far ?_ NB216_297.out _; (with_reducible repeat (first | refine blk_drewN ?_ _ | refine blk_drew ?_ | refine blk_alloc ?_ _)); refine blk_far ?_ NB216_297.out _; (with_reducible repeat (first | refine blk_drewN ?_ _ | refine blk_drew ?_ | refine blk_alloc ?_ _)); refine blk_far ?_ NB216_297.out _; (with_reducible repeat (first | refine blk_drewN ?_ _ | refine blk_drew ?_ | refine blk_alloc ?_ _)); refine blk_far ?_ NB216_297.out _; (with_reducible repeat (first | refine blk_drewN ?_ _ | refine blk_drew ?_ | refine blk_alloc ?_ _)); refine blk_far ?_ NB216_297.out _; (with_reducible repeat (first | refine blk_drewN ?_ _ | refine blk_drew ?_ | refine blk_alloc ?_ _)); exact za.out⟩
              have n1_ : Aside0 (((((((((((((((w67.setCell ⟨zd, 0, none⟩ (.int .i64 zam)).setCell ⟨zd, 1, none⟩ (.int .i64 zao)).setCell ⟨zd, 2, none⟩ (.int .u8 zaq)).setCell ⟨zd, 3, none⟩ (.int .u8 zat)).setCell ⟨zd, 4, none⟩ (.int .u8 zav)).setCell ⟨zd, 5, none⟩ (.int .u8 zax)).setCell ⟨zd, 6, none⟩ (.int .u8 zba)).setCell ⟨zd, 7, none⟩ (.int .i64 zbc)).setCell ⟨zd, 8, none⟩ (.int .i64 zbe)).setCell ⟨zd, 9, none⟩ (.int .u8 zbg)).setCell ⟨zd, 10, none⟩ (.int .u8 zbi)).setCell ⟨zd, 11, none⟩ (.int .u8 zbk)).setCell ⟨zd, 12, none⟩ (.int .u8 zbm)).setCell ⟨zd, 13, none⟩ (.int .u8 zbo)).heap[zf]? = some (.cells #[.int .i64 zx, .int .i64 zw, .int .u8 zz, .int .u8 zaa, .int .u8 zab, .int .u8 zac, .int .u8 zad, .int .i64 zae, .int .i64 zy, .int .u8 zaf, .int .u8 zag, .int .u8 zah, .int .u8 zai, .int .u8 zaj] 25 (0, 0))) := ⟨by (with_reducible repeat (first | refine blk_drewN ?_ _ | refine blk_drew ?_ | refine blk_alloc ?_ _)); refine blk_far ?_ NB232_297.out _; (with_reducible repeat (first | refine blk_drewN ?_ _ | refine blk_drew ?_ | refine blk_alloc ?_ _)); refine blk_far ?_ NB232_297.out _; (with_reducible repeat (first | refine blk_drewN ?_ _ | refine blk_drew ?_ | refine blk_alloc ?_ _)); refine blk_far ?_ NB232_297.out _; (with_reducible repeat (first | refine blk_drewN ?_ _ | refine blk_drew ?_ | refine blk_alloc ?_ _)); refine blk_far ?_ NB232_297.out _; (with_reducible repeat (first | refine blk_drewN ?_ _ | refine blk_drew ?_ | refine blk_alloc ?_ _)); refine blk_far ?_ NB232_297.out _; (with_reducible repeat (first | refine blk_drewN ?_ _ | refine blk_drew ?_ | refine blk_alloc ?_ _)); refine blk_far ?_ NB232_297.out _; (with_reducible repeat (first | refine blk_drewN ?_ _ | refine blk_drew ?_ | refine blk_alloc ?_ _)); refine blk_far ?_ NB232_297.out _; (with_reducible repeat (first | refine blk_drewN ?_ _ | refine blk_drew ?_ | refine blk_alloc ?_ _)); refine blk_far ?_ NB232_297.out _; (with_reducible repeat (first | refine blk_drewN ?_ _ | refine blk_drew ?_ | refine blk_alloc ?_ _)); refine blk_far ?_ NB232_297.out _; (with_reducible repeat (first | refine blk_drewN ?_ _ | refine blk_drew ?_ | refine blk_alloc ?_ _)); refine blk_far ?_ NB232_297.out _; (with_reducible repeat (first | refine blk_drewN ?_ _ | refine blk_drew ?_ | refine blk_alloc ?_ _)); refine blk_far ?_ NB232_297.out _; (with_reducible repeat (first | refine blk_drewN ?_ _ | refine blk_drew ?_ | refine blk_alloc ?_ _)); refine blk_far ?_ NB232_297.out _; (with_reducible repeat (first | refine blk_drewN ?_ _ | refine blk_drew ?_ | refine blk_alloc ?_ _)); refine blk_far ?_ NB232_297.out _; (with_reducible repeat (first | refine blk_drewN ?_ _ | refine blk_drew ?_ | refine blk_alloc ?_ _)); refine blk_far ?_ NB232_297.out _; (with_reducible repeat (first | refine blk_drewN ?_ _ | refine blk_drew ?_ | refine blk_alloc ?_ _)); exact zb.out⟩
              have n2_ : Aside0 (((((((((((((((w67.setCell ⟨zd, 0, none⟩ (.int .i64 zam)).setCell ⟨zd, 1, none⟩ (.int .i64 zao)).setCell ⟨zd, 2, none⟩ (.int .u8 zaq)).setCell ⟨zd, 3, none⟩ (.int .u8 zat)).setCell ⟨zd, 4, none⟩ (.int .u8 zav)).setCell ⟨zd, 5, none⟩ (.int .u8 zax)).setCell ⟨zd, 6, none⟩ (.int .u8 zba)).setCell ⟨zd, 7, none⟩ (.int .i64 zbc)).setCell ⟨zd, 8, none⟩ (.int .i64 zbe)).setCell ⟨zd, 9, none⟩ (.int .u8 zbg)).setCell ⟨zd, 10, none⟩ (.int .u8 zbi)).setCell ⟨zd, 11, none⟩ (.int .u8 zbk)).setCell ⟨zd, 12, none⟩ (.int .u8 zbm)).setCell ⟨zd, 13, none⟩ (.int .u8 zbo)).heap[zd]? = some (.cells #[.int .i64 zam, .int .i64 zao, .int .u8 zaq, .int .u8 zat, .int .u8 zav, .int .u8 zax, .int .u8 zba, .int .i64 zbc, .int .i64 zbe, .int .u8 zbg, .int .u8 zbi, .int .u8 zbk, .int .u8 zbm, .int .u8 zbo] 25 (0, 0))) := ⟨by (with_reducible repeat (first | refine blk_drewN ?_ _ | refine blk_drew ?_ | refine blk_alloc ?_ _)); refine blk_put (cs := #[.int .i64 zam, .int .i64 zao, .int .u8 zaq, .int .u8 zat, .int .u8 zav, .int .u8 zax, .int .u8 zba, .int .i64 zbc, .int .i64 zbe, .int .u8 zbg, .int .u8 zbi, .int .u8 zbk, .int .u8 zbm, .int .u8 0]) ?_ 13 _ rfl; (with_reducible repeat (first | refine blk_drewN ?_ _ | refine blk_drew ?_ | refine blk_alloc ?_ _)); refine blk_put (cs := #[.int .i64 zam, .int .i64 zao, .int .u8 zaq, .int .u8 zat, .int .u8 zav, .int .u8 zax, .int .u8 zba, .int .i64 zbc, .int .i64 zbe, .int .u8 zbg, .int .u8 zbi, .int .u8 zbk, .int .u8 0, .int .u8 0]) ?_ 12 _ rfl; (with_reducible repeat (first | refine blk_drewN ?_ _ | refine blk_drew ?_ | refine blk_alloc ?_ _)); refine blk_put (cs := #[.int .i64 zam, .int .i64 zao, .int .u8 zaq, .int .u8 zat, .int .u8 zav, .int .u8 zax, .int .u8 zba, .int .i64 zbc, .int .i64 zbe, .int .u8 zbg, .int .u8 zbi, .int .u8 0, .int .u8 0, .int .u8 0]) ?_ 11 _ rfl; (with_reducible repeat (first | refine blk_drewN ?_ _ | refine blk_drew ?_ | refine blk_alloc ?_ _)); refine blk_put (cs := #[.int .i64 zam, .int .i64 zao, .int .u8 zaq, .int .u8 zat, .int .u8 zav, .int .u8 zax, .int .u8 zba, .int .i64 zbc, .int .i64 zbe, .int .u8 zbg, .int .u8 0, .int .u8 0, .int .u8 0, .int .u8 0]) ?_ 10 _ rfl; (with_reducible repeat (first | refine blk_drewN ?_ _ | refine blk_drew ?_ | refine blk_alloc ?_ _)); refine blk_put (cs := #[.int .i64 zam, .int .i64 zao, .int .u8 zaq, .int .u8 zat, .int .u8 zav, .int .u8 zax, .int .u8 zba, .int .i64 zbc, .int .i64 zbe, .int .u8 0, .int .u8 0, .int .u8 0, .int .u8 0, .int .u8 0]) ?_ 9 _ rfl; (with_reducible repeat (first | refine blk_drewN ?_ _ | refine blk_drew ?_ | refine blk_alloc ?_ _)); refine blk_put (cs := #[.int .i64 zam, .int .i64 zao, .int .u8 zaq, .int .u8 zat, .int .u8 zav, .int .u8 zax, .int .u8 zba, .int .i64 zbc, .int .i64 0, .int .u8 0, .int .u8 0, .int .u8 0, .int .u8 0, .int .u8 0]) ?_ 8 _ rfl; (with_reducible repeat (first | refine blk_drewN ?_ _ | refine blk_drew ?_ | refine blk_alloc ?_ _)); refine blk_put (cs := #[.int .i64 zam, .int .i64 zao, .int .u8 zaq, .int .u8 zat, .int .u8 zav, .int .u8 zax, .int .u8 zba, .int .i64 0, .int .i64 0, .int .u8 0, .int .u8 0, .int .u8 0, .int .u8 0, .int .u8 0]) ?_ 7 _ rfl; (with_reducible repeat (first | refine blk_drewN ?_ _ | refine blk_drew ?_ | refine blk_alloc ?_ _)); refine blk_put (cs := #[.int .i64 zam, .int .i64 zao, .int .u8 zaq, .int .u8 zat, .int .u8 zav, .int .u8 zax, .int .u8 0, .int .i64 0, .int .i64 0, .int .u8 0, .int .u8 0, .int .u8 0, .int .u8 0, .int .u8 0]) ?_ 6 _ rfl; (with_reducible repeat (first | refine blk_drewN ?_ _ | refine blk_drew ?_ | refine blk_alloc ?_ _)); refine blk_put (cs := #[.int .i64 zam, .int .i64 zao, .int .u8 zaq, .int .u8 zat, .int .u8 zav, .int .u8 0, .int .u8 0, .int .i64 0, .int .i64 0, .int .u8 0, .int .u8 0, .int .u8 0, .int .u8 0, .int .u8 0]) ?_ 5 _ rfl; (with_reducible repeat (first | refine blk_drewN ?_ _ | refine blk_drew ?_ | refine blk_alloc ?_ _)); refine blk_put (cs := #[.int .i64 zam, .int .i64 zao, .int .u8 zaq, .int .u8 zat, .int .u8 0, .int .u8 0, .int .u8 0, .int .i64 0, .int .i64 0, .int .u8 0, .int .u8 0, .int .u8 0, .int .u8 0, .int .u8 0]) ?_ 4 _ rfl; (with_reducible repeat (first | refine blk_drewN ?_ _ | refine blk_drew ?_ | refine blk_alloc ?_ _)); refine blk_put (cs := #[.int .i64 zam, .int .i64 zao, .int .u8 zaq, .int .u8 0, .int .u8 0, .int .u8 0, .int .u8 0, .int .i64 0, .int .i64 0, .int .u8 0, .int .u8 0, .int .u8 0, .int .u8 0, .int .u8 0]) ?_ 3 _ rfl; (with_reducible repeat (first | refine blk_drewN ?_ _ | refine blk_drew ?_ | refine blk_alloc ?_ _)); refine blk_put (cs := #[.int .i64 zam, .int .i64 zao, .int .u8 0, .int .u8 0, .int .u8 0, .int .u8 0, .int .u8 0, .int .i64 0, .int .i64 0, .int .u8 0, .int .u8 0, .int .u8 0, .int .u8 0, .int .u8 0]) ?_ 2 _ rfl; (with_reducible repeat (first | refine blk_drewN ?_ _ | refine blk_drew ?_ | refine blk_alloc ?_ _)); refine blk_put (cs := #[.int .i64 zam, .int .i64 0, .int .u8 0, .int .u8 0, .int .u8 0, .int .u8 0, .int .u8 0, .int .i64 0, .int .i64 0, .int .u8 0, .int .u8 0, .int .u8 0, .int .u8 0, .int .u8 0]) ?_ 1 _ rfl; (with_reducible repeat (first | refine blk_drewN ?_ _ | refine blk_drew ?_ | refine blk_alloc ?_ _)); refine blk_put (cs := #[.int .i64 0, .int .i64 0, .int .u8 0, .int .u8 0, .int .u8 0, .int .u8 0, .int .u8 0, .int .i64 0, .int .i64 0, .int .u8 0, .int .u8 0, .int .u8 0, .int .u8 0, .int .u8 0]) ?_ 0 _ rfl; (with_reducible repeat (first | refine blk_drewN ?_ _ | refine blk_drew ?_ | refine blk_alloc ?_ _)); exact zg.out⟩
              have n3_ : Aside0 (Below w.heap.size w ((((((((((((((w67.setCell ⟨zd, 0, none⟩ (.int .i64 zam)).setCell ⟨zd, 1, none⟩ (.int .i64 zao)).setCell ⟨zd, 2, none⟩ (.int .u8 zaq)).setCell ⟨zd, 3, none⟩ (.int .u8 zat)).setCell ⟨zd, 4, none⟩ (.int .u8 zav)).setCell ⟨zd, 5, none⟩ (.int .u8 zax)).setCell ⟨zd, 6, none⟩ (.int .u8 zba)).setCell ⟨zd, 7, none⟩ (.int .i64 zbc)).setCell ⟨zd, 8, none⟩ (.int .i64 zbe)).setCell ⟨zd, 9, none⟩ (.int .u8 zbg)).setCell ⟨zd, 10, none⟩ (.int .u8 zbi)).setCell ⟨zd, 11, none⟩ (.int .u8 zbk)).setCell ⟨zd, 12, none⟩ (.int .u8 zbm)).setCell ⟨zd, 13, none⟩ (.int .u8 zbo))) := ⟨by with_reducible repeat (first | exact HB.out | apply sq_b | apply sq_n | apply sq_d | refine below_set ?_ zak.out | refine below_set ?_ zal.out | refine below_set ?_ GE297.out)⟩
              (try clear za)
              (try clear zb)
              (try clear zg)
              (try clear HB)
              generalize ((((((((((((((w67.setCell ⟨zd, 0, none⟩ (.int .i64 zam)).setCell ⟨zd, 1, none⟩ (.int .i64 zao)).setCell ⟨zd, 2, none⟩ (.int .u8 zaq)).setCell ⟨zd, 3, none⟩ (.int .u8 zat)).setCell ⟨zd, 4, none⟩ (.int .u8 zav)).setCell ⟨zd, 5, none⟩ (.int .u8 zax)).setCell ⟨zd, 6, none⟩ (.int .u8 zba)).setCell ⟨zd, 7, none⟩ (.int .i64 zbc)).setCell ⟨zd, 8, none⟩ (.int .i64 zbe)).setCell ⟨zd, 9, none⟩ (.int .u8 zbg)).setCell ⟨zd, 10, none⟩ (.int .u8 zbi)).setCell ⟨zd, 11, none⟩ (.int .u8 zbk)).setCell ⟨zd, 12, none⟩ (.int .u8 zbm)).setCell ⟨zd, 13, none⟩ (.int .u8 zbo)) = w71 at n0_ n1_ n2_ n3_ ⊢
              have za := n0_
              have zb := n1_
              have zg := n2_
              have HB := n3_
              clear n0_ n1_ n2_ n3_
              have n0_ := sq_m (blk_drew za.out)
              have n1_ := sq_m (blk_drew zb.out)
              have n2_ := sq_m (blk_drew zg.out)
              have n3_ := sq_m (sq_d HB.out)
              clear za
              clear zb
              clear zg
              clear HB
              have za := n0_
              have zb := n1_
              have zg := n2_
              have HB := n3_
              clear n0_ n1_ n2_ n3_
              refine start_ (n := 18) (S := fun w' => w'.cell? ⟨zd, 0, none⟩ = some (.int .i64 zam) ∧ w'.cell? ⟨zd, 1, none⟩ = some (.int .i64 zao) ∧ w'.cell? ⟨zd, 2, none⟩ = some (.int .u8 zaq) ∧ w'.cell? ⟨zd, 3, none⟩ = some (.int .u8 zat) ∧ w'.cell? ⟨zd, 4, none⟩ = some (.int .u8 zav) ∧ w'.cell? ⟨zd, 5, none⟩ = some (.int .u8 zax) ∧ w'.cell? ⟨zd, 6, none⟩ = some (.int .u8 zba) ∧ w'.cell? ⟨zd, 7, none⟩ = some (.int .i64 zbc) ∧ w'.cell? ⟨zd, 8, none⟩ = some (.int .i64 zbe) ∧ w'.cell? ⟨zd, 9, none⟩ = some (.int .u8 zbg) ∧ w'.cell? ⟨zd, 10, none⟩ = some (.int .u8 zbi) ∧ w'.cell? ⟨zd, 11, none⟩ = some (.int .u8 zbk) ∧ w'.cell? ⟨zd, 12, none⟩ = some (.int .u8 zbm) ∧ w'.cell? ⟨zd, 13, none⟩ = some (.int .u8 zbo) ∧ w'.cell? ⟨zc, 0, none⟩ = some (.int .i64 zj) ∧ w'.cell? ⟨zc, 1, none⟩ = some (.int .i64 zi) ∧ w'.cell? ⟨zc, 2, none⟩ = some (.int .u8 zk) ∧ w'.cell? ⟨zc, 3, none⟩ = some (.int .u8 zl) ∧ w'.cell? ⟨zc, 4, none⟩ = some (.int .u8 zn) ∧ w'.cell? ⟨zc, 5, none⟩ = some (.int .u8 zo) ∧ w'.cell? ⟨zc, 6, none⟩ = some (.int .u8 zp) ∧ w'.cell? ⟨zc, 7, none⟩ = some (.int .i64 zq) ∧ w'.cell? ⟨zc, 8, none⟩ = some (.int .i64 zm) ∧ w'.cell? ⟨zc, 9, none⟩ = some (.int .u8 zr) ∧ w'.cell? ⟨zc, 10, none⟩ = some (.int .u8 zs) ∧ w'.cell? ⟨zc, 11, none⟩ = some (.int .u8 zt) ∧ w'.cell? ⟨zc, 12, none⟩ = some (.int .u8 zu) ∧ w'.cell? ⟨zc, 13, none⟩ = some (.int .u8 zv)) (ds := []) mk32 (by kernel_rfl) rfl rfl ⟨(blk_cell zg.out 0).trans rfl, (blk_cell zg.out 1).trans rfl, (blk_cell zg.out 2).trans rfl, (blk_cell zg.out 3).trans rfl, (blk_cell zg.out 4).trans rfl, (blk_cell zg.out 5).trans rfl, (blk_cell zg.out 6).trans rfl, (blk_cell zg.out 7).trans rfl, (blk_cell zg.out 8).trans rfl, (blk_cell zg.out 9).trans rfl, (blk_cell zg.out 10).trans rfl, (blk_cell zg.out 11).trans rfl, (blk_cell zg.out 12).trans rfl, (blk_cell zg.out 13).trans rfl, (blk_cell za.out 0).trans rfl, (blk_cell za.out 1).trans rfl, (blk_cell za.out 2).trans rfl, (blk_cell za.out 3).trans rfl, (blk_cell za.out 4).trans rfl, (blk_cell za.out 5).trans rfl, (blk_cell za.out 6).trans rfl, (blk_cell za.out 7).trans rfl, (blk_cell za.out 8).trans rfl, (blk_cell za.out 9).trans rfl, (blk_cell za.out 10).trans rfl, (blk_cell za.out 11).trans rfl, (blk_cell za.out 12).trans rfl, (blk_cell za.out 13).trans rfl⟩ (fun hHeld => ?_); refine with_tabW shuttlelaw07_TrellisEdges.tab14 shuttlelaw07_TrellisEdges.bits14 (fun HT_ HW_ => ?_)
              generalize w71.drew = w72 at za zb zg HB hHeld ⊢
              refine pure_ (i := 0) (N := some 91) (v := ?_) (a' := ?_) mk33 rfl rfl (any_of HT_.out (by kernel_rfl)) (fun _ _ _ h => h) (Or.inl ⟨by rfl, ?_⟩) ?_ ?_; rotate_left; (intro w'; go_simp; with_reducible rfl); rotate_left; (simp only [Act.put, sq_a1, sq_a2, sq_a3, i64_w, i32_w]; rfl)
              refine pure_ (i := 1) (N := some 92) (v := ?_) (a' := ?_) mk34 rfl rfl (any_of HT_.out (by kernel_rfl)) (fun _ _ _ h => h) (Or.inl ⟨by rfl, ?_⟩) ?_ ?_; rotate_left; (intro w'; go_simp; with_reducible rfl); rotate_left; (simp only [Act.put, sq_a1, sq_a2, sq_a3, i64_w, i32_w]; rfl)
              refine pure_ (i := 2) (N := some 93) (v := ?_) (a' := ?_) mk35 rfl rfl (any_of HT_.out (by kernel_rfl)) (fun _ _ _ h => h) (Or.inl ⟨by rfl, ?_⟩) ?_ ?_; rotate_left; (intro w'; go_simp; with_reducible rfl); rotate_left; (simp only [Act.put, sq_a1, sq_a2, sq_a3, i64_w, i32_w]; rfl)
              refine pure_ (i := 3) (N := some 94) (v := ?_) (a' := ?_) mk36 rfl rfl (any_of HT_.out (by kernel_rfl)) (fun _ _ _ h => h) (Or.inl ⟨by rfl, ?_⟩) ?_ ?_; rotate_left; (intro w'; go_simp; with_reducible rfl); rotate_left; (simp only [Act.put, sq_a1, sq_a2, sq_a3, i64_w, i32_w]; rfl)
              refine pure_ (i := 5) (N := some 96) (v := ?_) (a' := ?_) mk37 rfl rfl (any_of HT_.out (by kernel_rfl)) (fun _ _ _ h => h) (Or.inl ⟨by rfl, ?_⟩) ?_ ?_; rotate_left; (intro w'; go_simp; with_reducible rfl); rotate_left; (simp only [Act.put, sq_a1, sq_a2, sq_a3, i64_w, i32_w]; rfl)
              refine pure_ (i := 6) (N := some 97) (v := ?_) (a' := ?_) mk38 rfl rfl (any_of HT_.out (by kernel_rfl)) (fun _ _ _ h => h) (Or.inl ⟨by rfl, ?_⟩) ?_ ?_; rotate_left; (intro w'; go_simp; with_reducible rfl); rotate_left; (simp only [Act.put, sq_a1, sq_a2, sq_a3, i64_w, i32_w]; rfl)
              refine take_ (i := 4) (N := some 95) (v := ?_) (a' := ?_) mk39 rfl rfl (take_ofW HT_.out HW_.out (by kernel_rfl)) (fun _ _ _ h => h) (Or.inl ⟨by rfl, ?_⟩) hHeld ?_ ?_
              rotate_left
              ·rintro w' ⟨s0, s1, s2, s3, s4, s5, s6, s7, s8, s9, s10, s11, s12, s13, s14, s15, s16, s17, s18, s19, s20, s21, s22, s23, s24, s25, s26, s27⟩
               go_simp
               with_reducible rfl
              rotate_left
              ·simp only [Act.put, sq_a1, sq_a2, sq_a3, i64_w, i32_w]
               rfl
              refine take_ (i := 7) (N := some 98) (v := ?_) (a' := ?_) mk40 rfl rfl (take_ofW HT_.out HW_.out (by kernel_rfl)) (fun _ _ _ h => h) (Or.inl ⟨by rfl, ?_⟩) hHeld ?_ ?_
              rotate_left
              ·rintro w' ⟨s0, s1, s2, s3, s4, s5, s6, s7, s8, s9, s10, s11, s12, s13, s14, s15, s16, s17, s18, s19, s20, s21, s22, s23, s24, s25, s26, s27⟩
               go_simp
               with_reducible rfl
              rotate_left
              ·simp only [Act.put, sq_a1, sq_a2, sq_a3, i64_w, i32_w]
               rfl
              refine pure_ (i := 8) (N := some 99) (v := ?_) (a' := ?_) mk41 rfl rfl (any_of HT_.out (by kernel_rfl)) (fun _ _ _ h => h) (Or.inl ⟨by rfl, ?_⟩) ?_ ?_; rotate_left; (intro w'; go_simp; with_reducible rfl); rotate_left; (simp only [Act.put, sq_a1, sq_a2, sq_a3, i64_w, i32_w]; rfl)
              refine pure_ (i := 9) (N := some 100) (v := ?_) (a' := ?_) mk42 rfl rfl (any_of HT_.out (by kernel_rfl)) (fun _ _ _ h => h) (Or.inl ⟨by rfl, ?_⟩) ?_ ?_; rotate_left; (intro w'; go_simp; with_reducible rfl); rotate_left; (simp only [Act.put, sq_a1, sq_a2, sq_a3, i64_w, i32_w]; rfl)
              refine pure_ (i := 10) (N := some 101) (v := undef) (a' := ?_) mk43 rfl rfl (any_of HT_.out (by kernel_rfl)) (fun _ _ _ h => h) (Or.inr ⟨by rfl, rfl⟩) ?_ ?_
              rotate_left
              ·simp only [Act.put, sq_a1, sq_a2, sq_a3, i64_w, i32_w]
               rfl
              refine pure_ (i := 11) (N := some 102) (v := undef) (a' := ?_) mk51 rfl rfl (any_of HT_.out (by kernel_rfl)) (fun _ _ _ h => h) (Or.inr ⟨by rfl, rfl⟩) ?_ ?_
              rotate_left
              ·simp only [Act.put, sq_a1, sq_a2, sq_a3, i64_w, i32_w]
               rfl
              refine pure_ (i := 12) (N := some 103) (v := undef) (a' := ?_) mk52 rfl rfl (any_of HT_.out (by kernel_rfl)) (fun _ _ _ h => h) (Or.inr ⟨by rfl, rfl⟩) ?_ ?_
              rotate_left
              ·simp only [Act.put, sq_a1, sq_a2, sq_a3, i64_w, i32_w]
               rfl
              refine pure_ (i := 13) (N := some 104) (v := undef) (a' := ?_) mk46 rfl rfl (any_of HT_.out (by kernel_rfl)) (fun _ _ _ h => h) (Or.inr ⟨by rfl, rfl⟩) ?_ ?_
              rotate_left
              ·simp only [Act.put, sq_a1, sq_a2, sq_a3, i64_w, i32_w]
               rfl
              refine pure_ (i := 14) (N := some 105) (v := undef) (a' := ?_) mk47 rfl rfl (any_of HT_.out (by kernel_rfl)) (fun _ _ _ h => h) (Or.inr ⟨by rfl, rfl⟩) ?_ ?_
              rotate_left
              ·simp only [Act.put, sq_a1, sq_a2, sq_a3, i64_w, i32_w]
               rfl
              refine pure_ (i := 15) (N := some 106) (v := undef) (a' := ?_) mk48 rfl rfl (any_of HT_.out (by kernel_rfl)) (fun _ _ _ h => h) (Or.inr ⟨by rfl, rfl⟩) ?_ ?_
              rotate_left
              ·simp only [Act.put, sq_a1, sq_a2, sq_a3, i64_w, i32_w]
               rfl
              refine pure_ (i := 16) (N := some 107) (v := ?_) (a' := ?_) mk49 rfl rfl (any_of HT_.out (by kernel_rfl)) (fun _ _ _ h => h) (Or.inl ⟨by rfl, ?_⟩) ?_ ?_; rotate_left; (intro w'; go_simp; with_reducible rfl); rotate_left; (simp only [Act.put, sq_a1, sq_a2, sq_a3, i64_w, i32_w]; rfl)
              refine pure_ (i := 17) (N := some 108) (v := ?_) (a' := ?_) mk50 rfl rfl (any_of HT_.out (by kernel_rfl)) (fun _ _ _ h => h) (Or.inl ⟨by rfl, ?_⟩) ?_ ?_; rotate_left; (intro w'; go_simp; with_reducible rfl); rotate_left; (simp only [Act.put, sq_a1, sq_a2, sq_a3, i64_w, i32_w]; rfl)
              refine done_ (done_of HT_.out (by kernel_rfl)) ?_
              try go_wp2
              go_roundg kj23
              case measure => have := HJ5.out; have := HK2.out; have := HJ23.out; omega
              case rel => exact ⟨(0 + 1), (by first | rfl | (simp; done) | (simp [*]; done)), H', ⟨by have := HJ5.out; have := HK2.out; have := HJ23.out; omega⟩, ⟨by (with_reducible repeat (first | refine blk_drewN ?_ _ | refine blk_drew ?_ | refine blk_alloc ?_ _)); exact za.out⟩, ⟨by (with_reducible repeat (first | refine blk_drewN ?_ _ | refine blk_drew ?_ | refine blk_alloc ?_ _)); exact zb.out⟩, ⟨by with_reducible repeat (first | exact HB.out | apply sq_b | apply sq_n | apply sq_d | refine below_set ?_ zak.out | refine below_set ?_ zal.out | refine below_set ?_ GE297.out)⟩⟩
            ·rw [if_neg c52] at H
             have c52b0 : (t296 == 0) = false := beq_eq_false_iff_ne.mpr c52
             have c52b1 : (t296 != 0) = true := bne_iff_ne.mpr c52
             exact absurd H (by simp)
           ·rw [if_neg c50] at H
            clear c50
            by_cases c73 : x8_2 = 1
            ·rw [if_pos c73] at H
             subst c73
             replace H := Option.bind_eq_some_iff.mp H
             obtain ⟨⟨zan, zap, zar, zau, zaw, zay, zbb, zbd, zbf, zbh, zbj, zbl, zbn, zbp, t280⟩, A740, H⟩ := H
             replace H : (if t280 = 0 then (if (!(zan == zq) || (!(zap == zm) || (!(zar == zr) || ((!(zau == zs) || (!(zaw == zt) || (!(zay == zu) || (!(zbb == zv))))))))) = true then (if (!(zbd == zq) || (!(zbf == zm) || (!(zbh == zr) || ((!(zbj == zs) || (!(zbl == zt) || (!(zbn == zu) || (!(zbp == zv))))))))) = true then (none) else (shuttlelaw07_TrellisEdges.l0 kj23 a0 zas zaz ((wrap64 (Int.tdiv a0 32)) % 256) (1 + 1) zj zi zk zl zn zo zp zq zm zr zs zt zu zv zx zw zz zaa zab zac zad zae zy zaf zag zah zai zaj)) else (shuttlelaw07_TrellisEdges.l0 kj23 a0 zas zaz ((wrap64 (Int.tdiv a0 32)) % 256) (1 + 1) zj zi zk zl zn zo zp zq zm zr zs zt zu zv zx zw zz zaa zab zac zad zae zy zaf zag zah zai zaj)) else (none)) = some r := H
             have A74 := sq_m A740
             clear A740
             by_cases c75 : t280 = 0
             ·rw [if_pos c75] at H
              have c75b0 : (t280 == 0) = true := beq_iff_eq.mpr c75
              have c75b1 : (t280 != 0) = false := bne_eq_false_iff_eq.mpr c75
              clear c75
              by_cases c76 : (!(zan == zq) || (!(zap == zm) || (!(zar == zr) || ((!(zau == zs) || (!(zaw == zt) || (!(zay == zu) || (!(zbb == zv))))))))) = true
              ·rw [if_pos c76] at H
               have c76b0 : (!(zan == zq) || (!(zap == zm) || (!(zar == zr) || ((!(zau == zs) || (!(zaw == zt) || (!(zay == zu) || (!(zbb == zv))))))))) = true := c76
               clear c76
               by_cases c77 : (!(zbd == zq) || (!(zbf == zm) || (!(zbh == zr) || ((!(zbj == zs) || (!(zbl == zt) || (!(zbn == zu) || (!(zbp == zv))))))))) = true
               ·rw [if_pos c77] at H
                exact absurd H (by simp)
               ·rw [if_neg c77] at H
                have c77b0 : (!(zbd == zq) || (!(zbf == zm) || (!(zbh == zr) || ((!(zbj == zs) || (!(zbl == zt) || (!(zbn == zu) || (!(zbp == zv))))))))) = false := by simpa using c77
                clear c77
                have H' := sq_m H
                clear H
                have hnb78 := NB216_232.out
                have hnc78 := NB232_216.out
                have hcz79_0 : wc.cell? ⟨zc, 0, none⟩ = some (.int .i64 zj) := (blk_cell za.out 0).trans rfl
                have hcz79_1 : wc.cell? ⟨zc, 1, none⟩ = some (.int .i64 zi) := (blk_cell za.out 1).trans rfl
                have hcz79_2 : wc.cell? ⟨zc, 2, none⟩ = some (.int .u8 zk) := (blk_cell za.out 2).trans rfl
                have hcz79_3 : wc.cell? ⟨zc, 3, none⟩ = some (.int .u8 zl) := (blk_cell za.out 3).trans rfl
                have hcz79_4 : wc.cell? ⟨zc, 4, none⟩ = some (.int .u8 zn) := (blk_cell za.out 4).trans rfl
                have hcz79_5 : wc.cell? ⟨zc, 5, none⟩ = some (.int .u8 zo) := (blk_cell za.out 5).trans rfl
                have hcz79_6 : wc.cell? ⟨zc, 6, none⟩ = some (.int .u8 zp) := (blk_cell za.out 6).trans rfl
                have hcz79_7 : wc.cell? ⟨zc, 7, none⟩ = some (.int .i64 zq) := (blk_cell za.out 7).trans rfl
                have hcz79_8 : wc.cell? ⟨zc, 8, none⟩ = some (.int .i64 zm) := (blk_cell za.out 8).trans rfl
                have hcz79_9 : wc.cell? ⟨zc, 9, none⟩ = some (.int .u8 zr) := (blk_cell za.out 9).trans rfl
                have hcz79_10 : wc.cell? ⟨zc, 10, none⟩ = some (.int .u8 zs) := (blk_cell za.out 10).trans rfl
                have hcz79_11 : wc.cell? ⟨zc, 11, none⟩ = some (.int .u8 zt) := (blk_cell za.out 11).trans rfl
                have hcz79_12 : wc.cell? ⟨zc, 12, none⟩ = some (.int .u8 zu) := (blk_cell za.out 12).trans rfl
                have hcz79_13 : wc.cell? ⟨zc, 13, none⟩ = some (.int .u8 zv) := (blk_cell za.out 13).trans rfl
                have hfz79_0 := blk_frozen za.out 0
                have hfz79_1 := blk_frozen za.out 1
                have hfz79_2 := blk_frozen za.out 2
                have hfz79_3 := blk_frozen za.out 3
                have hfz79_4 := blk_frozen za.out 4
                have hfz79_5 := blk_frozen za.out 5
                have hfz79_6 := blk_frozen za.out 6
                have hfz79_7 := blk_frozen za.out 7
                have hfz79_8 := blk_frozen za.out 8
                have hfz79_9 := blk_frozen za.out 9
                have hfz79_10 := blk_frozen za.out 10
                have hfz79_11 := blk_frozen za.out 11
                have hfz79_12 := blk_frozen za.out 12
                have hfz79_13 := blk_frozen za.out 13
                try go_wp2_with (first | ((with_reducible refine gate_callee (f := 10) rfl ?_); refine goesL_ (some 88) rfl rfl Tryd.func10 (by kernel_rfl) rfl #[.int .i64 zm] rfl (by (try simp only [List.map_toArray, List.map_cons, List.map_nil]); first | done | rfl | (simp only [List.length_drop, List.length_take]; rfl)) ?_; (with_reducible refine (trellis_Into.calls zm zan zap zar zau zaw zay zbb zbd zbf zbh zbj zbl zbn zbp t280 _ A74.out).mono ?_); rintro e w80 ⟨rfl, hb⟩; refine ⟨_, rfl, ?_⟩; have n0_ := sq_m (blk_below (g := zc) (o := .cells #[.int .i64 zj, .int .i64 zi, .int .u8 zk, .int .u8 zl, .int .u8 zn, .int .u8 zo, .int .u8 zp, .int .i64 zq, .int .i64 zm, .int .u8 zr, .int .u8 zs, .int .u8 zt, .int .u8 zu, .int .u8 zv] 25 (0, 0)) (by (with_reducible repeat (first | refine blk_drewN ?_ _ | refine blk_drew ?_ | refine blk_alloc ?_ _)); exact za.out) hb); have n1_ := sq_m (blk_below (g := zf) (o := .cells #[.int .i64 zx, .int .i64 zw, .int .u8 zz, .int .u8 zaa, .int .u8 zab, .int .u8 zac, .int .u8 zad, .int .i64 zae, .int .i64 zy, .int .u8 zaf, .int .u8 zag, .int .u8 zah, .int .u8 zai, .int .u8 zaj] 25 (0, 0)) (by (with_reducible repeat (first | refine blk_drewN ?_ _ | refine blk_drew ?_ | refine blk_alloc ?_ _)); exact zb.out) hb); have n2_ := sq_m (below_step (by with_reducible repeat (first | exact HB.out | apply sq_b | apply sq_n | apply sq_d | refine below_set ?_ zak.out | refine below_set ?_ zal.out)) hb); clear za; clear zb; clear HB; have za := n0_; have zb := n1_; have HB := n2_; clear n0_ n1_ n2_; (try clear hb); (try clear hb2); (try clear hk); (try clear hi)) | ((with_reducible refine gate_dst (N := 9) rfl ?_); refine box_event ?hg (N := 9) ?hd (cs := #[.int .i64 0, .int .i64 0, .int .u8 0, .int .u8 0, .int .u8 0, .int .u8 0, .int .u8 0, .int .i64 0, .int .i64 0, .int .u8 0, .int .u8 0, .int .u8 0, .int .u8 0, .int .u8 0]) (t := 25) ?hr ?_; (case hd => rfl); (case hg => rfl); (case hr => first | (go_simp; done) | (go_simp; rfl)); intro ze hg w81 hbox hb; have n0_ := sq_m (blk_below (g := zc) (o := .cells #[.int .i64 zj, .int .i64 zi, .int .u8 zk, .int .u8 zl, .int .u8 zn, .int .u8 zo, .int .u8 zp, .int .i64 zq, .int .i64 zm, .int .u8 zr, .int .u8 zs, .int .u8 zt, .int .u8 zu, .int .u8 zv] 25 (0, 0)) (by (with_reducible repeat (first | refine blk_drewN ?_ _ | refine blk_drew ?_ | refine blk_alloc ?_ _)); exact za.out) hb); have n1_ := sq_m (blk_below (g := zf) (o := .cells #[.int .i64 zx, .int .i64 zw, .int .u8 zz, .int .u8 zaa, .int .u8 zab, .int .u8 zac, .int .u8 zad, .int .i64 zae, .int .i64 zy, .int .u8 zaf, .int .u8 zag, .int .u8 zah, .int .u8 zai, .int .u8 zaj] 25 (0, 0)) (by (with_reducible repeat (first | refine blk_drewN ?_ _ | refine blk_drew ?_ | refine blk_alloc ?_ _)); exact zb.out) hb); have n2_ := sq_m (below_step (by with_reducible repeat (first | exact HB.out | apply sq_b | apply sq_n | apply sq_d | refine below_set ?_ zak.out | refine below_set ?_ zal.out)) hb); have n3_ := sq_m (hbox); have n4_ := sq_m ((by rw [hg]; exact (below_size (by with_reducible repeat (first | exact HB.out | apply sq_b | apply sq_n | apply sq_d | refine below_set ?_ zak.out | refine below_set ?_ zal.out))) : w.heap.size ≤ ze)); have n5_ := sq_m ((by rw [hg]; exact (below_size (by with_reducible repeat (first | exact HB.out | apply sq_b | apply sq_n | apply sq_d | refine below_set ?_ zak.out | refine below_set ?_ zal.out))) : w.heap.size ≤ ze)); have n6_ := sq_m ((by rw [hg]; exact Nat.ne_of_lt (blk_lt (g := zc) (o := .cells #[.int .i64 zj, .int .i64 zi, .int .u8 zk, .int .u8 zl, .int .u8 zn, .int .u8 zo, .int .u8 zp, .int .i64 zq, .int .i64 zm, .int .u8 zr, .int .u8 zs, .int .u8 zt, .int .u8 zu, .int .u8 zv] 25 (0, 0)) (by (with_reducible repeat (first | refine blk_drewN ?_ _ | refine blk_drew ?_ | refine blk_alloc ?_ _)); exact za.out)) : zc ≠ ze)); have n7_ := sq_m ((by rw [hg]; exact Nat.ne_of_gt (blk_lt (g := zc) (o := .cells #[.int .i64 zj, .int .i64 zi, .int .u8 zk, .int .u8 zl, .int .u8 zn, .int .u8 zo, .int .u8 zp, .int .i64 zq, .int .i64 zm, .int .u8 zr, .int .u8 zs, .int .u8 zt, .int .u8 zu, .int .u8 zv] 25 (0, 0)) (by (with_reducible repeat (first | refine blk_drewN ?_ _ | refine blk_drew ?_ | refine blk_alloc ?_ _)); exact za.out)) : ze ≠ zc)); have n8_ := sq_m ((by rw [hg]; exact Nat.ne_of_lt (blk_lt (g := zf) (o := .cells #[.int .i64 zx, .int .i64 zw, .int .u8 zz, .int .u8 zaa, .int .u8 zab, .int .u8 zac, .int .u8 zad, .int .i64 zae, .int .i64 zy, .int .u8 zaf, .int .u8 zag, .int .u8 zah, .int .u8 zai, .int .u8 zaj] 25 (0, 0)) (by (with_reducible repeat (first | refine blk_drewN ?_ _ | refine blk_drew ?_ | refine blk_alloc ?_ _)); exact zb.out)) : zf ≠ ze)); have n9_ := sq_m ((by rw [hg]; exact Nat.ne_of_gt (blk_lt (g := zf) (o := .cells #[.int .i64 zx, .int .i64 zw, .int .u8 zz, .int .u8 zaa, .int .u8 zab, .int .u8 zac, .int .u8 zad, .int .i64 zae, .int .i64 zy, .int .u8 zaf, .int .u8 zag, .int .u8 zah, .int .u8 zai, .int .u8 zaj] 25 (0, 0)) (by (with_reducible repeat (first | refine blk_drewN ?_ _ | refine blk_drew ?_ | refine blk_alloc ?_ _)); exact zb.out)) : ze ≠ zf)); clear za; clear zb; clear HB; have za := n0_; have zb := n1_; have HB := n2_; have zh := n3_; have GW281 := n4_; have GE281 := n5_; have NB216_281 := n6_; have NB281_216 := n7_; have NB232_281 := n8_; have NB281_232 := n9_; clear n0_ n1_ n2_ n3_ n4_ n5_ n6_ n7_ n8_ n9_; clear hb hbox hg; have hnb82 := NB281_216.out; have hnc82 := NB216_281.out; have hnb83 := NB281_232.out; have hnc83 := NB232_281.out; have hcz84_0 : w81.cell? ⟨ze, 0, none⟩ = some (.int .i64 0) := (blk_cell zh.out 0).trans rfl; have hcz84_1 : w81.cell? ⟨ze, 1, none⟩ = some (.int .i64 0) := (blk_cell zh.out 1).trans rfl; have hcz84_2 : w81.cell? ⟨ze, 2, none⟩ = some (.int .u8 0) := (blk_cell zh.out 2).trans rfl; have hcz84_3 : w81.cell? ⟨ze, 3, none⟩ = some (.int .u8 0) := (blk_cell zh.out 3).trans rfl; have hcz84_4 : w81.cell? ⟨ze, 4, none⟩ = some (.int .u8 0) := (blk_cell zh.out 4).trans rfl; have hcz84_5 : w81.cell? ⟨ze, 5, none⟩ = some (.int .u8 0) := (blk_cell zh.out 5).trans rfl; have hcz84_6 : w81.cell? ⟨ze, 6, none⟩ = some (.int .u8 0) := (blk_cell zh.out 6).trans rfl; have hcz84_7 : w81.cell? ⟨ze, 7, none⟩ = some (.int .i64 0) := (blk_cell zh.out 7).trans rfl; have hcz84_8 : w81.cell? ⟨ze, 8, none⟩ = some (.int .i64 0) := (blk_cell zh.out 8).trans rfl; have hcz84_9 : w81.cell? ⟨ze, 9, none⟩ = some (.int .u8 0) := (blk_cell zh.out 9).trans rfl; have hcz84_10 : w81.cell? ⟨ze, 10, none⟩ = some (.int .u8 0) := (blk_cell zh.out 10).trans rfl; have hcz84_11 : w81.cell? ⟨ze, 11, none⟩ = some (.int .u8 0) := (blk_cell zh.out 11).trans rfl; have hcz84_12 : w81.cell? ⟨ze, 12, none⟩ = some (.int .u8 0) := (blk_cell zh.out 12).trans rfl; have hcz84_13 : w81.cell? ⟨ze, 13, none⟩ = some (.int .u8 0) := (blk_cell zh.out 13).trans rfl; have hfz84_0 := blk_frozen zh.out 0; have hfz84_1 := blk_frozen zh.out 1; have hfz84_2 := blk_frozen zh.out 2; have hfz84_3 := blk_frozen zh.out 3; have hfz84_4 := blk_frozen zh.out 4; have hfz84_5 := blk_frozen zh.out 5; have hfz84_6 := blk_frozen zh.out 6; have hfz84_7 := blk_frozen zh.out 7; have hfz84_8 := blk_frozen zh.out 8; have hfz84_9 := blk_frozen zh.out 9; have hfz84_10 := blk_frozen zh.out 10; have hfz84_11 := blk_frozen zh.out 11; have hfz84_12 := blk_frozen zh.out 12; have hfz84_13 := blk_frozen zh.out 13))
                have n0_ : Aside0 (((((((((((((((w81.setCell ⟨ze, 0, none⟩ (.int .i64 zan)).setCell ⟨ze, 1, none⟩ (.int .i64 zap)).setCell ⟨ze, 2, none⟩ (.int .u8 zar)).setCell ⟨ze, 3, none⟩ (.int .u8 zau)).setCell ⟨ze, 4, none⟩ (.int .u8 zaw)).setCell ⟨ze, 5, none⟩ (.int .u8 zay)).setCell ⟨ze, 6, none⟩ (.int .u8 zbb)).setCell ⟨ze, 7, none⟩ (.int .i64 zbd)).setCell ⟨ze, 8, none⟩ (.int .i64 zbf)).setCell ⟨ze, 9, none⟩ (.int .u8 zbh)).setCell ⟨ze, 10, none⟩ (.int .u8 zbj)).setCell ⟨ze, 11, none⟩ (.int .u8 zbl)).setCell ⟨ze, 12, none⟩ (.int .u8 zbn)).setCell ⟨ze, 13, none⟩ (.int .u8 zbp)).heap[zc]? = some (.cells #[.int .i64 zj, .int .i64 zi, .int .u8 zk, .int .u8 zl, .int .u8 zn, .int .u8 zo, .int .u8 zp, .int .i64 zq, .int .i64 zm, .int .u8 zr, .int .u8 zs, .int .u8 zt, .int .u8 zu, .int .u8 zv] 25 (0, 0))) := ⟨by (with_reducible repeat (first | refine blk_drewN ?_ _ | refine blk_drew ?_ | refine blk_alloc ?_ _)); refine blk_far ?_ NB216_281.out _; (with_reducible repeat (first | refine blk_drewN ?_ _ | refine blk_drew ?_ | refine blk_alloc ?_ _)); refine blk_far ?_ NB216_281.out _; (with_reducible repeat (first | refine blk_drewN ?_ _ | refine blk_drew ?_ | refine blk_alloc ?_ _)); refine blk_far ?_ NB216_281.out _; (with_reducible repeat (first | refine blk_drewN ?_ _ | refine blk_drew ?_ | refine blk_alloc ?_ _)); refine blk_far ?_ NB216_281.out _; (with_reducible repeat (first | refine blk_drewN ?_ _ | refine blk_drew ?_ | refine blk_alloc ?_ _)); refine blk_far ?_ NB216_281.out _; (with_reducible repeat (first | refine blk_drewN ?_ _ | refine blk_drew ?_ | refine blk_alloc ?_ _)); refine blk_far ?_ NB216_281.out _; (with_reducible repeat (first | refine blk_drewN ?_ _ | refine blk_drew ?_ | refine blk_alloc ?_ _)); refine blk_far ?_ NB216_281.out _; (with_reducible repeat (first | refine blk_drewN ?_ _ | refine blk_drew ?_ | refine blk_alloc ?_ _)); refine blk_far ?_ NB216_281.out _; (with_reducible repeat (first | refine blk_drewN ?_ _ | refine blk_drew ?_ | refine blk_alloc ?_ _)); refine blk_far ?_ NB216_281.out _; (with_reducible repeat (first | refine blk_drewN ?_ _ | refine blk_drew ?_ | refine blk_alloc ?_ _)); refine blk_far ?_ NB216_281.out _; (with_reducible repeat (first | refine blk_drewN ?_ _ | refine blk_drew ?_ | refine blk_alloc ?_ _)); refine blk_far ?_ NB216_281.out _; (with_reducible repeat (first | refine blk_drewN ?_ _ | refine blk_drew ?_ | refine blk_alloc ?_ _)); refine blk_far ?_ NB216_281.out _; (with_reducible repeat (first | refine blk_drewN ?_ _ | refine blk_drew ?_ | refine blk_alloc ?_ _)); refine blk_far ?_ NB216_281.out _; (with_reducible repeat (first | refine blk_drewN ?_ _ | refine blk_drew ?_ | refine blk_alloc ?_ _)); refine blk_far ?_ NB216_281.out _; (with_reducible repeat (first | refine blk_drewN ?_ _ | refine blk_drew ?_ | refine blk_alloc ?_ _)); exact za.out⟩
                have n1_ : Aside0 (((((((((((((((w81.setCell ⟨ze, 0, none⟩ (.int .i64 zan)).setCell ⟨ze, 1, none⟩ (.int .i64 zap)).setCell ⟨ze, 2, none⟩ (.int .u8 zar)).setCell ⟨ze, 3, none⟩ (.int .u8 zau)).setCell ⟨ze, 4, none⟩ (.int .u8 zaw)).setCell ⟨ze, 5, none⟩ (.int .u8 zay)).setCell ⟨ze, 6, none⟩ (.int .u8 zbb)).setCell ⟨ze, 7, none⟩ (.int .i64 zbd)).setCell ⟨ze, 8, none⟩ (.int .i64 zbf)).setCell ⟨ze, 9, none⟩ (.int .u8 zbh)).setCell ⟨ze, 10, none⟩ (.int .u8 zbj)).setCell ⟨ze, 11, none⟩ (.int .u8 zbl)).setCell ⟨ze, 12, none⟩ (.int .u8 zbn)).setCell ⟨ze, 13, none⟩ (.int .u8 zbp)).heap[zf]? = some (.cells #[.int .i64 zx, .int .i64 zw, .int .u8 zz, .int .u8 zaa, .int .u8 zab, .int .u8 zac, .int .u8 zad, .int .i64 zae, .int .i64 zy, .int .u8 zaf, .int .u8 zag, .int .u8 zah, .int .u8 zai, .int .u8 zaj] 25 (0, 0))) := ⟨by (with_reducible repeat (first | refine blk_drewN ?_ _ | refine blk_drew ?_ | refine blk_alloc ?_ _)); refine blk_far ?_ NB232_281.out _; (with_reducible repeat (first | refine blk_drewN ?_ _ | refine blk_drew ?_ | refine blk_alloc ?_ _)); refine blk_far ?_ NB232_281.out _; (with_reducible repeat (first | refine blk_drewN ?_ _ | refine blk_drew ?_ | refine blk_alloc ?_ _)); refine blk_far ?_ NB232_281.out _; (with_reducible repeat (first | refine blk_drewN ?_ _ | refine blk_drew ?_ | refine blk_alloc ?_ _)); refine blk_far ?_ NB232_281.out _; (with_reducible repeat (first | refine blk_drewN ?_ _ | refine blk_drew ?_ | refine blk_alloc ?_ _)); refine blk_far ?_ NB232_281.out _; (with_reducible repeat (first | refine blk_drewN ?_ _ | refine blk_drew ?_ | refine blk_alloc ?_ _)); refine blk_far ?_ NB232_281.out _; (with_reducible repeat (first | refine blk_drewN ?_ _ | refine blk_drew ?_ | refine blk_alloc ?_ _)); refine blk_far ?_ NB232_281.out _; (with_reducible repeat (first | refine blk_drewN ?_ _ | refine blk_drew ?_ | refine blk_alloc ?_ _)); refine blk_far ?_ NB232_281.out _; (with_reducible repeat (first | refine blk_drewN ?_ _ | refine blk_drew ?_ | refine blk_alloc ?_ _)); refine blk_far ?_ NB232_281.out _; (with_reducible repeat (first | refine blk_drewN ?_ _ | refine blk_drew ?_ | refine blk_alloc ?_ _)); refine blk_far ?_ NB232_281.out _; (with_reducible repeat (first | refine blk_drewN ?_ _ | refine blk_drew ?_ | refine blk_alloc ?_ _)); refine blk_far ?_ NB232_281.out _; (with_reducible repeat (first | refine blk_drewN ?_ _ | refine blk_drew ?_ | refine blk_alloc ?_ _)); refine blk_far ?_ NB232_281.out _; (with_reducible repeat (first | refine blk_drewN ?_ _ | refine blk_drew ?_ | refine blk_alloc ?_ _)); refine blk_far ?_ NB232_281.out _; (with_reducible repeat (first | refine blk_drewN ?_ _ | refine blk_drew ?_ | refine blk_alloc ?_ _)); refine blk_far ?_ NB232_281.out _; (with_reducible repeat (first | refine blk_drewN ?_ _ | refine blk_drew ?_ | refine blk_alloc ?_ _)); exact zb.out⟩
                have n2_ : Aside0 (((((((((((((((w81.setCell ⟨ze, 0, none⟩ (.int .i64 zan)).setCell ⟨ze, 1, none⟩ (.int .i64 zap)).setCell ⟨ze, 2, none⟩ (.int .u8 zar)).setCell ⟨ze, 3, none⟩ (.int .u8 zau)).setCell ⟨ze, 4, none⟩ (.int .u8 zaw)).setCell ⟨ze, 5, none⟩ (.int .u8 zay)).setCell ⟨ze, 6, none⟩ (.int .u8 zbb)).setCell ⟨ze, 7, none⟩ (.int .i64 zbd)).setCell ⟨ze, 8, none⟩ (.int .i64 zbf)).setCell ⟨ze, 9, none⟩ (.int .u8 zbh)).setCell ⟨ze, 10, none⟩ (.int .u8 zbj)).setCell ⟨ze, 11, none⟩ (.int .u8 zbl)).setCell ⟨ze, 12, none⟩ (.int .u8 zbn)).setCell ⟨ze, 13, none⟩ (.int .u8 zbp)).heap[ze]? = some (.cells #[.int .i64 zan, .int .i64 zap, .int .u8 zar, .int .u8 zau, .int .u8 zaw, .int .u8 zay, .int .u8 zbb, .int .i64 zbd, .int .i64 zbf, .int .u8 zbh, .int .u8 zbj, .int .u8 zbl, .int .u8 zbn, .int .u8 zbp] 25 (0, 0))) := ⟨by (with_reducible repeat (first | refine blk_drewN ?_ _ | refine blk_drew ?_ | refine blk_alloc ?_ _)); refine blk_put (cs := #[.int .i64 zan, .int .i64 zap, .int .u8 zar, .int .u8 zau, .int .u8 zaw, .int .u8 zay, .int .u8 zbb, .int .i64 zbd, .int .i64 zbf, .int .u8 zbh, .int .u8 zbj, .int .u8 zbl, .int .u8 zbn, .int .u8 0]) ?_ 13 _ rfl; (with_reducible repeat (first | refine blk_drewN ?_ _ | refine blk_drew ?_ | refine blk_alloc ?_ _)); refine blk_put (cs := #[.int .i64 zan, .int .i64 zap, .int .u8 zar, .int .u8 zau, .int .u8 zaw, .int .u8 zay, .int .u8 zbb, .int .i64 zbd, .int .i64 zbf, .int .u8 zbh, .int .u8 zbj, .int .u8 zbl, .int .u8 0, .int .u8 0]) ?_ 12 _ rfl; (with_reducible repeat (first | refine blk_drewN ?_ _ | refine blk_drew ?_ | refine blk_alloc ?_ _)); refine blk_put (cs := #[.int .i64 zan, .int .i64 zap, .int .u8 zar, .int .u8 zau, .int .u8 zaw, .int .u8 zay, .int .u8 zbb, .int .i64 zbd, .int .i64 zbf, .int .u8 zbh, .int .u8 zbj, .int .u8 0, .int .u8 0, .int .u8 0]) ?_ 11 _ rfl; (with_reducible repeat (first | refine blk_drewN ?_ _ | refine blk_drew ?_ | refine blk_alloc ?_ _)); refine blk_put (cs := #[.int .i64 zan, .int .i64 zap, .int .u8 zar, .int .u8 zau, .int .u8 zaw, .int .u8 zay, .int .u8 zbb, .int .i64 zbd, .int .i64 zbf, .int .u8 zbh, .int .u8 0, .int .u8 0, .int .u8 0, .int .u8 0]) ?_ 10 _ rfl; (with_reducible repeat (first | refine blk_drewN ?_ _ | refine blk_drew ?_ | refine blk_alloc ?_ _)); refine blk_put (cs := #[.int .i64 zan, .int .i64 zap, .int .u8 zar, .int .u8 zau, .int .u8 zaw, .int .u8 zay, .int .u8 zbb, .int .i64 zbd, .int .i64 zbf, .int .u8 0, .int .u8 0, .int .u8 0, .int .u8 0, .int .u8 0]) ?_ 9 _ rfl; (with_reducible repeat (first | refine blk_drewN ?_ _ | refine blk_drew ?_ | refine blk_alloc ?_ _)); refine blk_put (cs := #[.int .i64 zan, .int .i64 zap, .int .u8 zar, .int .u8 zau, .int .u8 zaw, .int .u8 zay, .int .u8 zbb, .int .i64 zbd, .int .i64 0, .int .u8 0, .int .u8 0, .int .u8 0, .int .u8 0, .int .u8 0]) ?_ 8 _ rfl; (with_reducible repeat (first | refine blk_drewN ?_ _ | refine blk_drew ?_ | refine blk_alloc ?_ _)); refine blk_put (cs := #[.int .i64 zan, .int .i64 zap, .int .u8 zar, .int .u8 zau, .int .u8 zaw, .int .u8 zay, .int .u8 zbb, .int .i64 0, .int .i64 0, .int .u8 0, .int .u8 0, .int .u8 0, .int .u8 0, .int .u8 0]) ?_ 7 _ rfl; (with_reducible repeat (first | refine blk_drewN ?_ _ | refine blk_drew ?_ | refine blk_alloc ?_ _)); refine blk_put (cs := #[.int .i64 zan, .int .i64 zap, .int .u8 zar, .int .u8 zau, .int .u8 zaw, .int .u8 zay, .int .u8 0, .int .i64 0, .int .i64 0, .int .u8 0, .int .u8 0, .int .u8 0, .int .u8 0, .int .u8 0]) ?_ 6 _ rfl; (with_reducible repeat (first | refine blk_drewN ?_ _ | refine blk_drew ?_ | refine blk_alloc ?_ _)); refine blk_put (cs := #[.int .i64 zan, .int .i64 zap, .int .u8 zar, .int .u8 zau, .int .u8 zaw, .int .u8 0, .int .u8 0, .int .i64 0, .int .i64 0, .int .u8 0, .int .u8 0, .int .u8 0, .int .u8 0, .int .u8 0]) ?_ 5 _ rfl; (with_reducible repeat (first | refine blk_drewN ?_ _ | refine blk_drew ?_ | refine blk_alloc ?_ _)); refine blk_put (cs := #[.int .i64 zan, .int .i64 zap, .int .u8 zar, .int .u8 zau, .int .u8 0, .int .u8 0, .int .u8 0, .int .i64 0, .int .i64 0, .int .u8 0, .int .u8 0, .int .u8 0, .int .u8 0, .int .u8 0]) ?_ 4 _ rfl; (with_reducible repeat (first | refine blk_drewN ?_ _ | refine blk_drew ?_ | refine blk_alloc ?_ _)); refine blk_put (cs := #[.int .i64 zan, .int .i64 zap, .int .u8 zar, .int .u8 0, .int .u8 0, .int .u8 0, .int .u8 0, .int .i64 0, .int .i64 0, .int .u8 0, .int .u8 0, .int .u8 0, .int .u8 0, .int .u8 0]) ?_ 3 _ rfl; (with_reducible repeat (first | refine blk_drewN ?_ _ | refine blk_drew ?_ | refine blk_alloc ?_ _)); refine blk_put (cs := #[.int .i64 zan, .int .i64 zap, .int .u8 0, .int .u8 0, .int .u8 0, .int .u8 0, .int .u8 0, .int .i64 0, .int .i64 0, .int .u8 0, .int .u8 0, .int .u8 0, .int .u8 0, .int .u8 0]) ?_ 2 _ rfl; (with_reducible repeat (first | refine blk_drewN ?_ _ | refine blk_drew ?_ | refine blk_alloc ?_ _)); refine blk_put (cs := #[.int .i64 zan, .int .i64 0, .int .u8 0, .int .u8 0, .int .u8 0, .int .u8 0, .int .u8 0, .int .i64 0, .int .i64 0, .int .u8 0, .int .u8 0, .int .u8 0, .int .u8 0, .int .u8 0]) ?_ 1 _ rfl; (with_reducible repeat (first | refine blk_drewN ?_ _ | refine blk_drew ?_ | refine blk_alloc ?_ _)); refine blk_put (cs := #[.int .i64 0, .int .i64 0, .int .u8 0, .int .u8 0, .int .u8 0, .int .u8 0, .int .u8 0, .int .i64 0, .int .i64 0, .int .u8 0, .int .u8 0, .int .u8 0, .int .u8 0, .int .u8 0]) ?_ 0 _ rfl; (with_reducible repeat (first | refine blk_drewN ?_ _ | refine blk_drew ?_ | refine blk_alloc ?_ _)); exact zh.out⟩
                have n3_ : Aside0 (Below w.heap.size w ((((((((((((((w81.setCell ⟨ze, 0, none⟩ (.int .i64 zan)).setCell ⟨ze, 1, none⟩ (.int .i64 zap)).setCell ⟨ze, 2, none⟩ (.int .u8 zar)).setCell ⟨ze, 3, none⟩ (.int .u8 zau)).setCell ⟨ze, 4, none⟩ (.int .u8 zaw)).setCell ⟨ze, 5, none⟩ (.int .u8 zay)).setCell ⟨ze, 6, none⟩ (.int .u8 zbb)).setCell ⟨ze, 7, none⟩ (.int .i64 zbd)).setCell ⟨ze, 8, none⟩ (.int .i64 zbf)).setCell ⟨ze, 9, none⟩ (.int .u8 zbh)).setCell ⟨ze, 10, none⟩ (.int .u8 zbj)).setCell ⟨ze, 11, none⟩ (.int .u8 zbl)).setCell ⟨ze, 12, none⟩ (.int .u8 zbn)).setCell ⟨ze, 13, none⟩ (.int .u8 zbp))) := ⟨by with_reducible repeat (first | exact HB.out | apply sq_b | apply sq_n | apply sq_d | refine below_set ?_ zak.out | refine below_set ?_ zal.out | refine below_set ?_ GE281.out)⟩
                (try clear za)
                (try clear zb)
                (try clear zh)
                (try clear HB)
                generalize ((((((((((((((w81.setCell ⟨ze, 0, none⟩ (.int .i64 zan)).setCell ⟨ze, 1, none⟩ (.int .i64 zap)).setCell ⟨ze, 2, none⟩ (.int .u8 zar)).setCell ⟨ze, 3, none⟩ (.int .u8 zau)).setCell ⟨ze, 4, none⟩ (.int .u8 zaw)).setCell ⟨ze, 5, none⟩ (.int .u8 zay)).setCell ⟨ze, 6, none⟩ (.int .u8 zbb)).setCell ⟨ze, 7, none⟩ (.int .i64 zbd)).setCell ⟨ze, 8, none⟩ (.int .i64 zbf)).setCell ⟨ze, 9, none⟩ (.int .u8 zbh)).setCell ⟨ze, 10, none⟩ (.int .u8 zbj)).setCell ⟨ze, 11, none⟩ (.int .u8 zbl)).setCell ⟨ze, 12, none⟩ (.int .u8 zbn)).setCell ⟨ze, 13, none⟩ (.int .u8 zbp)) = w85 at n0_ n1_ n2_ n3_ ⊢
                have za := n0_
                have zb := n1_
                have zh := n2_
                have HB := n3_
                clear n0_ n1_ n2_ n3_
                have n0_ := sq_m (blk_drew za.out)
                have n1_ := sq_m (blk_drew zb.out)
                have n2_ := sq_m (blk_drew zh.out)
                have n3_ := sq_m (sq_d HB.out)
                clear za
                clear zb
                clear zh
                clear HB
                have za := n0_
                have zb := n1_
                have zh := n2_
                have HB := n3_
                clear n0_ n1_ n2_ n3_
                refine start_ (n := 18) (S := fun w' => w'.cell? ⟨ze, 0, none⟩ = some (.int .i64 zan) ∧ w'.cell? ⟨ze, 1, none⟩ = some (.int .i64 zap) ∧ w'.cell? ⟨ze, 2, none⟩ = some (.int .u8 zar) ∧ w'.cell? ⟨ze, 3, none⟩ = some (.int .u8 zau) ∧ w'.cell? ⟨ze, 4, none⟩ = some (.int .u8 zaw) ∧ w'.cell? ⟨ze, 5, none⟩ = some (.int .u8 zay) ∧ w'.cell? ⟨ze, 6, none⟩ = some (.int .u8 zbb) ∧ w'.cell? ⟨ze, 7, none⟩ = some (.int .i64 zbd) ∧ w'.cell? ⟨ze, 8, none⟩ = some (.int .i64 zbf) ∧ w'.cell? ⟨ze, 9, none⟩ = some (.int .u8 zbh) ∧ w'.cell? ⟨ze, 10, none⟩ = some (.int .u8 zbj) ∧ w'.cell? ⟨ze, 11, none⟩ = some (.int .u8 zbl) ∧ w'.cell? ⟨ze, 12, none⟩ = some (.int .u8 zbn) ∧ w'.cell? ⟨ze, 13, none⟩ = some (.int .u8 zbp) ∧ w'.cell? ⟨zc, 0, none⟩ = some (.int .i64 zj) ∧ w'.cell? ⟨zc, 1, none⟩ = some (.int .i64 zi) ∧ w'.cell? ⟨zc, 2, none⟩ = some (.int .u8 zk) ∧ w'.cell? ⟨zc, 3, none⟩ = some (.int .u8 zl) ∧ w'.cell? ⟨zc, 4, none⟩ = some (.int .u8 zn) ∧ w'.cell? ⟨zc, 5, none⟩ = some (.int .u8 zo) ∧ w'.cell? ⟨zc, 6, none⟩ = some (.int .u8 zp) ∧ w'.cell? ⟨zc, 7, none⟩ = some (.int .i64 zq) ∧ w'.cell? ⟨zc, 8, none⟩ = some (.int .i64 zm) ∧ w'.cell? ⟨zc, 9, none⟩ = some (.int .u8 zr) ∧ w'.cell? ⟨zc, 10, none⟩ = some (.int .u8 zs) ∧ w'.cell? ⟨zc, 11, none⟩ = some (.int .u8 zt) ∧ w'.cell? ⟨zc, 12, none⟩ = some (.int .u8 zu) ∧ w'.cell? ⟨zc, 13, none⟩ = some (.int .u8 zv)) (ds := []) mk32 (by kernel_rfl) rfl rfl ⟨(blk_cell zh.out 0).trans rfl, (blk_cell zh.out 1).trans rfl, (blk_cell zh.out 2).trans rfl, (blk_cell zh.out 3).trans rfl, (blk_cell zh.out 4).trans rfl, (blk_cell zh.out 5).trans rfl, (blk_cell zh.out 6).trans rfl, (blk_cell zh.out 7).trans rfl, (blk_cell zh.out 8).trans rfl, (blk_cell zh.out 9).trans rfl, (blk_cell zh.out 10).trans rfl, (blk_cell zh.out 11).trans rfl, (blk_cell zh.out 12).trans rfl, (blk_cell zh.out 13).trans rfl, (blk_cell za.out 0).trans rfl, (blk_cell za.out 1).trans rfl, (blk_cell za.out 2).trans rfl, (blk_cell za.out 3).trans rfl, (blk_cell za.out 4).trans rfl, (blk_cell za.out 5).trans rfl, (blk_cell za.out 6).trans rfl, (blk_cell za.out 7).trans rfl, (blk_cell za.out 8).trans rfl, (blk_cell za.out 9).trans rfl, (blk_cell za.out 10).trans rfl, (blk_cell za.out 11).trans rfl, (blk_cell za.out 12).trans rfl, (blk_cell za.out 13).trans rfl⟩ (fun hHeld => ?_); refine with_tabW shuttlelaw07_TrellisEdges.tab14 shuttlelaw07_TrellisEdges.bits14 (fun HT_ HW_ => ?_)
                generalize w85.drew = w86 at za zb zh HB hHeld ⊢
                refine pure_ (i := 0) (N := some 91) (v := ?_) (a' := ?_) mk33 rfl rfl (any_of HT_.out (by kernel_rfl)) (fun _ _ _ h => h) (Or.inl ⟨by rfl, ?_⟩) ?_ ?_; rotate_left; (intro w'; go_simp; with_reducible rfl); rotate_left; (simp only [Act.put, sq_a1, sq_a2, sq_a3, i64_w, i32_w]; rfl)
                refine pure_ (i := 1) (N := some 92) (v := ?_) (a' := ?_) mk34 rfl rfl (any_of HT_.out (by kernel_rfl)) (fun _ _ _ h => h) (Or.inl ⟨by rfl, ?_⟩) ?_ ?_; rotate_left; (intro w'; go_simp; with_reducible rfl); rotate_left; (simp only [Act.put, sq_a1, sq_a2, sq_a3, i64_w, i32_w]; rfl)
                refine pure_ (i := 2) (N := some 93) (v := ?_) (a' := ?_) mk35 rfl rfl (any_of HT_.out (by kernel_rfl)) (fun _ _ _ h => h) (Or.inl ⟨by rfl, ?_⟩) ?_ ?_; rotate_left; (intro w'; go_simp; with_reducible rfl); rotate_left; (simp only [Act.put, sq_a1, sq_a2, sq_a3, i64_w, i32_w]; rfl)
                refine pure_ (i := 3) (N := some 94) (v := ?_) (a' := ?_) mk36 rfl rfl (any_of HT_.out (by kernel_rfl)) (fun _ _ _ h => h) (Or.inl ⟨by rfl, ?_⟩) ?_ ?_; rotate_left; (intro w'; go_simp; with_reducible rfl); rotate_left; (simp only [Act.put, sq_a1, sq_a2, sq_a3, i64_w, i32_w]; rfl)
                refine pure_ (i := 5) (N := some 96) (v := ?_) (a' := ?_) mk37 rfl rfl (any_of HT_.out (by kernel_rfl)) (fun _ _ _ h => h) (Or.inl ⟨by rfl, ?_⟩) ?_ ?_; rotate_left; (intro w'; go_simp; with_reducible rfl); rotate_left; (simp only [Act.put, sq_a1, sq_a2, sq_a3, i64_w, i32_w]; rfl)
                refine pure_ (i := 6) (N := some 97) (v := ?_) (a' := ?_) mk38 rfl rfl (any_of HT_.out (by kernel_rfl)) (fun _ _ _ h => h) (Or.inl ⟨by rfl, ?_⟩) ?_ ?_; rotate_left; (intro w'; go_simp; with_reducible rfl); rotate_left; (simp only [Act.put, sq_a1, sq_a2, sq_a3, i64_w, i32_w]; rfl)
                refine take_ (i := 4) (N := some 95) (v := ?_) (a' := ?_) mk39 rfl rfl (take_ofW HT_.out HW_.out (by kernel_rfl)) (fun _ _ _ h => h) (Or.inl ⟨by rfl, ?_⟩) hHeld ?_ ?_
                rotate_left
                ·rintro w' ⟨s0, s1, s2, s3, s4, s5, s6, s7, s8, s9, s10, s11, s12, s13, s14, s15, s16, s17, s18, s19, s20, s21, s22, s23, s24, s25, s26, s27⟩
                 go_simp
                 with_reducible rfl
                rotate_left
                ·simp only [Act.put, sq_a1, sq_a2, sq_a3, i64_w, i32_w]
                 rfl
                refine take_ (i := 7) (N := some 98) (v := ?_) (a' := ?_) mk40 rfl rfl (take_ofW HT_.out HW_.out (by kernel_rfl)) (fun _ _ _ h => h) (Or.inl ⟨by rfl, ?_⟩) hHeld ?_ ?_
                rotate_left
                ·rintro w' ⟨s0, s1, s2, s3, s4, s5, s6, s7, s8, s9, s10, s11, s12, s13, s14, s15, s16, s17, s18, s19, s20, s21, s22, s23, s24, s25, s26, s27⟩
                 go_simp
                 with_reducible rfl
                rotate_left
                ·simp only [Act.put, sq_a1, sq_a2, sq_a3, i64_w, i32_w]
                 rfl
                refine pure_ (i := 8) (N := some 99) (v := ?_) (a' := ?_) mk41 rfl rfl (any_of HT_.out (by kernel_rfl)) (fun _ _ _ h => h) (Or.inl ⟨by rfl, ?_⟩) ?_ ?_; rotate_left; (intro w'; go_simp; with_reducible rfl); rotate_left; (simp only [Act.put, sq_a1, sq_a2, sq_a3, i64_w, i32_w]; rfl)
                refine pure_ (i := 9) (N := some 100) (v := ?_) (a' := ?_) mk42 rfl rfl (any_of HT_.out (by kernel_rfl)) (fun _ _ _ h => h) (Or.inl ⟨by rfl, ?_⟩) ?_ ?_; rotate_left; (intro w'; go_simp; with_reducible rfl); rotate_left; (simp only [Act.put, sq_a1, sq_a2, sq_a3, i64_w, i32_w]; rfl)
                refine pure_ (i := 10) (N := some 101) (v := ?_) (a' := ?_) mk43 rfl rfl (any_of HT_.out (by kernel_rfl)) (fun _ _ _ h => h) (Or.inl ⟨by rfl, ?_⟩) ?_ ?_; rotate_left; (intro w'; go_simp; with_reducible rfl); rotate_left; (simp only [Act.put, sq_a1, sq_a2, sq_a3, i64_w, i32_w]; rfl)
                refine pure_ (i := 12) (N := some 103) (v := ?_) (a' := ?_) mk44 rfl rfl (any_of HT_.out (by kernel_rfl)) (fun _ _ _ h => h) (Or.inl ⟨by rfl, ?_⟩) ?_ ?_; rotate_left; (intro w'; go_simp; with_reducible rfl); rotate_left; (simp only [Act.put, sq_a1, sq_a2, sq_a3, i64_w, i32_w]; rfl)
                refine pure_ (i := 13) (N := some 104) (v := ?_) (a' := ?_) mk45 rfl rfl (any_of HT_.out (by kernel_rfl)) (fun _ _ _ h => h) (Or.inl ⟨by rfl, ?_⟩) ?_ ?_; rotate_left; (intro w'; go_simp; with_reducible rfl); rotate_left; (simp only [Act.put, sq_a1, sq_a2, sq_a3, i64_w, i32_w]; rfl)
                refine take_ (i := 11) (N := some 102) (v := ?_) (a' := ?_) mk46 rfl rfl (take_ofW HT_.out HW_.out (by kernel_rfl)) (fun _ _ _ h => h) (Or.inl ⟨by rfl, ?_⟩) hHeld ?_ ?_
                rotate_left
                ·rintro w' ⟨s0, s1, s2, s3, s4, s5, s6, s7, s8, s9, s10, s11, s12, s13, s14, s15, s16, s17, s18, s19, s20, s21, s22, s23, s24, s25, s26, s27⟩
                 go_simp
                 with_reducible rfl
                rotate_left
                ·simp only [Act.put, sq_a1, sq_a2, sq_a3, i64_w, i32_w]
                 rfl
                refine take_ (i := 14) (N := some 105) (v := ?_) (a' := ?_) mk47 rfl rfl (take_ofW HT_.out HW_.out (by kernel_rfl)) (fun _ _ _ h => h) (Or.inl ⟨by rfl, ?_⟩) hHeld ?_ ?_
                rotate_left
                ·rintro w' ⟨s0, s1, s2, s3, s4, s5, s6, s7, s8, s9, s10, s11, s12, s13, s14, s15, s16, s17, s18, s19, s20, s21, s22, s23, s24, s25, s26, s27⟩
                 go_simp
                 with_reducible rfl
                rotate_left
                ·simp only [Act.put, sq_a1, sq_a2, sq_a3, i64_w, i32_w]
                 rfl
                refine pure_ (i := 15) (N := some 106) (v := ?_) (a' := ?_) mk48 rfl rfl (any_of HT_.out (by kernel_rfl)) (fun _ _ _ h => h) (Or.inl ⟨by rfl, ?_⟩) ?_ ?_; rotate_left; (intro w'; go_simp; with_reducible rfl); rotate_left; (simp only [Act.put, sq_a1, sq_a2, sq_a3, i64_w, i32_w]; rfl)
                refine pure_ (i := 16) (N := some 107) (v := ?_) (a' := ?_) mk49 rfl rfl (any_of HT_.out (by kernel_rfl)) (fun _ _ _ h => h) (Or.inl ⟨by rfl, ?_⟩) ?_ ?_; rotate_left; (intro w'; go_simp; with_reducible rfl); rotate_left; (simp only [Act.put, sq_a1, sq_a2, sq_a3, i64_w, i32_w]; rfl)
                refine pure_ (i := 17) (N := some 108) (v := ?_) (a' := ?_) mk50 rfl rfl (any_of HT_.out (by kernel_rfl)) (fun _ _ _ h => h) (Or.inl ⟨by rfl, ?_⟩) ?_ ?_; rotate_left; (intro w'; go_simp; with_reducible rfl); rotate_left; (simp only [Act.put, sq_a1, sq_a2, sq_a3, i64_w, i32_w]; rfl)
                refine done_ (done_of HT_.out (by kernel_rfl)) ?_
                try go_wp2
                go_roundg kj23
                case measure => have := HJ5.out; have := HK2.out; have := HJ23.out; omega
                case rel => exact ⟨(1 + 1), (by first | rfl | (simp; done) | (simp [*]; done)), H', ⟨by have := HJ5.out; have := HK2.out; have := HJ23.out; omega⟩, ⟨by (with_reducible repeat (first | refine blk_drewN ?_ _ | refine blk_drew ?_ | refine blk_alloc ?_ _)); exact za.out⟩, ⟨by (with_reducible repeat (first | refine blk_drewN ?_ _ | refine blk_drew ?_ | refine blk_alloc ?_ _)); exact zb.out⟩, ⟨by with_reducible repeat (first | exact HB.out | apply sq_b | apply sq_n | apply sq_d | refine below_set ?_ zak.out | refine below_set ?_ zal.out | refine below_set ?_ GE281.out)⟩⟩
              ·rw [if_neg c76] at H
               have c76b0 : (!(zan == zq) || (!(zap == zm) || (!(zar == zr) || ((!(zau == zs) || (!(zaw == zt) || (!(zay == zu) || (!(zbb == zv))))))))) = false := by simpa using c76
               clear c76
               have H' := sq_m H
               clear H
               have hnb87 := NB216_232.out
               have hnc87 := NB232_216.out
               have hcz88_0 : wc.cell? ⟨zc, 0, none⟩ = some (.int .i64 zj) := (blk_cell za.out 0).trans rfl
               have hcz88_1 : wc.cell? ⟨zc, 1, none⟩ = some (.int .i64 zi) := (blk_cell za.out 1).trans rfl
               have hcz88_2 : wc.cell? ⟨zc, 2, none⟩ = some (.int .u8 zk) := (blk_cell za.out 2).trans rfl
               have hcz88_3 : wc.cell? ⟨zc, 3, none⟩ = some (.int .u8 zl) := (blk_cell za.out 3).trans rfl
               have hcz88_4 : wc.cell? ⟨zc, 4, none⟩ = some (.int .u8 zn) := (blk_cell za.out 4).trans rfl
               have hcz88_5 : wc.cell? ⟨zc, 5, none⟩ = some (.int .u8 zo) := (blk_cell za.out 5).trans rfl
               have hcz88_6 : wc.cell? ⟨zc, 6, none⟩ = some (.int .u8 zp) := (blk_cell za.out 6).trans rfl
               have hcz88_7 : wc.cell? ⟨zc, 7, none⟩ = some (.int .i64 zq) := (blk_cell za.out 7).trans rfl
               have hcz88_8 : wc.cell? ⟨zc, 8, none⟩ = some (.int .i64 zm) := (blk_cell za.out 8).trans rfl
               have hcz88_9 : wc.cell? ⟨zc, 9, none⟩ = some (.int .u8 zr) := (blk_cell za.out 9).trans rfl
               have hcz88_10 : wc.cell? ⟨zc, 10, none⟩ = some (.int .u8 zs) := (blk_cell za.out 10).trans rfl
               have hcz88_11 : wc.cell? ⟨zc, 11, none⟩ = some (.int .u8 zt) := (blk_cell za.out 11).trans rfl
               have hcz88_12 : wc.cell? ⟨zc, 12, none⟩ = some (.int .u8 zu) := (blk_cell za.out 12).trans rfl
               have hcz88_13 : wc.cell? ⟨zc, 13, none⟩ = some (.int .u8 zv) := (blk_cell za.out 13).trans rfl
               have hfz88_0 := blk_frozen za.out 0
               have hfz88_1 := blk_frozen za.out 1
               have hfz88_2 := blk_frozen za.out 2
               have hfz88_3 := blk_frozen za.out 3
               have hfz88_4 := blk_frozen za.out 4
               have hfz88_5 := blk_frozen za.out 5
               have hfz88_6 := blk_frozen za.out 6
               have hfz88_7 := blk_frozen za.out 7
               have hfz88_8 := blk_frozen za.out 8
               have hfz88_9 := blk_frozen za.out 9
               have hfz88_10 := blk_frozen za.out 10
               have hfz88_11 := blk_frozen za.out 11
               have hfz88_12 := blk_frozen za.out 12
               have hfz88_13 := blk_frozen za.out 13
               try go_wp2_with (first | ((with_reducible refine gate_callee (f := 10) rfl ?_); refine goesL_ (some 88) rfl rfl Tryd.func10 (by kernel_rfl) rfl #[.int .i64 zm] rfl (by (try simp only [List.map_toArray, List.map_cons, List.map_nil]); first | done | rfl | (simp only [List.length_drop, List.length_take]; rfl)) ?_; (with_reducible refine (trellis_Into.calls zm zan zap zar zau zaw zay zbb zbd zbf zbh zbj zbl zbn zbp t280 _ A74.out).mono ?_); rintro e w89 ⟨rfl, hb⟩; refine ⟨_, rfl, ?_⟩; have n0_ := sq_m (blk_below (g := zc) (o := .cells #[.int .i64 zj, .int .i64 zi, .int .u8 zk, .int .u8 zl, .int .u8 zn, .int .u8 zo, .int .u8 zp, .int .i64 zq, .int .i64 zm, .int .u8 zr, .int .u8 zs, .int .u8 zt, .int .u8 zu, .int .u8 zv] 25 (0, 0)) (by (with_reducible repeat (first | refine blk_drewN ?_ _ | refine blk_drew ?_ | refine blk_alloc ?_ _)); exact za.out) hb); have n1_ := sq_m (blk_below (g := zf) (o := .cells #[.int .i64 zx, .int .i64 zw, .int .u8 zz, .int .u8 zaa, .int .u8 zab, .int .u8 zac, .int .u8 zad, .int .i64 zae, .int .i64 zy, .int .u8 zaf, .int .u8 zag, .int .u8 zah, .int .u8 zai, .int .u8 zaj] 25 (0, 0)) (by (with_reducible repeat (first | refine blk_drewN ?_ _ | refine blk_drew ?_ | refine blk_alloc ?_ _)); exact zb.out) hb); have n2_ := sq_m (below_step (by with_reducible repeat (first | exact HB.out | apply sq_b | apply sq_n | apply sq_d | refine below_set ?_ zak.out | refine below_set ?_ zal.out)) hb); clear za; clear zb; clear HB; have za := n0_; have zb := n1_; have HB := n2_; clear n0_ n1_ n2_; (try clear hb); (try clear hb2); (try clear hk); (try clear hi)) | ((with_reducible refine gate_dst (N := 9) rfl ?_); refine box_event ?hg (N := 9) ?hd (cs := #[.int .i64 0, .int .i64 0, .int .u8 0, .int .u8 0, .int .u8 0, .int .u8 0, .int .u8 0, .int .i64 0, .int .i64 0, .int .u8 0, .int .u8 0, .int .u8 0, .int .u8 0, .int .u8 0]) (t := 25) ?hr ?_; (case hd => rfl); (case hg => rfl); (case hr => first | (go_simp; done) | (go_simp; rfl)); intro ze hg w90 hbox hb; have n0_ := sq_m (blk_below (g := zc) (o := .cells #[.int .i64 zj, .int .i64 zi, .int .u8 zk, .int .u8 zl, .int .u8 zn, .int .u8 zo, .int .u8 zp, .int .i64 zq, .int .i64 zm, .int .u8 zr, .int .u8 zs, .int .u8 zt, .int .u8 zu, .int .u8 zv] 25 (0, 0)) (by (with_reducible repeat (first | refine blk_drewN ?_ _ | refine blk_drew ?_ | refine blk_alloc ?_ _)); exact za.out) hb); have n1_ := sq_m (blk_below (g := zf) (o := .cells #[.int .i64 zx, .int .i64 zw, .int .u8 zz, .int .u8 zaa, .int .u8 zab, .int .u8 zac, .int .u8 zad, .int .i64 zae, .int .i64 zy, .int .u8 zaf, .int .u8 zag, .int .u8 zah, .int .u8 zai, .int .u8 zaj] 25 (0, 0)) (by (with_reducible repeat (first | refine blk_drewN ?_ _ | refine blk_drew ?_ | refine blk_alloc ?_ _)); exact zb.out) hb); have n2_ := sq_m (below_step (by with_reducible repeat (first | exact HB.out | apply sq_b | apply sq_n | apply sq_d | refine below_set ?_ zak.out | refine below_set ?_ zal.out)) hb); have n3_ := sq_m (hbox); have n4_ := sq_m ((by rw [hg]; exact (below_size (by with_reducible repeat (first | exact HB.out | apply sq_b | apply sq_n | apply sq_d | refine below_set ?_ zak.out | refine below_set ?_ zal.out))) : w.heap.size ≤ ze)); have n5_ := sq_m ((by rw [hg]; exact (below_size (by with_reducible repeat (first | exact HB.out | apply sq_b | apply sq_n | apply sq_d | refine below_set ?_ zak.out | refine below_set ?_ zal.out))) : w.heap.size ≤ ze)); have n6_ := sq_m ((by rw [hg]; exact Nat.ne_of_lt (blk_lt (g := zc) (o := .cells #[.int .i64 zj, .int .i64 zi, .int .u8 zk, .int .u8 zl, .int .u8 zn, .int .u8 zo, .int .u8 zp, .int .i64 zq, .int .i64 zm, .int .u8 zr, .int .u8 zs, .int .u8 zt, .int .u8 zu, .int .u8 zv] 25 (0, 0)) (by (with_reducible repeat (first | refine blk_drewN ?_ _ | refine blk_drew ?_ | refine blk_alloc ?_ _)); exact za.out)) : zc ≠ ze)); have n7_ := sq_m ((by rw [hg]; exact Nat.ne_of_gt (blk_lt (g := zc) (o := .cells #[.int .i64 zj, .int .i64 zi, .int .u8 zk, .int .u8 zl, .int .u8 zn, .int .u8 zo, .int .u8 zp, .int .i64 zq, .int .i64 zm, .int .u8 zr, .int .u8 zs, .int .u8 zt, .int .u8 zu, .int .u8 zv] 25 (0, 0)) (by (with_reducible repeat (first | refine blk_drewN ?_ _ | refine blk_drew ?_ | refine blk_alloc ?_ _)); exact za.out)) : ze ≠ zc)); have n8_ := sq_m ((by rw [hg]; exact Nat.ne_of_lt (blk_lt (g := zf) (o := .cells #[.int .i64 zx, .int .i64 zw, .int .u8 zz, .int .u8 zaa, .int .u8 zab, .int .u8 zac, .int .u8 zad, .int .i64 zae, .int .i64 zy, .int .u8 zaf, .int .u8 zag, .int .u8 zah, .int .u8 zai, .int .u8 zaj] 25 (0, 0)) (by (with_reducible repeat (first | refine blk_drewN ?_ _ | refine blk_drew ?_ | refine blk_alloc ?_ _)); exact zb.out)) : zf ≠ ze)); have n9_ := sq_m ((by rw [hg]; exact Nat.ne_of_gt (blk_lt (g := zf) (o := .cells #[.int .i64 zx, .int .i64 zw, .int .u8 zz, .int .u8 zaa, .int .u8 zab, .int .u8 zac, .int .u8 zad, .int .i64 zae, .int .i64 zy, .int .u8 zaf, .int .u8 zag, .int .u8 zah, .int .u8 zai, .int .u8 zaj] 25 (0, 0)) (by (with_reducible repeat (first | refine blk_drewN ?_ _ | refine blk_drew ?_ | refine blk_alloc ?_ _)); exact zb.out)) : ze ≠ zf)); clear za; clear zb; clear HB; have za := n0_; have zb := n1_; have HB := n2_; have zh := n3_; have GW281 := n4_; have GE281 := n5_; have NB216_281 := n6_; have NB281_216 := n7_; have NB232_281 := n8_; have NB281_232 := n9_; clear n0_ n1_ n2_ n3_ n4_ n5_ n6_ n7_ n8_ n9_; clear hb hbox hg; have hnb91 := NB281_216.out; have hnc91 := NB216_281.out; have hnb92 := NB281_232.out; have hnc92 := NB232_281.out; have hcz93_0 : w90.cell? ⟨ze, 0, none⟩ = some (.int .i64 0) := (blk_cell zh.out 0).trans rfl; have hcz93_1 : w90.cell? ⟨ze, 1, none⟩ = some (.int .i64 0) := (blk_cell zh.out 1).trans rfl; have hcz93_2 : w90.cell? ⟨ze, 2, none⟩ = some (.int .u8 0) := (blk_cell zh.out 2).trans rfl; have hcz93_3 : w90.cell? ⟨ze, 3, none⟩ = some (.int .u8 0) := (blk_cell zh.out 3).trans rfl; have hcz93_4 : w90.cell? ⟨ze, 4, none⟩ = some (.int .u8 0) := (blk_cell zh.out 4).trans rfl; have hcz93_5 : w90.cell? ⟨ze, 5, none⟩ = some (.int .u8 0) := (blk_cell zh.out 5).trans rfl; have hcz93_6 : w90.cell? ⟨ze, 6, none⟩ = some (.int .u8 0) := (blk_cell zh.out 6).trans rfl; have hcz93_7 : w90.cell? ⟨ze, 7, none⟩ = some (.int .i64 0) := (blk_cell zh.out 7).trans rfl; have hcz93_8 : w90.cell? ⟨ze, 8, none⟩ = some (.int .i64 0) := (blk_cell zh.out 8).trans rfl; have hcz93_9 : w90.cell? ⟨ze, 9, none⟩ = some (.int .u8 0) := (blk_cell zh.out 9).trans rfl; have hcz93_10 : w90.cell? ⟨ze, 10, none⟩ = some (.int .u8 0) := (blk_cell zh.out 10).trans rfl; have hcz93_11 : w90.cell? ⟨ze, 11, none⟩ = some (.int .u8 0) := (blk_cell zh.out 11).trans rfl; have hcz93_12 : w90.cell? ⟨ze, 12, none⟩ = some (.int .u8 0) := (blk_cell zh.out 12).trans rfl; have hcz93_13 : w90.cell? ⟨ze, 13, none⟩ = some (.int .u8 0) := (blk_cell zh.out 13).trans rfl; have hfz93_0 := blk_frozen zh.out 0; have hfz93_1 := blk_frozen zh.out 1; have hfz93_2 := blk_frozen zh.out 2; have hfz93_3 := blk_frozen zh.out 3; have hfz93_4 := blk_frozen zh.out 4; have hfz93_5 := blk_frozen zh.out 5; have hfz93_6 := blk_frozen zh.out 6; have hfz93_7 := blk_frozen zh.out 7; have hfz93_8 := blk_frozen zh.out 8; have hfz93_9 := blk_frozen zh.out 9; have hfz93_10 := blk_frozen zh.out 10; have hfz93_11 := blk_frozen zh.out 11; have hfz93_12 := blk_frozen zh.out 12; have hfz93_13 := blk_frozen zh.out 13))
               have n0_ : Aside0 (((((((((((((((w90.setCell ⟨ze, 0, none⟩ (.int .i64 zan)).setCell ⟨ze, 1, none⟩ (.int .i64 zap)).setCell ⟨ze, 2, none⟩ (.int .u8 zar)).setCell ⟨ze, 3, none⟩ (.int .u8 zau)).setCell ⟨ze, 4, none⟩ (.int .u8 zaw)).setCell ⟨ze, 5, none⟩ (.int .u8 zay)).setCell ⟨ze, 6, none⟩ (.int .u8 zbb)).setCell ⟨ze, 7, none⟩ (.int .i64 zbd)).setCell ⟨ze, 8, none⟩ (.int .i64 zbf)).setCell ⟨ze, 9, none⟩ (.int .u8 zbh)).setCell ⟨ze, 10, none⟩ (.int .u8 zbj)).setCell ⟨ze, 11, none⟩ (.int .u8 zbl)).setCell ⟨ze, 12, none⟩ (.int .u8 zbn)).setCell ⟨ze, 13, none⟩ (.int .u8 zbp)).heap[zc]? = some (.cells #[.int .i64 zj, .int .i64 zi, .int .u8 zk, .int .u8 zl, .int .u8 zn, .int .u8 zo, .int .u8 zp, .int .i64 zq, .int .i64 zm, .int .u8 zr, .int .u8 zs, .int .u8 zt, .int .u8 zu, .int .u8 zv] 25 (0, 0))) := ⟨by (with_reducible repeat (first | refine blk_drewN ?_ _ | refine blk_drew ?_ | refine blk_alloc ?_ _)); refine blk_far ?_ NB216_281.out _; (with_reducible repeat (first | refine blk_drewN ?_ _ | refine blk_drew ?_ | refine blk_alloc ?_ _)); refine blk_far ?_ NB216_281.out _; (with_reducible repeat (first | refine blk_drewN ?_ _ | refine blk_drew ?_ | refine blk_alloc ?_ _)); refine blk_far ?_ NB216_281.out _; (with_reducible repeat (first | refine blk_drewN ?_ _ | refine blk_drew ?_ | refine blk_alloc ?_ _)); refine blk_far ?_ NB216_281.out _; (with_reducible repeat (first | refine blk_drewN ?_ _ | refine blk_drew ?_ | refine blk_alloc ?_ _)); refine blk_far ?_ NB216_281.out _; (with_reducible repeat (first | refine blk_drewN ?_ _ | refine blk_drew ?_ | refine blk_alloc ?_ _)); refine blk_far ?_ NB216_281.out _; (with_reducible repeat (first | refine blk_drewN ?_ _ | refine blk_drew ?_ | refine blk_alloc ?_ _)); refine blk_far ?_ NB216_281.out _; (with_reducible repeat (first | refine blk_drewN ?_ _ | refine blk_drew ?_ | refine blk_alloc ?_ _)); refine blk_far ?_ NB216_281.out _; (with_reducible repeat (first | refine blk_drewN ?_ _ | refine blk_drew ?_ | refine blk_alloc ?_ _)); refine blk_far ?_ NB216_281.out _; (with_reducible repeat (first | refine blk_drewN ?_ _ | refine blk_drew ?_ | refine blk_alloc ?_ _)); refine blk_far ?_ NB216_281.out _; (with_reducible repeat (first | refine blk_drewN ?_ _ | refine blk_drew ?_ | refine blk_alloc ?_ _)); refine blk_far ?_ NB216_281.out _; (with_reducible repeat (first | refine blk_drewN ?_ _ | refine blk_drew ?_ | refine blk_alloc ?_ _)); refine blk_far ?_ NB216_281.out _; (with_reducible repeat (first | refine blk_drewN ?_ _ | refine blk_drew ?_ | refine blk_alloc ?_ _)); refine blk_far ?_ NB216_281.out _; (with_reducible repeat (first | refine blk_drewN ?_ _ | refine blk_drew ?_ | refine blk_alloc ?_ _)); refine blk_far ?_ NB216_281.out _; (with_reducible repeat (first | refine blk_drewN ?_ _ | refine blk_drew ?_ | refine blk_alloc ?_ _)); exact za.out⟩
               have n1_ : Aside0 (((((((((((((((w90.setCell ⟨ze, 0, none⟩ (.int .i64 zan)).setCell ⟨ze, 1, none⟩ (.int .i64 zap)).setCell ⟨ze, 2, none⟩ (.int .u8 zar)).setCell ⟨ze, 3, none⟩ (.int .u8 zau)).setCell ⟨ze, 4, none⟩ (.int .u8 zaw)).setCell ⟨ze, 5, none⟩ (.int .u8 zay)).setCell ⟨ze, 6, none⟩ (.int .u8 zbb)).setCell ⟨ze, 7, none⟩ (.int .i64 zbd)).setCell ⟨ze, 8, none⟩ (.int .i64 zbf)).setCell ⟨ze, 9, none⟩ (.int .u8 zbh)).setCell ⟨ze, 10, none⟩ (.int .u8 zbj)).setCell ⟨ze, 11, none⟩ (.int .u8 zbl)).setCell ⟨ze, 12, none⟩ (.int .u8 zbn)).setCell ⟨ze, 13, none⟩ (.int .u8 zbp)).heap[zf]? = some (.cells #[.int .i64 zx, .int .i64 zw, .int .u8 zz, .int .u8 zaa, .int .u8 zab, .int .u8 zac, .int .u8 zad, .int .i64 zae, .int .i64 zy, .int .u8 zaf, .int .u8 zag, .int .u8 zah, .int .u8 zai, .int .u8 zaj] 25 (0, 0))) := ⟨by (with_reducible repeat (first | refine blk_drewN ?_ _ | refine blk_drew ?_ | refine blk_alloc ?_ _)); refine blk_far ?_ NB232_281.out _; (with_reducible repeat (first | refine blk_drewN ?_ _ | refine blk_drew ?_ | refine blk_alloc ?_ _)); refine blk_far ?_ NB232_281.out _; (with_reducible repeat (first | refine blk_drewN ?_ _ | refine blk_drew ?_ | refine blk_alloc ?_ _)); refine blk_far ?_ NB232_281.out _; (with_reducible repeat (first | refine blk_drewN ?_ _ | refine blk_drew ?_ | refine blk_alloc ?_ _)); refine blk_far ?_ NB232_281.out _; (with_reducible repeat (first | refine blk_drewN ?_ _ | refine blk_drew ?_ | refine blk_alloc ?_ _)); refine blk_far ?_ NB232_281.out _; (with_reducible repeat (first | refine blk_drewN ?_ _ | refine blk_drew ?_ | refine blk_alloc ?_ _)); refine blk_far ?_ NB232_281.out _; (with_reducible repeat (first | refine blk_drewN ?_ _ | refine blk_drew ?_ | refine blk_alloc ?_ _)); refine blk_far ?_ NB232_281.out _; (with_reducible repeat (first | refine blk_drewN ?_ _ | refine blk_drew ?_ | refine blk_alloc ?_ _)); refine blk_far ?_ NB232_281.out _; (with_reducible repeat (first | refine blk_drewN ?_ _ | refine blk_drew ?_ | refine blk_alloc ?_ _)); refine blk_far ?_ NB232_281.out _; (with_reducible repeat (first | refine blk_drewN ?_ _ | refine blk_drew ?_ | refine blk_alloc ?_ _)); refine blk_far ?_ NB232_281.out _; (with_reducible repeat (first | refine blk_drewN ?_ _ | refine blk_drew ?_ | refine blk_alloc ?_ _)); refine blk_far ?_ NB232_281.out _; (with_reducible repeat (first | refine blk_drewN ?_ _ | refine blk_drew ?_ | refine blk_alloc ?_ _)); refine blk_far ?_ NB232_281.out _; (with_reducible repeat (first | refine blk_drewN ?_ _ | refine blk_drew ?_ | refine blk_alloc ?_ _)); refine blk_far ?_ NB232_281.out _; (with_reducible repeat (first | refine blk_drewN ?_ _ | refine blk_drew ?_ | refine blk_alloc ?_ _)); refine blk_far ?_ NB232_281.out _; (with_reducible repeat (first | refine blk_drewN ?_ _ | refine blk_drew ?_ | refine blk_alloc ?_ _)); exact zb.out⟩
               have n2_ : Aside0 (((((((((((((((w90.setCell ⟨ze, 0, none⟩ (.int .i64 zan)).setCell ⟨ze, 1, none⟩ (.int .i64 zap)).setCell ⟨ze, 2, none⟩ (.int .u8 zar)).setCell ⟨ze, 3, none⟩ (.int .u8 zau)).setCell ⟨ze, 4, none⟩ (.int .u8 zaw)).setCell ⟨ze, 5, none⟩ (.int .u8 zay)).setCell ⟨ze, 6, none⟩ (.int .u8 zbb)).setCell ⟨ze, 7, none⟩ (.int .i64 zbd)).setCell ⟨ze, 8, none⟩ (.int .i64 zbf)).setCell ⟨ze, 9, none⟩ (.int .u8 zbh)).setCell ⟨ze, 10, none⟩ (.int .u8 zbj)).setCell ⟨ze, 11, none⟩ (.int .u8 zbl)).setCell ⟨ze, 12, none⟩ (.int .u8 zbn)).setCell ⟨ze, 13, none⟩ (.int .u8 zbp)).heap[ze]? = some (.cells #[.int .i64 zan, .int .i64 zap, .int .u8 zar, .int .u8 zau, .int .u8 zaw, .int .u8 zay, .int .u8 zbb, .int .i64 zbd, .int .i64 zbf, .int .u8 zbh, .int .u8 zbj, .int .u8 zbl, .int .u8 zbn, .int .u8 zbp] 25 (0, 0))) := ⟨by (with_reducible repeat (first | refine blk_drewN ?_ _ | refine blk_drew ?_ | refine blk_alloc ?_ _)); refine blk_put (cs := #[.int .i64 zan, .int .i64 zap, .int .u8 zar, .int .u8 zau, .int .u8 zaw, .int .u8 zay, .int .u8 zbb, .int .i64 zbd, .int .i64 zbf, .int .u8 zbh, .int .u8 zbj, .int .u8 zbl, .int .u8 zbn, .int .u8 0]) ?_ 13 _ rfl; (with_reducible repeat (first | refine blk_drewN ?_ _ | refine blk_drew ?_ | refine blk_alloc ?_ _)); refine blk_put (cs := #[.int .i64 zan, .int .i64 zap, .int .u8 zar, .int .u8 zau, .int .u8 zaw, .int .u8 zay, .int .u8 zbb, .int .i64 zbd, .int .i64 zbf, .int .u8 zbh, .int .u8 zbj, .int .u8 zbl, .int .u8 0, .int .u8 0]) ?_ 12 _ rfl; (with_reducible repeat (first | refine blk_drewN ?_ _ | refine blk_drew ?_ | refine blk_alloc ?_ _)); refine blk_put (cs := #[.int .i64 zan, .int .i64 zap, .int .u8 zar, .int .u8 zau, .int .u8 zaw, .int .u8 zay, .int .u8 zbb, .int .i64 zbd, .int .i64 zbf, .int .u8 zbh, .int .u8 zbj, .int .u8 0, .int .u8 0, .int .u8 0]) ?_ 11 _ rfl; (with_reducible repeat (first | refine blk_drewN ?_ _ | refine blk_drew ?_ | refine blk_alloc ?_ _)); refine blk_put (cs := #[.int .i64 zan, .int .i64 zap, .int .u8 zar, .int .u8 zau, .int .u8 zaw, .int .u8 zay, .int .u8 zbb, .int .i64 zbd, .int .i64 zbf, .int .u8 zbh, .int .u8 0, .int .u8 0, .int .u8 0, .int .u8 0]) ?_ 10 _ rfl; (with_reducible repeat (first | refine blk_drewN ?_ _ | refine blk_drew ?_ | refine blk_alloc ?_ _)); refine blk_put (cs := #[.int .i64 zan, .int .i64 zap, .int .u8 zar, .int .u8 zau, .int .u8 zaw, .int .u8 zay, .int .u8 zbb, .int .i64 zbd, .int .i64 zbf, .int .u8 0, .int .u8 0, .int .u8 0, .int .u8 0, .int .u8 0]) ?_ 9 _ rfl; (with_reducible repeat (first | refine blk_drewN ?_ _ | refine blk_drew ?_ | refine blk_alloc ?_ _)); refine blk_put (cs := #[.int .i64 zan, .int .i64 zap, .int .u8 zar, .int .u8 zau, .int .u8 zaw, .int .u8 zay, .int .u8 zbb, .int .i64 zbd, .int .i64 0, .int .u8 0, .int .u8 0, .int .u8 0, .int .u8 0, .int .u8 0]) ?_ 8 _ rfl; (with_reducible repeat (first | refine blk_drewN ?_ _ | refine blk_drew ?_ | refine blk_alloc ?_ _)); refine blk_put (cs := #[.int .i64 zan, .int .i64 zap, .int .u8 zar, .int .u8 zau, .int .u8 zaw, .int .u8 zay, .int .u8 zbb, .int .i64 0, .int .i64 0, .int .u8 0, .int .u8 0, .int .u8 0, .int .u8 0, .int .u8 0]) ?_ 7 _ rfl; (with_reducible repeat (first | refine blk_drewN ?_ _ | refine blk_drew ?_ | refine blk_alloc ?_ _)); refine blk_put (cs := #[.int .i64 zan, .int .i64 zap, .int .u8 zar, .int .u8 zau, .int .u8 zaw, .int .u8 zay, .int .u8 0, .int .i64 0, .int .i64 0, .int .u8 0, .int .u8 0, .int .u8 0, .int .u8 0, .int .u8 0]) ?_ 6 _ rfl; (with_reducible repeat (first | refine blk_drewN ?_ _ | refine blk_drew ?_ | refine blk_alloc ?_ _)); refine blk_put (cs := #[.int .i64 zan, .int .i64 zap, .int .u8 zar, .int .u8 zau, .int .u8 zaw, .int .u8 0, .int .u8 0, .int .i64 0, .int .i64 0, .int .u8 0, .int .u8 0, .int .u8 0, .int .u8 0, .int .u8 0]) ?_ 5 _ rfl; (with_reducible repeat (first | refine blk_drewN ?_ _ | refine blk_drew ?_ | refine blk_alloc ?_ _)); refine blk_put (cs := #[.int .i64 zan, .int .i64 zap, .int .u8 zar, .int .u8 zau, .int .u8 0, .int .u8 0, .int .u8 0, .int .i64 0, .int .i64 0, .int .u8 0, .int .u8 0, .int .u8 0, .int .u8 0, .int .u8 0]) ?_ 4 _ rfl; (with_reducible repeat (first | refine blk_drewN ?_ _ | refine blk_drew ?_ | refine blk_alloc ?_ _)); refine blk_put (cs := #[.int .i64 zan, .int .i64 zap, .int .u8 zar, .int .u8 0, .int .u8 0, .int .u8 0, .int .u8 0, .int .i64 0, .int .i64 0, .int .u8 0, .int .u8 0, .int .u8 0, .int .u8 0, .int .u8 0]) ?_ 3 _ rfl; (with_reducible repeat (first | refine blk_drewN ?_ _ | refine blk_drew ?_ | refine blk_alloc ?_ _)); refine blk_put (cs := #[.int .i64 zan, .int .i64 zap, .int .u8 0, .int .u8 0, .int .u8 0, .int .u8 0, .int .u8 0, .int .i64 0, .int .i64 0, .int .u8 0, .int .u8 0, .int .u8 0, .int .u8 0, .int .u8 0]) ?_ 2 _ rfl; (with_reducible repeat (first | refine blk_drewN ?_ _ | refine blk_drew ?_ | refine blk_alloc ?_ _)); refine blk_put (cs := #[.int .i64 zan, .int .i64 0, .int .u8 0, .int .u8 0, .int .u8 0, .int .u8 0, .int .u8 0, .int .i64 0, .int .i64 0, .int .u8 0, .int .u8 0, .int .u8 0, .int .u8 0, .int .u8 0]) ?_ 1 _ rfl; (with_reducible repeat (first | refine blk_drewN ?_ _ | refine blk_drew ?_ | refine blk_alloc ?_ _)); refine blk_put (cs := #[.int .i64 0, .int .i64 0, .int .u8 0, .int .u8 0, .int .u8 0, .int .u8 0, .int .u8 0, .int .i64 0, .int .i64 0, .int .u8 0, .int .u8 0, .int .u8 0, .int .u8 0, .int .u8 0]) ?_ 0 _ rfl; (with_reducible repeat (first | refine blk_drewN ?_ _ | refine blk_drew ?_ | refine blk_alloc ?_ _)); exact zh.out⟩
               have n3_ : Aside0 (Below w.heap.size w ((((((((((((((w90.setCell ⟨ze, 0, none⟩ (.int .i64 zan)).setCell ⟨ze, 1, none⟩ (.int .i64 zap)).setCell ⟨ze, 2, none⟩ (.int .u8 zar)).setCell ⟨ze, 3, none⟩ (.int .u8 zau)).setCell ⟨ze, 4, none⟩ (.int .u8 zaw)).setCell ⟨ze, 5, none⟩ (.int .u8 zay)).setCell ⟨ze, 6, none⟩ (.int .u8 zbb)).setCell ⟨ze, 7, none⟩ (.int .i64 zbd)).setCell ⟨ze, 8, none⟩ (.int .i64 zbf)).setCell ⟨ze, 9, none⟩ (.int .u8 zbh)).setCell ⟨ze, 10, none⟩ (.int .u8 zbj)).setCell ⟨ze, 11, none⟩ (.int .u8 zbl)).setCell ⟨ze, 12, none⟩ (.int .u8 zbn)).setCell ⟨ze, 13, none⟩ (.int .u8 zbp))) := ⟨by with_reducible repeat (first | exact HB.out | apply sq_b | apply sq_n | apply sq_d | refine below_set ?_ zak.out | refine below_set ?_ zal.out | refine below_set ?_ GE281.out)⟩
               (try clear za)
               (try clear zb)
               (try clear zh)
               (try clear HB)
               generalize ((((((((((((((w90.setCell ⟨ze, 0, none⟩ (.int .i64 zan)).setCell ⟨ze, 1, none⟩ (.int .i64 zap)).setCell ⟨ze, 2, none⟩ (.int .u8 zar)).setCell ⟨ze, 3, none⟩ (.int .u8 zau)).setCell ⟨ze, 4, none⟩ (.int .u8 zaw)).setCell ⟨ze, 5, none⟩ (.int .u8 zay)).setCell ⟨ze, 6, none⟩ (.int .u8 zbb)).setCell ⟨ze, 7, none⟩ (.int .i64 zbd)).setCell ⟨ze, 8, none⟩ (.int .i64 zbf)).setCell ⟨ze, 9, none⟩ (.int .u8 zbh)).setCell ⟨ze, 10, none⟩ (.int .u8 zbj)).setCell ⟨ze, 11, none⟩ (.int .u8 zbl)).setCell ⟨ze, 12, none⟩ (.int .u8 zbn)).setCell ⟨ze, 13, none⟩ (.int .u8 zbp)) = w94 at n0_ n1_ n2_ n3_ ⊢
               have za := n0_
               have zb := n1_
               have zh := n2_
               have HB := n3_
               clear n0_ n1_ n2_ n3_
               have n0_ := sq_m (blk_drew za.out)
               have n1_ := sq_m (blk_drew zb.out)
               have n2_ := sq_m (blk_drew zh.out)
               have n3_ := sq_m (sq_d HB.out)
               clear za
               clear zb
               clear zh
               clear HB
               have za := n0_
               have zb := n1_
               have zh := n2_
               have HB := n3_
               clear n0_ n1_ n2_ n3_
               refine start_ (n := 18) (S := fun w' => w'.cell? ⟨ze, 0, none⟩ = some (.int .i64 zan) ∧ w'.cell? ⟨ze, 1, none⟩ = some (.int .i64 zap) ∧ w'.cell? ⟨ze, 2, none⟩ = some (.int .u8 zar) ∧ w'.cell? ⟨ze, 3, none⟩ = some (.int .u8 zau) ∧ w'.cell? ⟨ze, 4, none⟩ = some (.int .u8 zaw) ∧ w'.cell? ⟨ze, 5, none⟩ = some (.int .u8 zay) ∧ w'.cell? ⟨ze, 6, none⟩ = some (.int .u8 zbb) ∧ w'.cell? ⟨ze, 7, none⟩ = some (.int .i64 zbd) ∧ w'.cell? ⟨ze, 8, none⟩ = some (.int .i64 zbf) ∧ w'.cell? ⟨ze, 9, none⟩ = some (.int .u8 zbh) ∧ w'.cell? ⟨ze, 10, none⟩ = some (.int .u8 zbj) ∧ w'.cell? ⟨ze, 11, none⟩ = some (.int .u8 zbl) ∧ w'.cell? ⟨ze, 12, none⟩ = some (.int .u8 zbn) ∧ w'.cell? ⟨ze, 13, none⟩ = some (.int .u8 zbp) ∧ w'.cell? ⟨zc, 0, none⟩ = some (.int .i64 zj) ∧ w'.cell? ⟨zc, 1, none⟩ = some (.int .i64 zi) ∧ w'.cell? ⟨zc, 2, none⟩ = some (.int .u8 zk) ∧ w'.cell? ⟨zc, 3, none⟩ = some (.int .u8 zl) ∧ w'.cell? ⟨zc, 4, none⟩ = some (.int .u8 zn) ∧ w'.cell? ⟨zc, 5, none⟩ = some (.int .u8 zo) ∧ w'.cell? ⟨zc, 6, none⟩ = some (.int .u8 zp) ∧ w'.cell? ⟨zc, 7, none⟩ = some (.int .i64 zq) ∧ w'.cell? ⟨zc, 8, none⟩ = some (.int .i64 zm) ∧ w'.cell? ⟨zc, 9, none⟩ = some (.int .u8 zr) ∧ w'.cell? ⟨zc, 10, none⟩ = some (.int .u8 zs) ∧ w'.cell? ⟨zc, 11, none⟩ = some (.int .u8 zt) ∧ w'.cell? ⟨zc, 12, none⟩ = some (.int .u8 zu) ∧ w'.cell? ⟨zc, 13, none⟩ = some (.int .u8 zv)) (ds := []) mk32 (by kernel_rfl) rfl rfl ⟨(blk_cell zh.out 0).trans rfl, (blk_cell zh.out 1).trans rfl, (blk_cell zh.out 2).trans rfl, (blk_cell zh.out 3).trans rfl, (blk_cell zh.out 4).trans rfl, (blk_cell zh.out 5).trans rfl, (blk_cell zh.out 6).trans rfl, (blk_cell zh.out 7).trans rfl, (blk_cell zh.out 8).trans rfl, (blk_cell zh.out 9).trans rfl, (blk_cell zh.out 10).trans rfl, (blk_cell zh.out 11).trans rfl, (blk_cell zh.out 12).trans rfl, (blk_cell zh.out 13).trans rfl, (blk_cell za.out 0).trans rfl, (blk_cell za.out 1).trans rfl, (blk_cell za.out 2).trans rfl, (blk_cell za.out 3).trans rfl, (blk_cell za.out 4).trans rfl, (blk_cell za.out 5).trans rfl, (blk_cell za.out 6).trans rfl, (blk_cell za.out 7).trans rfl, (blk_cell za.out 8).trans rfl, (blk_cell za.out 9).trans rfl, (blk_cell za.out 10).trans rfl, (blk_cell za.out 11).trans rfl, (blk_cell za.out 12).trans rfl, (blk_cell za.out 13).trans rfl⟩ (fun hHeld => ?_); refine with_tabW shuttlelaw07_TrellisEdges.tab14 shuttlelaw07_TrellisEdges.bits14 (fun HT_ HW_ => ?_)
               generalize w94.drew = w95 at za zb zh HB hHeld ⊢
               refine pure_ (i := 0) (N := some 91) (v := ?_) (a' := ?_) mk33 rfl rfl (any_of HT_.out (by kernel_rfl)) (fun _ _ _ h => h) (Or.inl ⟨by rfl, ?_⟩) ?_ ?_; rotate_left; (intro w'; go_simp; with_reducible rfl); rotate_left; (simp only [Act.put, sq_a1, sq_a2, sq_a3, i64_w, i32_w]; rfl)
               refine pure_ (i := 1) (N := some 92) (v := ?_) (a' := ?_) mk34 rfl rfl (any_of HT_.out (by kernel_rfl)) (fun _ _ _ h => h) (Or.inl ⟨by rfl, ?_⟩) ?_ ?_; rotate_left; (intro w'; go_simp; with_reducible rfl); rotate_left; (simp only [Act.put, sq_a1, sq_a2, sq_a3, i64_w, i32_w]; rfl)
               refine pure_ (i := 2) (N := some 93) (v := ?_) (a' := ?_) mk35 rfl rfl (any_of HT_.out (by kernel_rfl)) (fun _ _ _ h => h) (Or.inl ⟨by rfl, ?_⟩) ?_ ?_; rotate_left; (intro w'; go_simp; with_reducible rfl); rotate_left; (simp only [Act.put, sq_a1, sq_a2, sq_a3, i64_w, i32_w]; rfl)
               refine pure_ (i := 3) (N := some 94) (v := ?_) (a' := ?_) mk36 rfl rfl (any_of HT_.out (by kernel_rfl)) (fun _ _ _ h => h) (Or.inl ⟨by rfl, ?_⟩) ?_ ?_; rotate_left; (intro w'; go_simp; with_reducible rfl); rotate_left; (simp only [Act.put, sq_a1, sq_a2, sq_a3, i64_w, i32_w]; rfl)
               refine pure_ (i := 5) (N := some 96) (v := ?_) (a' := ?_) mk37 rfl rfl (any_of HT_.out (by kernel_rfl)) (fun _ _ _ h => h) (Or.inl ⟨by rfl, ?_⟩) ?_ ?_; rotate_left; (intro w'; go_simp; with_reducible rfl); rotate_left; (simp only [Act.put, sq_a1, sq_a2, sq_a3, i64_w, i32_w]; rfl)
               refine pure_ (i := 6) (N := some 97) (v := ?_) (a' := ?_) mk38 rfl rfl (any_of HT_.out (by kernel_rfl)) (fun _ _ _ h => h) (Or.inl ⟨by rfl, ?_⟩) ?_ ?_; rotate_left; (intro w'; go_simp; with_reducible rfl); rotate_left; (simp only [Act.put, sq_a1, sq_a2, sq_a3, i64_w, i32_w]; rfl)
               refine take_ (i := 4) (N := some 95) (v := ?_) (a' := ?_) mk39 rfl rfl (take_ofW HT_.out HW_.out (by kernel_rfl)) (fun _ _ _ h => h) (Or.inl ⟨by rfl, ?_⟩) hHeld ?_ ?_
               rotate_left
               ·rintro w' ⟨s0, s1, s2, s3, s4, s5, s6, s7, s8, s9, s10, s11, s12, s13, s14, s15, s16, s17, s18, s19, s20, s21, s22, s23, s24, s25, s26, s27⟩
                go_simp
                with_reducible rfl
               rotate_left
               ·simp only [Act.put, sq_a1, sq_a2, sq_a3, i64_w, i32_w]
                rfl
               refine take_ (i := 7) (N := some 98) (v := ?_) (a' := ?_) mk40 rfl rfl (take_ofW HT_.out HW_.out (by kernel_rfl)) (fun _ _ _ h => h) (Or.inl ⟨by rfl, ?_⟩) hHeld ?_ ?_
               rotate_left
               ·rintro w' ⟨s0, s1, s2, s3, s4, s5, s6, s7, s8, s9, s10, s11, s12, s13, s14, s15, s16, s17, s18, s19, s20, s21, s22, s23, s24, s25, s26, s27⟩
                go_simp
                with_reducible rfl
               rotate_left
               ·simp only [Act.put, sq_a1, sq_a2, sq_a3, i64_w, i32_w]
                rfl
               refine pure_ (i := 8) (N := some 99) (v := ?_) (a' := ?_) mk41 rfl rfl (any_of HT_.out (by kernel_rfl)) (fun _ _ _ h => h) (Or.inl ⟨by rfl, ?_⟩) ?_ ?_; rotate_left; (intro w'; go_simp; with_reducible rfl); rotate_left; (simp only [Act.put, sq_a1, sq_a2, sq_a3, i64_w, i32_w]; rfl)
               refine pure_ (i := 9) (N := some 100) (v := ?_) (a' := ?_) mk42 rfl rfl (any_of HT_.out (by kernel_rfl)) (fun _ _ _ h => h) (Or.inl ⟨by rfl, ?_⟩) ?_ ?_; rotate_left; (intro w'; go_simp; with_reducible rfl); rotate_left; (simp only [Act.put, sq_a1, sq_a2, sq_a3, i64_w, i32_w]; rfl)
               refine pure_ (i := 10) (N := some 101) (v := undef) (a' := ?_) mk43 rfl rfl (any_of HT_.out (by kernel_rfl)) (fun _ _ _ h => h) (Or.inr ⟨by rfl, rfl⟩) ?_ ?_
               rotate_left
               ·simp only [Act.put, sq_a1, sq_a2, sq_a3, i64_w, i32_w]
                rfl
               refine pure_ (i := 11) (N := some 102) (v := undef) (a' := ?_) mk51 rfl rfl (any_of HT_.out (by kernel_rfl)) (fun _ _ _ h => h) (Or.inr ⟨by rfl, rfl⟩) ?_ ?_
               rotate_left
               ·simp only [Act.put, sq_a1, sq_a2, sq_a3, i64_w, i32_w]
                rfl
               refine pure_ (i := 12) (N := some 103) (v := undef) (a' := ?_) mk52 rfl rfl (any_of HT_.out (by kernel_rfl)) (fun _ _ _ h => h) (Or.inr ⟨by rfl, rfl⟩) ?_ ?_
               rotate_left
               ·simp only [Act.put, sq_a1, sq_a2, sq_a3, i64_w, i32_w]
                rfl
               refine pure_ (i := 13) (N := some 104) (v := undef) (a' := ?_) mk46 rfl rfl (any_of HT_.out (by kernel_rfl)) (fun _ _ _ h => h) (Or.inr ⟨by rfl, rfl⟩) ?_ ?_
               rotate_left
               ·simp only [Act.put, sq_a1, sq_a2, sq_a3, i64_w, i32_w]
                rfl
               refine pure_ (i := 14) (N := some 105) (v := undef) (a' := ?_) mk47 rfl rfl (any_of HT_.out (by kernel_rfl)) (fun _ _ _ h => h) (Or.inr ⟨by rfl, rfl⟩) ?_ ?_
               rotate_left
               ·simp only [Act.put, sq_a1, sq_a2, sq_a3, i64_w, i32_w]
                rfl
               refine pure_ (i := 15) (N := some 106) (v := undef) (a' := ?_) mk48 rfl rfl (any_of HT_.out (by kernel_rfl)) (fun _ _ _ h => h) (Or.inr ⟨by rfl, rfl⟩) ?_ ?_
               rotate_left
               ·simp only [Act.put, sq_a1, sq_a2, sq_a3, i64_w, i32_w]
                rfl
               refine pure_ (i := 16) (N := some 107) (v := ?_) (a' := ?_) mk49 rfl rfl (any_of HT_.out (by kernel_rfl)) (fun _ _ _ h => h) (Or.inl ⟨by rfl, ?_⟩) ?_ ?_; rotate_left; (intro w'; go_simp; with_reducible rfl); rotate_left; (simp only [Act.put, sq_a1, sq_a2, sq_a3, i64_w, i32_w]; rfl)
               refine pure_ (i := 17) (N := some 108) (v := ?_) (a' := ?_) mk50 rfl rfl (any_of HT_.out (by kernel_rfl)) (fun _ _ _ h => h) (Or.inl ⟨by rfl, ?_⟩) ?_ ?_; rotate_left; (intro w'; go_simp; with_reducible rfl); rotate_left; (simp only [Act.put, sq_a1, sq_a2, sq_a3, i64_w, i32_w]; rfl)
               refine done_ (done_of HT_.out (by kernel_rfl)) ?_
               try go_wp2
               go_roundg kj23
               case measure => have := HJ5.out; have := HK2.out; have := HJ23.out; omega
               case rel => exact ⟨(1 + 1), (by first | rfl | (simp; done) | (simp [*]; done)), H', ⟨by have := HJ5.out; have := HK2.out; have := HJ23.out; omega⟩, ⟨by (with_reducible repeat (first | refine blk_drewN ?_ _ | refine blk_drew ?_ | refine blk_alloc ?_ _)); exact za.out⟩, ⟨by (with_reducible repeat (first | refine blk_drewN ?_ _ | refine blk_drew ?_ | refine blk_alloc ?_ _)); exact zb.out⟩, ⟨by with_reducible repeat (first | exact HB.out | apply sq_b | apply sq_n | apply sq_d | refine below_set ?_ zak.out | refine below_set ?_ zal.out | refine below_set ?_ GE281.out)⟩⟩
             ·rw [if_neg c75] at H
              have c75b0 : (t280 == 0) = false := beq_eq_false_iff_ne.mpr c75
              have c75b1 : (t280 != 0) = true := bne_iff_ne.mpr c75
              exact absurd H (by simp)
            ·rw [if_neg c73] at H
             clear c73
             exact absurd H (by simp)
       ·rw [if_neg c23] at H
        have c23b0 : decide (x8_2 < 2) = false := decide_eq_false c23
        clear c23
        by_cases c96 : zas = 0
        ·rw [if_pos c96] at H
         have c96b0 : (zas == 0) = true := beq_iff_eq.mpr c96
         have c96b1 : (zas != 0) = false := bne_eq_false_iff_eq.mpr c96
         clear c96
         obtain rfl := Option.some.inj H
         go_wp2
         go_ret
         exact ⟨by first | rfl | (simp [errW_none, errW_some] <;> rfl) | (simp [*, errW_none, errW_some] <;> rfl), by with_reducible repeat (first | exact HB.out | apply sq_b | apply sq_n | apply sq_d | refine below_set ?_ zak.out | refine below_set ?_ zal.out)⟩
        ·rw [if_neg c96] at H
         exact absurd H (by simp)
 ·replace c5 := Bool.eq_false_iff.mpr c5
  subst c5
  have H1 : (none) = some r := by rw [if_neg (show ¬ (false = true) by decide)] at H; exact H
  clear H
  have H := H1
  clear H1
  exact absurd H (by simp)

/-- THE ONE PURE STATEMENT of shuttlelaw07_TrellisEdges: yours. -/
def shuttlelaw07_TrellisEdges.Pure : Prop := ∀ (a0 : Int), (Lit.int .i64 a0).wf = true → ∃ k, shuttlelaw07_TrellisEdges.f k a0 = some true
theorem shuttlelaw07_TrellisEdges.walk (P : shuttlelaw07_TrellisEdges.Pure) (a0 : Int) (w : World) (w0 : (Lit.int .i64 a0).wf = true) (hT_ : TP w := by first | assumption | exact TP_of (by assumption : TP _) (by repeat (first | (with_reducible first | apply below_alloc | apply pw_below_drewN | apply below_drew1 | refine below_set ?_ (Aside0.out (by assumption))) | exact Aside0.out (by assumption) | exact Below.refl _ _))) :
    Calls Tryd.prog 3 #[.int .i64 a0] w fun e w' => e = .returned (.bool true) ∧ Below w.heap.size w w' := by
  obtain ⟨k, h⟩ := P a0 w0
  refine (shuttlelaw07_TrellisEdges.calls k a0 true w h).mono ?_
  rintro e w' ⟨rfl, hd⟩
  exact ⟨rfl, hd⟩

end Go.Proofs.YtmajbcglpcagoaaDoor.X
