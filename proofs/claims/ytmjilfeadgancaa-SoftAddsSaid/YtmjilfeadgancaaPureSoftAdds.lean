/- SoftAdds: of all numbers the clip and the sum are those of the chapter, the sum is the same in either order, and a bit's soft value is told; no condition. -/
import Derived.Test.YtmjilfeadgancaaXSoft
import Derived.Test.YtmjilfeadgancaaX16
namespace Go.Proofs.Ytmjilfeadgancaa.Pure
open Go.RowKit Go.Proofs.Ytmjilfeadgancaa.X Go.Proofs.YtmjilfeadgancaaW.PrintWords Go.Proofs.YtmjilfeadgancaaW.PrintLast Go.Proofs.YtmjilfeadgancaaW.PrintMore

theorem SoftAdds : shuttlelaw08_SoftAdds.Pure := by
  intro a b c _ _ _
  refine ⟨20, ?_⟩
  unfold shuttlelaw08_SoftAdds.f
  rw [sure_f 20 (by omega)]
  simp only [Option.bind_some, if_true]
  rw [clip_f, rclip_f, add_f, radd_f, add_f, Int.add_comm (cl b) (cl a)]
  simp only [Option.bind_some, if_true]
  unfold soft_Of.f shuttleref08_Of.f
  by_cases h : c = 0
  · rw [if_pos h]; rfl
  · rw [if_neg h]; rfl

end Go.Proofs.Ytmjilfeadgancaa.Pure
