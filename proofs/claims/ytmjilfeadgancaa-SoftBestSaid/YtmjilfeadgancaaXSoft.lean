/- What the functions of package soft (and of its reference) come to, in plain words. No condition. -/
import Derived.Test.YtmjilfeadgancaaXPlain
import Derived.Test.YtmjilfeadgancaaX1
import Derived.Test.YtmjilfeadgancaaX12
import Derived.Test.YtmjilfeadgancaaX13
import Derived.Test.YtmjilfeadgancaaX14
import Derived.Test.YtmjilfeadgancaaX2
namespace Go.Proofs.Ytmjilfeadgancaa.X
open Go.RowKit Go.Proofs.YtmjilfeadgancaaW.PrintWords Go.Proofs.YtmjilfeadgancaaW.PrintLast Go.Proofs.YtmjilfeadgancaaW.PrintMore
set_option linter.unusedVariables false

def cl (n : Int) : Int := if n > 31 then 31 else if n < -31 then -31 else n
theorem cl_in (n : Int) : -31 ≤ cl n ∧ cl n ≤ 31 := by unfold cl; split <;> (try split) <;> omega
theorem clip_f (n : Int) : soft_Clip.f n = some (cl n) := by
  unfold soft_Clip.f cl mx mn
  congr 1
  repeat' split
  all_goals omega
theorem rclip_f (n : Int) : shuttleref08_Clip.f n = some (cl n) := by
  unfold shuttleref08_Clip.f cl
  repeat' split
  all_goals rfl
theorem add_f (a b : Int) : soft_Add.f a b = some (cl (cl a + cl b)) := by
  unfold soft_Add.f
  have ha := cl_in a
  have hb := cl_in b
  rw [clip_f, clip_f]
  simp only [Option.bind_some]
  rw [clip_f, wrap_in (by omega) (by omega)]
  rfl
theorem radd_f (a b : Int) : shuttleref08_Add.f a b = some (cl (cl a + cl b)) := by
  unfold shuttleref08_Add.f
  have ha := cl_in a
  have hb := cl_in b
  rw [rclip_f, rclip_f]
  simp only [Option.bind_some]
  rw [rclip_f, wrap_in (by omega) (by omega)]
  rfl
theorem sure_f (k : Nat) (hk : 12 ≤ k) : shuttlelaw08_sure.f k = some true :=
  at_rounds (fun k => shuttlelaw08_sure.mono k) hk (by decide +kernel : shuttlelaw08_sure.f 12 = some true)

end Go.Proofs.Ytmjilfeadgancaa.X
