-- Made by xprint.py (an own driver round the kit's print.py), with contracts of this session's own. Lean checks it.
import Derived.Test.YtmjilfeadgancaaDoorX0
namespace Go.Proofs.YtmjilfeadgancaaDoor.X
open Go.RowKit Go.Proofs.YtmjilfeadgancaaDoorW.PrintWords Go.Proofs.YtmjilfeadgancaaDoorW.PrintLast Go.Proofs.YtmjilfeadgancaaDoorW.PrintMore
attribute [local go_sem] max2_int min2_int max_two min_two max_three min_three max_four min_four   -- for this text's walks alone
set_option linter.unusedVariables false
set_option linter.unusedSimpArgs false

theorem eqA22 (d : Nat) (w : World) (x0 y0 : Int) (x1 y1 : Int) (x2 y2 : Int) (x3 y3 : Int) :
    (Op.equalIn (d + 2) 22 (.agg #[.int .u8 x0, .int .u8 x1, .int .u8 x2, .int .u8 x3]) (.agg #[.int .u8 y0, .int .u8 y1, .int .u8 y2, .int .u8 y3])).run Tryd.prog w = .ok (x0 == y0 && (x1 == y1 && (x2 == y2 && (x3 == y3)))) w := by
  refine eqAr_of Tryd.underlying22 (by kernel_rfl) (c := 1) (by kernel_rfl) (is := [0, 1, 2, 3]) rfl ?_
  refine eqi_cons (by first | (go_simp; rfl) | (go_simp; done) | kernel_rfl) (by first | (go_simp; rfl) | (go_simp; done) | kernel_rfl) (by go_simp) ?_
  refine eqi_cons (by first | (go_simp; rfl) | (go_simp; done) | kernel_rfl) (by first | (go_simp; rfl) | (go_simp; done) | kernel_rfl) (by go_simp) ?_
  refine eqi_cons (by first | (go_simp; rfl) | (go_simp; done) | kernel_rfl) (by first | (go_simp; rfl) | (go_simp; done) | kernel_rfl) (by go_simp) ?_
  exact eqi_last (by first | (go_simp; rfl) | (go_simp; done) | kernel_rfl) (by first | (go_simp; rfl) | (go_simp; done) | kernel_rfl) (by go_simp)
end Go.Proofs.YtmjilfeadgancaaDoor.X
