/- An array of rows, an element by its place. No condition. -/
import Derived.Test.YtijpnlmejphfhaaDoorPSBegin
namespace Go.Proofs.YtijpnlmejphfhaaDoor.P
open Go Go.Proofs Go.RowKit Go.Proofs.YtijpnlmejphfhaaDoorW.PrintWords Go.Proofs.YtijpnlmejphfhaaDoorW.PrintLast Go.Proofs.YtijpnlmejphfhaaDoorW.PrintMore
set_option linter.unusedVariables false
theorem len50 : Tryd.prog.arrayLen 50 = 64 := by kernel_rfl
theorem el50 : Tryd.prog.elem 50 = 24 := by kernel_rfl
theorem arr50 : Tryd.prog.underlying 50 = some (.array (Tryd.prog.arrayLen 50) (Tryd.prog.elem 50)) := by kernel_rfl
theorem size24 (w : World) : (sizeOf 24).run Tryd.prog w = .ok 1 w := by go_simp
theorem idx50 {WS : Array Value} {i : Nat} {b N : Nat} (hi : i < 64) (h : WS[i]? = some (sl b N)) (w : World) : (Instr.index 50 (.agg WS) (.int .i64 (i : Int))).run Tryd.prog w = .ok (sl b N) w := by
  rw [run_index_arr w 50 WS .i64 (i : Int) arr50, len50, el50, if_pos (by omega), size24]
  simp only [Result.andThen_ok, Int.toNat_natCast, Nat.mul_one]
  go_simp
theorem len78 : Tryd.prog.arrayLen 78 = 2 := by kernel_rfl
theorem el78 : Tryd.prog.elem 78 = 77 := by kernel_rfl
theorem arr78 : Tryd.prog.underlying 78 = some (.array (Tryd.prog.arrayLen 78) (Tryd.prog.elem 78)) := by kernel_rfl
theorem size77 (w : World) : (sizeOf 77).run Tryd.prog w = .ok 7 w := by go_simp
theorem agg77 (w : World) : (isAgg 77).run Tryd.prog w = .ok true w := by go_simp
theorem idx78_0 (x0 x1 x2 x3 x4 x5 x6 x7 x8 x9 x10 x11 x12 x13 : Value) (w : World) : (Instr.index 78 (.agg #[x0, x1, x2, x3, x4, x5, x6, x7, x8, x9, x10, x11, x12, x13]) (.int .i64 0)).run Tryd.prog w = .ok (.agg #[x0, x1, x2, x3, x4, x5, x6]) w := by
  rw [run_index_arr w 78 _ .i64 0 arr78, len78, el78, if_pos (by omega), size77]
  simp only [Result.andThen_ok, part, Sem.run_bind, agg77, if_true, size77]
  rfl
theorem idx78_1 (x0 x1 x2 x3 x4 x5 x6 x7 x8 x9 x10 x11 x12 x13 : Value) (w : World) : (Instr.index 78 (.agg #[x0, x1, x2, x3, x4, x5, x6, x7, x8, x9, x10, x11, x12, x13]) (.int .i64 1)).run Tryd.prog w = .ok (.agg #[x7, x8, x9, x10, x11, x12, x13]) w := by
  rw [run_index_arr w 78 _ .i64 1 arr78, len78, el78, if_pos (by omega), size77]
  simp only [Result.andThen_ok, part, Sem.run_bind, agg77, if_true, size77]
  rfl
end Go.Proofs.YtijpnlmejphfhaaDoor.P
