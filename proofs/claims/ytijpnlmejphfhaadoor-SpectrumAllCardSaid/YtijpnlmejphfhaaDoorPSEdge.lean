/- The edges of the trellis in plain words. No condition. -/
import Derived.Test.YtijpnlmejphfhaaDoorPSWeigh
import Derived.Test.YtijpnlmejphfhaaDoorP10
import Derived.Test.YtijpnlmejphfhaaDoorP11
import Derived.Test.YtijpnlmejphfhaaDoorP12
import Derived.Test.YtijpnlmejphfhaaDoorP13
import Derived.Test.YtijpnlmejphfhaaDoorP14
import Derived.Test.YtijpnlmejphfhaaDoorP15
import Derived.Test.YtijpnlmejphfhaaDoorP5
import Derived.Test.YtijpnlmejphfhaaDoorP9
namespace Go.Proofs.YtijpnlmejphfhaaDoor.P
open Go Go.Proofs Go.RowKit Go.Proofs.YtijpnlmejphfhaaDoorW.PrintWords Go.Proofs.YtijpnlmejphfhaaDoorW.PrintLast Go.Proofs.YtijpnlmejphfhaaDoorW.PrintMore
set_option linter.unusedVariables false

def par (n : Nat) : Nat := (n % 2 + n / 2 % 2 + n / 4 % 2 + n / 8 % 2 + n / 16 % 2 + n / 32 % 2 + n / 64 % 2) % 2
def tapN : Nat → Nat
  | 0 => 79
  | 1 => 87
  | 2 => 109
  | _ => 121
/-- What stream j tells of state s and bit i. -/
def ob (s i j : Nat) : Int := (par ((i * 64 + s) &&& tapN j) : Nat)
theorem ob_bit (s i j : Nat) : ob s i j = 0 ∨ ob s i j = 1 := by
  unfold ob par
  generalize (((i * 64 + s) &&& tapN j) % 2 + ((i * 64 + s) &&& tapN j) / 2 % 2 + ((i * 64 + s) &&& tapN j) / 4 % 2 + ((i * 64 + s) &&& tapN j) / 8 % 2 + ((i * 64 + s) &&& tapN j) / 16 % 2 + ((i * 64 + s) &&& tapN j) / 32 % 2 + ((i * 64 + s) &&& tapN j) / 64 % 2) = m
  omega
def outIs (n : Nat) : Bool := decide (conv_out.f (n : Int) = some (ob (n % 64) (n / 64) 0, ob (n % 64) (n / 64) 1, ob (n % 64) (n / 64) 2, ob (n % 64) (n / 64) 3))
theorem out_all : (List.range 128).all outIs = true := by decide +kernel
def wordIs (n : Nat) : Bool := decide (conv_word.f ((n % 64 : Nat) : Int) ((n / 64 : Nat) : Int) = some (n : Int))
theorem word_all : (List.range 128).all wordIs = true := by decide +kernel
theorem edge_f (s i : Nat) (hs : s < 64) (hi : i < 2) : trellis_edge.f (s : Int) (i : Int) = some ((s : Int), ((32 * i + s / 2 : Nat) : Int), (i : Int), ob s i 0, ob s i 1, ob s i 2, ob s i 3, 0) := by
  have hn : 64 * i + s < 128 := by omega
  have e1 := of_decide_eq_true (List.all_eq_true.1 out_all (64 * i + s) (List.mem_range.2 hn))
  have e2 := of_decide_eq_true (List.all_eq_true.1 word_all (64 * i + s) (List.mem_range.2 hn))
  have q1 : (64 * i + s) % 64 = s := by omega
  have q2 : (64 * i + s) / 64 = i := by omega
  rw [q1, q2] at e1 e2
  have e3 : conv_right.f (s : Int) (i : Int) = some true := by
    unfold conv_right.f
    rw [if_pos (by omega), if_pos (by omega), decide_eq_true (by omega)]
  have e4 : wrap64 (((64 * i + s : Nat) : Int) / 2) = ((32 * i + s / 2 : Nat) : Int) := by unfold wrap64; omega
  unfold trellis_edge.f conv_Out.f conv_Next.f
  rw [e3]
  simp only [Option.bind_some, if_true, e2, e1, e4]
theorem from_f (s : Nat) (h : s < 64) : trellis_From.f (s : Int) = some ((s : Int), ((s / 2 : Nat) : Int), 0, ob s 0 0, ob s 0 1, ob s 0 2, ob s 0 3, (s : Int), ((32 + s / 2 : Nat) : Int), 1, ob s 1 0, ob s 1 1, ob s 1 2, ob s 1 3, 0) := by
  have e0 := edge_f s 0 h (by decide)
  have e1 := edge_f s 1 h (by decide)
  have f0 : trellis_edge.f (s : Int) 0 = some ((s : Int), ((s / 2 : Nat) : Int), 0, ob s 0 0, ob s 0 1, ob s 0 2, ob s 0 3, 0) := by
    have q : (32 * 0 + s / 2 : Nat) = s / 2 := by omega
    rw [← q]; exact e0
  have f1 : trellis_edge.f (s : Int) 1 = some ((s : Int), ((32 + s / 2 : Nat) : Int), 1, ob s 1 0, ob s 1 1, ob s 1 2, ob s 1 3, 0) := by
    have q : (32 * 1 + s / 2 : Nat) = 32 + s / 2 := by omega
    rw [← q]; exact e1
  unfold trellis_From.f trellis_two.f
  rw [f0, f1]
  simp only [Option.bind_some, if_true]
theorem o4_ob (s i : Nat) : ∀ j, o4 (ob s i 0) (ob s i 1) (ob s i 2) (ob s i 3) j = 0 ∨ o4 (ob s i 0) (ob s i 1) (ob s i 2) (ob s i 3) j = 1 := by
  intro j
  match j with
  | 0 => exact ob_bit s i 0
  | 1 => exact ob_bit s i 1
  | 2 => exact ob_bit s i 2
  | j + 3 => exact ob_bit s i 3
/-- What the edge of state s and bit i weighs at a step. -/
def ew (W : Nat → Int) (s i t : Nat) : Int := wsum W (o4 (ob s i 0) (ob s i 1) (ob s i 2) (ob s i 3)) t 4
theorem ew_in {W : Nat → Int} (hW : ∀ v, v < 4 → 0 ≤ W v ∧ W v ≤ 7) (s i t : Nat) : 0 ≤ ew W s i t ∧ ew W s i t ≤ 28 := by
  have := wsum_in hW (o4_ob s i) t 4
  unfold ew; omega
end Go.Proofs.YtijpnlmejphfhaaDoor.P
