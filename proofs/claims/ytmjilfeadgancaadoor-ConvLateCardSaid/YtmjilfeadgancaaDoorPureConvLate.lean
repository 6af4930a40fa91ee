/- ConvLate's pure statement: of a list behind noughts the code is that of the list behind four times as many noughts. No condition. -/
import Derived.Test.YtmjilfeadgancaaDoorXConv2
import Derived.Test.YtmjilfeadgancaaDoorXStr
import Derived.Test.YtmjilfeadgancaaDoorXFew
import Derived.Test.YtmjilfeadgancaaDoorX27
namespace Go.Proofs.YtmjilfeadgancaaDoor.Pure
open Go.RowKit Go.Proofs.YtmjilfeadgancaaDoor.X Go.Proofs.YtmjilfeadgancaaDoorW.PrintWords Go.Proofs.YtmjilfeadgancaaDoorW.PrintLast Go.Proofs.YtmjilfeadgancaaDoorW.PrintMore
set_option linter.unusedVariables false

theorem toList_append (a b : ByteArray) : (a ++ b).toList = a.toList ++ b.toList := by
  rw [toList_data, toList_data, toList_data, ByteArray.data_append, Array.toList_append]
theorem str_size (l : List Int) : (strOfNums l).size = l.length := by
  rw [← ByteArray.size_data, ← Array.length_toList, strOfNums_data]; simp
theorem ConvLate : shuttlelaw06_ConvLate.Pure := by
  intro l0 a1 m0 _ w0 w1
  refine ⟨1000, ?_⟩
  have p0 : 0 ≤ IntKind.u64.wrap a1 := by rw [IntKind.wrap_u64]; omega
  have b0 : Int.tmod (IntKind.u64.wrap a1) 20 = IntKind.u64.wrap a1 % 20 := Int.tmod_eq_emod_of_nonneg p0
  obtain ⟨n, hn⟩ := Int.eq_ofNat_of_zero_le (show 0 ≤ IntKind.u64.wrap a1 % 20 by omega)
  have hn20 : n < 20 := by omega
  unfold shuttlelaw06_ConvLate.f
  rw [b0, hn]
  rw [show shuttleref01_Few.f 1000 l0 60 = some (few l0 60) from few_f l0 (u8_of_wf w0) 60 (by omega) 1000 (by omega), Option.bind_some]
  have hl := few_length l0 60
  have hf : ∀ x ∈ few l0 60, isb x := fun x hx => few_bit x hx
  generalize few l0 60 = l at *
  have e1 : wrap64 ((n : Nat) : Int) = (n : Int) := wrap_in (by omega) (by omega)
  have e4 : wrap64 (4 * (n : Int)) = ((4 * n : Nat) : Int) := by rw [wrap_in (by omega) (by omega)]; omega
  have hrep : ∀ x ∈ List.replicate n (0 : Int) ++ l, isb x := by
    intro x hx
    rcases List.mem_append.1 hx with h | h
    · rw [List.eq_of_mem_replicate h]; exact .inl rfl
    · exact hf x h
  have hc0 : ∀ x ∈ code l, 0 ≤ x ∧ x ≤ 255 := fun x hx => by have := isb01 (codeN_isb hf _ x hx); omega
  have hcl := code_length l
  rw [Code_f l hf (by omega) 1000 (by omega), Option.bind_some]
  simp only [e1, e4]
  rw [if_pos (by omega), Int.toNat_natCast, if_pos (by omega), Option.bind_some, if_pos (by rw [List.length_replicate]; omega),
    Code_f (List.replicate n 0 ++ l) hrep (by rw [List.length_append, List.length_replicate]; omega) 1000 (by rw [List.length_append, List.length_replicate]; omega), Option.bind_some, codes_ok, Option.bind_some, if_pos rfl, if_pos rfl, if_pos trivial,
    if_pos (by omega), Int.toNat_natCast, if_pos (by omega), Option.bind_some, if_pos (by rw [str_size, str_size, List.length_replicate]; show ((4 * n + (code l).length : Nat)) ≤ _; omega)]
  show some ((strOfNums (code (List.replicate n 0 ++ l))).toList == (strOfNums (List.replicate (4 * n) 0) ++ strOfNums (code l)).toList) = some true
  rw [code_late, toList_append, str_list, str_list, str_list, List.map_append]
  simp

end Go.Proofs.YtmjilfeadgancaaDoor.Pure
