/- ConvAdds' pure statement: of two lists of one length, by exclusive or, what is told is what is told of theirs. No condition. -/
import Derived.Test.YtmjilfeadgancaaDoorXConv2
import Derived.Test.YtmjilfeadgancaaDoorXFew
import Derived.Test.YtmjilfeadgancaaDoorX25
namespace Go.Proofs.YtmjilfeadgancaaDoor.Pure
open Go.RowKit Go.Proofs.YtmjilfeadgancaaDoor.X Go.Proofs.YtmjilfeadgancaaDoorW.PrintWords Go.Proofs.YtmjilfeadgancaaDoorW.PrintLast Go.Proofs.YtmjilfeadgancaaDoorW.PrintMore
set_option linter.unusedVariables false

theorem mn_nat (a b : Nat) : mn (a : Int) (b : Int) = ((min a b : Nat) : Int) := by unfold mn; split <;> omega
theorem l1_ok (a b : List Int) (ha : ∀ x ∈ a, isb x) (hb : ∀ x ∈ b, isb x) (n : Nat) (hn : n ≤ 150) (h1 : (a.take n).length = n) (h2 : (b.take n).length = n) (d : Nat) : ∀ k i : Nat, i + d = 4 * (n + 6) → d < k →
    shuttlelaw06_ConvAdds.l1 k (code (a.take n)) (code (b.take n)) (code (zx a b n)) (i : Int) = some true := by
  have c1 := code_length (a.take n)
  have c2 := code_length (b.take n)
  have c3 := code_length (zx a b n)
  rw [zx_length] at c3
  rw [h1] at c1
  rw [h2] at c2
  induction d with
  | zero =>
    intro k i hi hk
    obtain ⟨k, rfl⟩ := pred hk
    rw [shuttlelaw06_ConvAdds.l1.eq_2, if_neg (by omega)]
  | succ d ih =>
    intro k i hi hk
    obtain ⟨k, rfl⟩ := pred hk
    have hn' := ih k (i + 1) (by omega) (by omega)
    have e : (code (zx a b n)).getD i 0 = Go.bits .xor .u8 ((code (a.take n)).getD i 0) ((code (b.take n)).getD i 0) := by
      have hi4 : i = 4 * (i / 4) + i % 4 := by omega
      unfold code
      rw [hi4, codeN_getD _ (i / 4) (i % 4) (by omega) _ (by rw [zx_length]; omega), codeN_getD _ (i / 4) (i % 4) (by omega) _ (by omega), codeN_getD _ (i / 4) (i % 4) (by omega) _ (by omega)]
      exact bit_zx ha hb n (i / 4) (i % 4)
    rw [shuttlelaw06_ConvAdds.l1.eq_2, if_pos (by omega), if_pos (by omega), if_pos (by omega), if_pos (by omega), rd_getD, rd_getD, rd_getD, if_pos e, wrap_succ i (by omega)]
    exact hn'
theorem l0_ok (a b : List Int) (ha : ∀ x ∈ a, isb x) (hb : ∀ x ∈ b, isb x) (n : Nat) (hn : n ≤ 150) (h1 : n ≤ a.length) (h2 : n ≤ b.length) (l1 : a.length ≤ 150) (l2 : b.length ≤ 150) (d : Nat) : ∀ k i : Nat, i + d = n → d + 1000 < k →
    shuttlelaw06_ConvAdds.l0 k a b (n : Int) (zx a b i) (i : Int) = some true := by
  induction d with
  | zero =>
    intro k i hi hk
    obtain ⟨k, rfl⟩ : ∃ m, k = m + 2 := ⟨k - 2, by omega⟩
    obtain rfl : i = n := by omega
    have t1 : (a.take i).length = i := by rw [List.length_take]; omega
    have t2 : (b.take i).length = i := by rw [List.length_take]; omega
    have c1 := code_length (a.take i)
    have c2 := code_length (b.take i)
    have c3 := code_length (zx a b i)
    rw [zx_length] at c3
    rw [t1] at c1
    rw [t2] at c2
    rw [shuttlelaw06_ConvAdds.l0.eq_2, if_neg (by omega), if_pos (by omega), if_pos (by omega), Int.toNat_natCast, Code_f (a.take i) (take_isb ha i) (by omega) (k + 1) (by omega), Option.bind_some, if_pos (by omega),
      Code_f (b.take i) (take_isb hb i) (by omega) (k + 1) (by omega), Option.bind_some, Code_f (zx a b i) (zx_isb ha hb i) (by rw [zx_length]; omega) (k + 1) (by rw [zx_length]; omega), Option.bind_some, codes_ok, Option.bind_some,
      if_pos rfl, if_pos rfl, if_pos rfl, if_pos rfl]
    show (if ((code (a.take i)).length : Int) = ((code (zx a b i)).length : Int) then shuttlelaw06_ConvAdds.j1 (k + 1) (code (a.take i)) (code (b.take i)) (code (zx a b i)) (((code (b.take i)).length : Int) != ((code (zx a b i)).length : Int)) else _) = _
    rw [c1, c2, c3, if_pos rfl, shuttlelaw06_ConvAdds.j1.eq_2, if_neg (by simp)]
    exact l1_ok a b ha hb i hn t1 t2 (4 * (i + 6)) k 0 (by omega) (by omega)
  | succ d ih =>
    intro k i hi hk
    obtain ⟨k, rfl⟩ := pred (show d + 1 < k by omega)
    have hn' := ih k (i + 1) (by omega) (by omega)
    rw [shuttlelaw06_ConvAdds.l0.eq_2, if_pos (by omega), if_pos (by omega), if_pos (by omega), if_pos (by omega), if_pos (by rw [zx_length]; omega), rd_getD, rd_getD, wrap_succ i (by omega), ← zx_succ]
    exact hn'
theorem ConvAdds : shuttlelaw06_ConvAdds.Pure := by
  intro l0 l1 m0 _ w0 m1 _ w1
  refine ⟨2000, ?_⟩
  unfold shuttlelaw06_ConvAdds.f
  rw [show shuttleref01_Few.f 2000 l0 150 = some (few l0 150) from few_f l0 (u8_of_wf w0) 150 (by omega) 2000 (by omega), Option.bind_some,
    show shuttleref01_Few.f 2000 l1 150 = some (few l1 150) from few_f l1 (u8_of_wf w1) 150 (by omega) 2000 (by omega), Option.bind_some, mn_nat]
  have ha := few_length l0 150
  have hb := few_length l1 150
  exact l0_ok (few l0 150) (few l1 150) (fun x hx => few_bit x hx) (fun x hx => few_bit x hx) (min (few l0 150).length (few l1 150).length) (by omega) (by omega) (by omega) ha hb (min (few l0 150).length (few l1 150).length) 2000 0 (by omega) (by omega)

end Go.Proofs.YtmjilfeadgancaaDoor.Pure
