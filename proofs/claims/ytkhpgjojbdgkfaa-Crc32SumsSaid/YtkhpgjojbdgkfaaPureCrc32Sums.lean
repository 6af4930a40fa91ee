/- Crc32Sums: of all bytes the sum is told, and what they are opened to; no condition. -/
import Derived.Test.YtkhpgjojbdgkfaaDCrc32
import Derived.Test.YtkhpgjojbdgkfaaD12
namespace Go.Proofs.Ytkhpgjojbdgkfaa.Pure
open Go Go.RowKit Go.Proofs.Ytkhpgjojbdgkfaa.D Go.Proofs.YtkhpgjojbdgkfaaW.PrintWords Go.Proofs.YtkhpgjojbdgkfaaW.PrintLast Go.Proofs.YtkhpgjojbdgkfaaW.PrintMore
set_option linter.unusedVariables false

theorem rsum_f {l : List Int} (h : byt l) (hl : l.length ≤ 1000) : shuttleref04_Sum.f l = some ((sum32 l).toNat : Int) := by
  unfold shuttleref04_Sum.f; rw [if_pos ⟨byt_all h, by omega⟩]
theorem rclose_f {l : List Int} (h : byt l) (hl : l.length ≤ 1000) (k : Nat) (hk : 5 ≤ k) : shuttleref04_Close.f k l = some (l ++ four (sum32 l).toNat) := by
  obtain ⟨k, rfl⟩ : ∃ m, k = m + 5 := ⟨k - 5, by omega⟩
  unfold shuttleref04_Close.f
  rw [rsum_f h hl, Option.bind_some, Option.bind_some, if_pos (by rw [List.length_nil]; omega), List.nil_append]
  generalize (sum32 l).toNat = n
  have e1 : wrap64 (0 + 1) = 1 := by decide +kernel
  have e2 : wrap64 (1 + 1) = 2 := by decide +kernel
  have e3 : wrap64 (2 + 1) = 3 := by decide +kernel
  have e4 : wrap64 (3 + 1) = 4 := by decide +kernel
  have m0 : wrap64 (8 * 0) = 0 := by decide +kernel
  have m1 : wrap64 (8 * 1) = 8 := by decide +kernel
  have m2 : wrap64 (8 * 2) = 16 := by decide +kernel
  have m3 : wrap64 (8 * 3) = 24 := by decide +kernel
  rw [show k + 5 = (k + 4) + 1 from rfl, shuttleref04_Close.l0.eq_2, if_pos (by decide), m0, if_pos (by decide), if_pos (by omega), e1]
  rw [show k + 4 = (k + 3) + 1 from rfl, shuttleref04_Close.l0.eq_2, if_pos (by decide), m1, if_pos (by decide), if_pos (by simp only [List.length_append, List.length_cons, List.length_nil]; omega), e2]
  rw [show k + 3 = (k + 2) + 1 from rfl, shuttleref04_Close.l0.eq_2, if_pos (by decide), m2, if_pos (by decide), if_pos (by simp only [List.length_append, List.length_cons, List.length_nil]; omega), e3]
  rw [show k + 2 = (k + 1) + 1 from rfl, shuttleref04_Close.l0.eq_2, if_pos (by decide), m3, if_pos (by decide), if_pos (by simp only [List.length_append, List.length_cons, List.length_nil]; omega), e4]
  rw [shuttleref04_Close.l0.eq_2, if_neg (by decide)]
  refine congrArg some ?_
  unfold four shr
  have t1 : (n : Int) / 2 ^ (min (0 : Int).toNat IntKind.u32.bits) % 256 = ((n % 256 : Nat) : Int) := by
    rw [show (min (0 : Int).toNat IntKind.u32.bits) = 0 from by decide]; simp
  have t2 : (n : Int) / 2 ^ (min (8 : Int).toNat IntKind.u32.bits) % 256 = ((n / 256 % 256 : Nat) : Int) := by
    rw [show (min (8 : Int).toNat IntKind.u32.bits) = 8 from by decide]; omega
  have t3 : (n : Int) / 2 ^ (min (16 : Int).toNat IntKind.u32.bits) % 256 = ((n / 65536 % 256 : Nat) : Int) := by
    rw [show (min (16 : Int).toNat IntKind.u32.bits) = 16 from by decide]; omega
  have t4 : (n : Int) / 2 ^ (min (24 : Int).toNat IntKind.u32.bits) % 256 = ((n / 16777216 % 256 : Nat) : Int) := by
    rw [show (min (24 : Int).toNat IntKind.u32.bits) = 24 from by decide]; omega
  rw [t1, t2, t3, t4]
  simp
theorem four_app {l : List Int} (n : Nat) (h : byt l) : byt (l ++ four n) := fun x hx => by
  rcases List.mem_append.1 hx with q | q
  · exact h x q
  · exact four_byt _ x q
theorem ropen_f {l : List Int} (h : byt l) (hl : l.length ≤ 1000) (k : Nat) (hk : 5 ≤ k) : shuttleref04_Open.f k l = some (if closed l then (l.take (l.length - 4), true) else ([], false)) := by
  unfold shuttleref04_Open.f
  rw [wrap_in (by omega) (by omega)]
  by_cases h4 : 4 ≤ l.length
  · have e : ((l.length : Int) - 4).toNat = l.length - 4 := by omega
    have ht : byt (l.take (l.length - 4)) := fun x hx => h x (List.mem_of_mem_take hx)
    rw [if_neg (by omega), if_pos (by omega), if_pos (by omega), e, rclose_f ht (by rw [List.length_take]; omega) k hk, Option.bind_some]
    by_cases c : four (sum32 (l.take (l.length - 4))).toNat = l.drop (l.length - 4)
    · rw [if_pos (by rw [c, List.take_append_drop]), if_pos ⟨h4, c⟩]
    · rw [if_neg, if_neg (fun z => c z.2)]
      intro q
      have q := str_inj (four_app _ ht) h q
      apply c
      have q2 : List.take (l.length - 4) l ++ four (sum32 (List.take (l.length - 4) l)).toNat = List.take (l.length - 4) l ++ List.drop (l.length - 4) l := by
        rw [List.take_append_drop]; exact q
      exact List.append_cancel_left q2
  · rw [if_pos (by omega), if_neg (fun z => h4 z.1)]
theorem mn_nats (a b : Nat) : mn (a : Int) (b : Int) = ((min a b : Nat) : Int) := by unfold mn; split <;> omega
theorem Crc32Sums : shuttlelaw04_Crc32Sums.Pure := by
  intro l0 _ _ w0
  refine ⟨300, ?_⟩
  unfold shuttlelaw04_Crc32Sums.f
  have e0 : mn (l0.length : Int) 100 = ((min l0.length 100 : Nat) : Int) := mn_nats _ 100
  have n0 : ((min l0.length 100 : Nat) : Int).toNat = min l0.length 100 := by omega
  have hl : (l0.take (min l0.length 100)).length ≤ 100 := by rw [List.length_take]; omega
  rw [Option.bind_some, e0, n0, if_pos (by omega), if_pos (by omega), if_pos (by rw [List.length_nil]; omega), Option.bind_some, List.nil_append]
  have hw : byt (l0.take (min l0.length 100)) := fun x hx => u8_of_wf w0 x (List.mem_of_mem_take hx)
  generalize l0.take (min l0.length 100) = l at hl hw ⊢
  rw [close_f hw (by omega) 300 (by omega), Option.bind_some, open_f hw (by omega) 300 (by omega), Option.bind_some, ropen_f hw (by omega) 300 (by omega), Option.bind_some, sums_ok, Option.bind_some, if_pos rfl,
    csum_f hw (by omega), Option.bind_some, rsum_f hw (by omega), Option.bind_some, if_pos rfl, rclose_f hw (by omega) 300 (by omega), Option.bind_some, if_pos rfl, if_pos rfl, if_pos (by simp)]
  simp
end Go.Proofs.Ytkhpgjojbdgkfaa.Pure
