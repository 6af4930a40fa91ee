/- VersionSplits' pure statement: of all codes the versions are told, or why there are none; the code comes back. No condition. -/
import Derived.Test.YtmajbcglpcagoaaXSplit
import Derived.Test.YtmajbcglpcagoaaX10
import Derived.Test.YtmajbcglpcagoaaX15
namespace Go.Proofs.Ytmajbcglpcagoaa.Pure
open Go.RowKit Go.Proofs.Ytmajbcglpcagoaa.X Go.Proofs.YtmajbcglpcagoaaW.PrintWords Go.Proofs.YtmajbcglpcagoaaW.PrintLast Go.Proofs.YtmajbcglpcagoaaW.PrintMore
set_option linter.unusedVariables false

theorem mn_nat300 (a : Nat) : mn (a : Int) 300 = ((min a 300 : Nat) : Int) := by unfold mn; split <;> omega
theorem splits_ok : shuttlelaw11_splits.f (20000 + 1) = some true := by decide +kernel
theorem split_no (l : List Int) (hl : l.length ≤ 1000) (hb : l.any big = true) (k : Nat) (hk : l.length < k) : version_Split.f k l = some ([], [], [], [], 5) := by
  unfold version_Split.f
  rw [right_f l (by omega) k hk, hb, Option.bind_some, if_neg (by decide)]
theorem VersionSplits : shuttlelaw11_VersionSplits.Pure := by
  intro l0 m0 _ w0
  refine ⟨20000 + 1, ?_⟩
  unfold shuttlelaw11_VersionSplits.f
  rw [mn_nat300, Option.bind_some, if_pos (by omega), if_pos (by omega), Int.toNat_natCast, List.length_nil, Nat.zero_add, List.nil_append]
  have hl : (l0.take (min l0.length 300)).length ≤ 300 := by rw [List.length_take]; omega
  have hw : ∀ x ∈ l0.take (min l0.length 300), 0 ≤ x ∧ x ≤ 255 := fun x hx => u8_of_wf w0 x (List.mem_of_mem_take hx)
  generalize l0.take (min l0.length 300) = l at *
  rw [if_pos (by omega), Option.bind_some]
  cases hb : l.any big with
  | true =>
    rw [split_no l (by omega) hb (20000 + 1) (by omega), Option.bind_some, splits_ok, Option.bind_some, if_pos rfl, shuttlelaw11_VersionSplits.j0.eq_2, if_neg (by simp), rright_f l (by omega) 20000 (by omega), hb, Option.bind_some, if_neg (by decide), if_pos rfl]
    rfl
  | false =>
    have hp := (big_isb (fun x hx => (hw x hx).1)).1 hb
    have err : shuttleref01_Right.f 20000 l = some true := by rw [rright_f l (by omega) 20000 (by omega), hb]; rfl
    by_cases c : (l.length : Int) % 4 = 0
    · obtain ⟨m, hm⟩ : ∃ m, l.length = 4 * m := ⟨l.length / 4, by omega⟩
      rw [split_f l hp m hm (by omega) (20000 + 1) (by omega), Option.bind_some, splits_ok, Option.bind_some, if_pos rfl, shuttlelaw11_VersionSplits.j0.eq_2, if_neg (by simp), err, Option.bind_some, if_pos rfl, if_pos c]
      have hpk := fun v hv k hk => pick_f l v hv m hm (by omega) k hk
      have h0 := hpk 0 (by omega); have h1 := hpk 1 (by omega); have h2 := hpk 2 (by omega); have h3 := hpk 3 (by omega)
      change shuttlelaw11_VersionSplits.l0 (19995 + 5) l (strOfNums l) 0 0 (pk l 0 m) (pk l 1 m) (pk l 2 m) (pk l 3 m) = some true
      rw [shuttlelaw11_VersionSplits.l0.eq_2, if_pos (by decide), if_pos rfl, show shuttleref10_Pick.f (19995 + 4) l 0 = some (pk l 0 m) from h0 _ (by omega), Option.bind_some, if_pos rfl]
      rw [shuttlelaw11_VersionSplits.l0.eq_2, if_pos (by decide), if_neg (by decide), if_pos (by decide), show shuttleref10_Pick.f (19995 + 3) l 1 = some (pk l 1 m) from h1 _ (by omega), Option.bind_some, if_pos rfl]
      rw [shuttlelaw11_VersionSplits.l0.eq_2, if_pos (by decide), if_neg (by decide), if_neg (by decide), if_pos (by decide), show shuttleref10_Pick.f (19995 + 2) l 2 = some (pk l 2 m) from h2 _ (by omega), Option.bind_some, if_pos rfl]
      rw [shuttlelaw11_VersionSplits.l0.eq_2, if_pos (by decide), if_neg (by decide), if_neg (by decide), if_neg (by decide), if_pos (by decide), show shuttleref10_Pick.f (19995 + 1) l 3 = some (pk l 3 m) from h3 _ (by omega), Option.bind_some, if_pos rfl]
      rw [shuttlelaw11_VersionSplits.l0.eq_2, if_neg (by decide), join_f l hp m hm (by omega) 19995 (by omega), Option.bind_some, if_pos rfl, if_pos rfl]
      simp
    · have e1 : version_Split.f (20000 + 1) l = some ([], [], [], [], 1) := by
        unfold version_Split.f
        rw [right_f l (by omega) (20000 + 1) (by omega), hb, Option.bind_some, if_pos (show (!false) = true from rfl), if_neg c]
      rw [e1, Option.bind_some, splits_ok, Option.bind_some, if_pos rfl, shuttlelaw11_VersionSplits.j0.eq_2, if_neg (by simp), err, Option.bind_some, if_pos rfl, if_neg c, if_pos rfl]
      rfl

end Go.Proofs.Ytmajbcglpcagoaa.Pure
