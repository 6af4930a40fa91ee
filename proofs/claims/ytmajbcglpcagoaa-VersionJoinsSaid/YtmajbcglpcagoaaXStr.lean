/- Texts of bytes: two are the same where their numbers are. No condition. -/
import Derived.Test.YtmajbcglpcagoaaXPlain
import Derived.Laws.BytesArg
namespace Go.Proofs.Ytmajbcglpcagoaa.X
open Go.RowKit Go.Proofs.YtmajbcglpcagoaaW.PrintWords Go.Proofs.YtmajbcglpcagoaaW.PrintLast Go.Proofs.YtmajbcglpcagoaaW.PrintMore

theorem toList_loop (b : ByteArray) (d : Nat) : ∀ (i : Nat) (r : List UInt8), i + d = b.size → ByteArray.toList.loop b i r = r.reverse ++ b.data.toList.drop i := by
  induction d with
  | zero =>
    intro i r hi
    unfold ByteArray.toList.loop
    have hs : b.data.toList.length = b.size := by rw [Array.length_toList]; rfl
    rw [if_neg (by omega), List.drop_eq_nil_of_le (by omega), List.append_nil]
  | succ d ih =>
    intro i r hi
    unfold ByteArray.toList.loop
    have hs : b.data.toList.length = b.size := by rw [Array.length_toList]; rfl
    rw [if_pos (by omega), ih (i + 1) _ (by omega), List.reverse_cons, List.append_assoc, drop_cons b.data.toList i (by omega)]
    congr 1
    show [b.get! i] ++ _ = _
    rw [show b.get! i = b.data.toList[i]'(by omega) from by
      show b.data[i]! = _
      have h : i < b.data.size := by rw [← Array.length_toList]; omega
      rw [getElem!_pos b.data i h]; simp]
    rfl
theorem toList_data (b : ByteArray) : b.toList = b.data.toList := by
  unfold ByteArray.toList
  rw [toList_loop b b.size 0 [] (by omega)]; simp
theorem str_list (l : List Int) : (strOfNums l).toList = l.map fun n => UInt8.ofNat n.toNat := by
  rw [toList_data, strOfNums_data]
theorem str_inj : ∀ {a b : List Int}, (∀ x ∈ a, 0 ≤ x ∧ x ≤ 255) → (∀ x ∈ b, 0 ≤ x ∧ x ≤ 255) → (strOfNums a).toList = (strOfNums b).toList → a = b
  | [], [], _, _, _ => rfl
  | [], _ :: _, _, _, h => by rw [str_list, str_list] at h; cases h
  | _ :: _, [], _, _, h => by rw [str_list, str_list] at h; cases h
  | x :: a, y :: b, ha, hb, h => by
    rw [str_list, str_list] at h
    simp only [List.map_cons, List.cons.injEq] at h
    have h1 := ha x List.mem_cons_self
    have h2 := hb y List.mem_cons_self
    have e : x = y := by
      have := congrArg UInt8.toNat h.1
      rw [UInt8.toNat_ofNat', UInt8.toNat_ofNat'] at this
      omega
    rw [e, str_inj (fun z hz => ha z (List.mem_cons_of_mem _ hz)) (fun z hz => hb z (List.mem_cons_of_mem _ hz)) (by rw [str_list, str_list]; exact h.2)]
theorem str_beq {a b : List Int} (ha : ∀ x ∈ a, 0 ≤ x ∧ x ≤ 255) (hb : ∀ x ∈ b, 0 ≤ x ∧ x ≤ 255) : ((strOfNums a).toList == (strOfNums b).toList) = decide (a = b) := by
  by_cases h : a = b
  · subst h; simp
  · rw [decide_eq_false h]
    exact beq_eq_false_iff_ne.2 fun e => h (str_inj ha hb e)

end Go.Proofs.Ytmajbcglpcagoaa.X
