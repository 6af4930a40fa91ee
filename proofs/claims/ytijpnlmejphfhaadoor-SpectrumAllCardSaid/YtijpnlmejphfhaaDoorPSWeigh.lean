/- spectrum's counter: weigh by hand; what an edge is. No condition but bounds. -/
import Derived.Test.YtijpnlmejphfhaaDoorPSAdd
import Derived.Test.YtijpnlmejphfhaaDoorP15
import Derived.Test.YtijpnlmejphfhaaDoorP18
namespace Go.Proofs.YtijpnlmejphfhaaDoor.P
open Go Go.Proofs Go.RowKit Go.Proofs.YtijpnlmejphfhaaDoorW.PrintWords Go.Proofs.YtijpnlmejphfhaaDoorW.PrintLast Go.Proofs.YtijpnlmejphfhaaDoorW.PrintMore
set_option linter.unusedVariables false
set_option linter.unusedSimpArgs false


attribute [local go_sem] run_index_arr
/-- In which version a stream stands. -/
def ver (s t : Nat) : Nat := (s + 4 - t % 4) % 4
theorem ver_lt (s t : Nat) : ver s t < 4 := Nat.mod_lt _ (by decide)
theorem version_f (s t : Nat) (hs : s < 4) (ht : t ≤ 100000) : pattern_Version.f (s : Int) (t : Int) = some (((ver s t : Nat) : Int), 0) := by
  unfold pattern_Version.f pattern_one.f
  have h1 : (decide ((s : Int) ≥ 0)) = true := decide_eq_true (by omega)
  have h2 : (decide ((s : Int) < 4)) = true := decide_eq_true (by omega)
  have h3 : (decide ((t : Int) ≥ 0)) = true := decide_eq_true (by omega)
  simp [h1, h2, h3]
  have e : Int.tmod (t : Int) 4 = ((t % 4 : Nat) : Int) := by rw [Int.tmod_eq_emod_of_nonneg (by omega)]; omega
  rw [if_pos (by omega), e]
  have e2 : wrap64 (wrap64 ((s : Int) + 4) - ((t % 4 : Nat) : Int)) = ((s + 4 - t % 4 : Nat) : Int) := by unfold wrap64; omega
  rw [e2, Int.tmod_eq_emod_of_nonneg (by omega)]
  unfold ver
  simp
/-- What some bits weigh, stream by stream. -/
def wsum (W : Nat → Int) (o : Nat → Int) (t : Nat) : Nat → Int
  | 0 => 0
  | j + 1 => wsum W o t j + o j * W (ver j t)
theorem wsum_in {W o : Nat → Int} (hW : ∀ v, v < 4 → 0 ≤ W v ∧ W v ≤ 7) (ho : ∀ s, o s = 0 ∨ o s = 1) (t : Nat) : ∀ j : Nat, 0 ≤ wsum W o t j ∧ wsum W o t j ≤ 7 * (j : Int)
  | 0 => by simp [wsum]
  | j + 1 => by
    have h := wsum_in hW ho t j
    have hv := hW _ (ver_lt j t)
    unfold wsum
    rcases ho j with e | e <;> rw [e] <;> omega
def o4 (a b c d : Int) : Nat → Int
  | 0 => a
  | 1 => b
  | 2 => c
  | _ => d
set_option maxRecDepth 100000 in
set_option maxHeartbeats 8000000 in
theorem weigh_calls {w : World} {g : Nat} {W : Nat → Int} (hgl : g < w.heap.size) (hW : ∀ v, v < 4 → w.cell? ⟨g, v, none⟩ = some (.int .i64 (W v))) (hWb : ∀ v, v < 4 → 0 ≤ W v ∧ W v ≤ 7) (fr dt i a b c d : Int)
    (ho : ∀ s, o4 a b c d s = 0 ∨ o4 a b c d s = 1) (t : Nat) (ht : t ≤ 100000) :
    Calls Tryd.prog 41 #[.pointer (some ⟨g, 0, none⟩), .agg #[.int .i64 fr, .int .i64 dt, .int .u8 i, .int .u8 a, .int .u8 b, .int .u8 c, .int .u8 d], .int .i64 (t : Int)] w fun e w' =>
      e = .returned (.int .i64 (wsum W (o4 a b c d) t 4)) ∧ Below w.heap.size w w' := by
  have HW := Aside0.mk hW
  have HWB := Aside0.mk hWb
  have HO := Aside0.mk ho
  clear hW hWb ho
  have hba := below_alloc (Below.refl w.heap.size w) (.cells #[.int .i64 fr, .int .i64 dt, .int .u8 i, .int .u8 a, .int .u8 b, .int .u8 c, .int .u8 d] 77)
  have HBA := Aside0.mk hba
  clear hba
  go_enter Tryd.func41, Tryd.ntmps41
  go_wp2_with fail
  go_loopw [7, 14] (fun v7 v14 wr => ∃ j : Nat, v7 = .int .i64 (wsum W (o4 a b c d) t j) ∧ v14 = .int .i64 (j : Int) ∧ j ≤ 4 ∧ Aside0 (Below w.heap.size w wr)) (fun _ v14 _ => 4 - (intOf v14).toNat)
  case atStart => exact ⟨0, rfl, by simp, by omega, HBA⟩
  case round =>
    clear HBA
    obtain ⟨j, rfl, rfl, hj, HB⟩ := hrel
    have hcase : j = 0 ∨ j = 1 ∨ j = 2 ∨ j = 3 ∨ j = 4 := by omega
    rcases hcase with rfl | rfl | rfl | rfl | rfl
    · skip
      skip
      have hvf := version_f 0 t (by decide) ht
      have hc := pattern_Version.calls (0 : Int) (t : Int) _ 0 wr hvf
      have hlt4 : ((ver 0 t : Nat) : Int) < 4 := by have := ver_lt 0 t; omega
      obtain ⟨v, hv⟩ : ∃ v, v = ver 0 t := ⟨_, rfl⟩
      rw [← hv] at hc hlt4
      have hcw : wr.cell? ⟨g, v, none⟩ = some (.int .i64 (W v)) := (HB.out.cell (p := ⟨g, v, none⟩) hgl).trans (HW.out v (by omega))
      have hWv := (HWB.out v (by omega))
      have hob : o4 a b c d 0 = 0 ∨ o4 a b c d 0 = 1 := HO.out 0
      have hin := wsum_in HWB.out HO.out t 0
      have hsu : wsum W (o4 a b c d) t (0 + 1) = wsum W (o4 a b c d) t 0 + a * W v := by rw [hv]; rfl
      have hob2 : a = 0 ∨ a = 1 := hob
      obtain ⟨y, hy⟩ : ∃ y, y = W v := ⟨_, rfl⟩
      rw [← hy] at hcw hWv hsu
      obtain ⟨p, hp⟩ : ∃ p, a * y = p := ⟨_, rfl⟩
      have hpb : 0 ≤ p ∧ p ≤ 7 := by rcases hob2 with e | e <;> rw [e] at hp <;> omega
      rw [hp] at hsu
      obtain ⟨n0, hn0⟩ : ∃ n0, n0 = wsum W (o4 a b c d) t 0 := ⟨_, rfl⟩
      rw [← hn0] at hsu hin
      have hwp : wrap64 p = p := by unfold wrap64; omega
      have hwn : wrap64 (n0 + p) = n0 + p := by unfold wrap64; omega
      have hcv : IntKind.i64.wrap a = a := by rw [IntKind.wrap_i64]; omega
      have HSU := Aside0.mk hsu
      have HC := Aside0.mk hc
      rw [← hn0]
      clear hvf hc hv hy hob hin hob2 hsu hn0 hWv hpb
      go_wp2_with (first | (go_at_call 48; refine HC.out.mono ?_; rintro e w2 ⟨rfl, hd⟩; have HB2 := Aside0.mk (below_step HB.out hd.below); have hcw2 := (hd.below.cell (p := ⟨g, v, none⟩) (Nat.lt_of_lt_of_le hgl HB.out.size)).trans hcw; clear hd hcw) | fail)
      go_roundw
      case rel => exact ⟨0 + 1, by rw [HSU.out]; first | rfl | rw [hwn], by simp, by omega, HB2⟩
      case measure => simp [intOf]
    · skip
      skip
      have hvf := version_f 1 t (by decide) ht
      have hc := pattern_Version.calls (1 : Int) (t : Int) _ 0 wr hvf
      have hlt4 : ((ver 1 t : Nat) : Int) < 4 := by have := ver_lt 1 t; omega
      obtain ⟨v, hv⟩ : ∃ v, v = ver 1 t := ⟨_, rfl⟩
      rw [← hv] at hc hlt4
      have hcw : wr.cell? ⟨g, v, none⟩ = some (.int .i64 (W v)) := (HB.out.cell (p := ⟨g, v, none⟩) hgl).trans (HW.out v (by omega))
      have hWv := (HWB.out v (by omega))
      have hob : o4 a b c d 1 = 0 ∨ o4 a b c d 1 = 1 := HO.out 1
      have hin := wsum_in HWB.out HO.out t 1
      have hsu : wsum W (o4 a b c d) t (1 + 1) = wsum W (o4 a b c d) t 1 + b * W v := by rw [hv]; rfl
      have hob2 : b = 0 ∨ b = 1 := hob
      obtain ⟨y, hy⟩ : ∃ y, y = W v := ⟨_, rfl⟩
      rw [← hy] at hcw hWv hsu
      obtain ⟨p, hp⟩ : ∃ p, b * y = p := ⟨_, rfl⟩
      have hpb : 0 ≤ p ∧ p ≤ 7 := by rcases hob2 with e | e <;> rw [e] at hp <;> omega
      rw [hp] at hsu
      obtain ⟨n0, hn0⟩ : ∃ n0, n0 = wsum W (o4 a b c d) t 1 := ⟨_, rfl⟩
      rw [← hn0] at hsu hin
      have hwp : wrap64 p = p := by unfold wrap64; omega
      have hwn : wrap64 (n0 + p) = n0 + p := by unfold wrap64; omega
      have hcv : IntKind.i64.wrap b = b := by rw [IntKind.wrap_i64]; omega
      have HSU := Aside0.mk hsu
      have HC := Aside0.mk hc
      rw [← hn0]
      clear hvf hc hv hy hob hin hob2 hsu hn0 hWv hpb
      go_wp2_with (first | (go_at_call 48; refine HC.out.mono ?_; rintro e w2 ⟨rfl, hd⟩; have HB2 := Aside0.mk (below_step HB.out hd.below); have hcw2 := (hd.below.cell (p := ⟨g, v, none⟩) (Nat.lt_of_lt_of_le hgl HB.out.size)).trans hcw; clear hd hcw) | fail)
      go_roundw
      case rel => exact ⟨1 + 1, by rw [HSU.out]; first | rfl | rw [hwn], by simp, by omega, HB2⟩
      case measure => simp [intOf]
    · skip
      skip
      have hvf := version_f 2 t (by decide) ht
      have hc := pattern_Version.calls (2 : Int) (t : Int) _ 0 wr hvf
      have hlt4 : ((ver 2 t : Nat) : Int) < 4 := by have := ver_lt 2 t; omega
      obtain ⟨v, hv⟩ : ∃ v, v = ver 2 t := ⟨_, rfl⟩
      rw [← hv] at hc hlt4
      have hcw : wr.cell? ⟨g, v, none⟩ = some (.int .i64 (W v)) := (HB.out.cell (p := ⟨g, v, none⟩) hgl).trans (HW.out v (by omega))
      have hWv := (HWB.out v (by omega))
      have hob : o4 a b c d 2 = 0 ∨ o4 a b c d 2 = 1 := HO.out 2
      have hin := wsum_in HWB.out HO.out t 2
      have hsu : wsum W (o4 a b c d) t (2 + 1) = wsum W (o4 a b c d) t 2 + c * W v := by rw [hv]; rfl
      have hob2 : c = 0 ∨ c = 1 := hob
      obtain ⟨y, hy⟩ : ∃ y, y = W v := ⟨_, rfl⟩
      rw [← hy] at hcw hWv hsu
      obtain ⟨p, hp⟩ : ∃ p, c * y = p := ⟨_, rfl⟩
      have hpb : 0 ≤ p ∧ p ≤ 7 := by rcases hob2 with e | e <;> rw [e] at hp <;> omega
      rw [hp] at hsu
      obtain ⟨n0, hn0⟩ : ∃ n0, n0 = wsum W (o4 a b c d) t 2 := ⟨_, rfl⟩
      rw [← hn0] at hsu hin
      have hwp : wrap64 p = p := by unfold wrap64; omega
      have hwn : wrap64 (n0 + p) = n0 + p := by unfold wrap64; omega
      have hcv : IntKind.i64.wrap c = c := by rw [IntKind.wrap_i64]; omega
      have HSU := Aside0.mk hsu
      have HC := Aside0.mk hc
      rw [← hn0]
      clear hvf hc hv hy hob hin hob2 hsu hn0 hWv hpb
      go_wp2_with (first | (go_at_call 48; refine HC.out.mono ?_; rintro e w2 ⟨rfl, hd⟩; have HB2 := Aside0.mk (below_step HB.out hd.below); have hcw2 := (hd.below.cell (p := ⟨g, v, none⟩) (Nat.lt_of_lt_of_le hgl HB.out.size)).trans hcw; clear hd hcw) | fail)
      go_roundw
      case rel => exact ⟨2 + 1, by rw [HSU.out]; first | rfl | rw [hwn], by simp, by omega, HB2⟩
      case measure => simp [intOf]
    · skip
      skip
      have hvf := version_f 3 t (by decide) ht
      have hc := pattern_Version.calls (3 : Int) (t : Int) _ 0 wr hvf
      have hlt4 : ((ver 3 t : Nat) : Int) < 4 := by have := ver_lt 3 t; omega
      obtain ⟨v, hv⟩ : ∃ v, v = ver 3 t := ⟨_, rfl⟩
      rw [← hv] at hc hlt4
      have hcw : wr.cell? ⟨g, v, none⟩ = some (.int .i64 (W v)) := (HB.out.cell (p := ⟨g, v, none⟩) hgl).trans (HW.out v (by omega))
      have hWv := (HWB.out v (by omega))
      have hob : o4 a b c d 3 = 0 ∨ o4 a b c d 3 = 1 := HO.out 3
      have hin := wsum_in HWB.out HO.out t 3
      have hsu : wsum W (o4 a b c d) t (3 + 1) = wsum W (o4 a b c d) t 3 + d * W v := by rw [hv]; rfl
      have hob2 : d = 0 ∨ d = 1 := hob
      obtain ⟨y, hy⟩ : ∃ y, y = W v := ⟨_, rfl⟩
      rw [← hy] at hcw hWv hsu
      obtain ⟨p, hp⟩ : ∃ p, d * y = p := ⟨_, rfl⟩
      have hpb : 0 ≤ p ∧ p ≤ 7 := by rcases hob2 with e | e <;> rw [e] at hp <;> omega
      rw [hp] at hsu
      obtain ⟨n0, hn0⟩ : ∃ n0, n0 = wsum W (o4 a b c d) t 3 := ⟨_, rfl⟩
      rw [← hn0] at hsu hin
      have hwp : wrap64 p = p := by unfold wrap64; omega
      have hwn : wrap64 (n0 + p) = n0 + p := by unfold wrap64; omega
      have hcv : IntKind.i64.wrap d = d := by rw [IntKind.wrap_i64]; omega
      have HSU := Aside0.mk hsu
      have HC := Aside0.mk hc
      rw [← hn0]
      clear hvf hc hv hy hob hin hob2 hsu hn0 hWv hpb
      go_wp2_with (first | (go_at_call 48; refine HC.out.mono ?_; rintro e w2 ⟨rfl, hd⟩; have HB2 := Aside0.mk (below_step HB.out hd.below); have hcw2 := (hd.below.cell (p := ⟨g, v, none⟩) (Nat.lt_of_lt_of_le hgl HB.out.size)).trans hcw; clear hd hcw) | fail)
      go_roundw
      case rel => exact ⟨3 + 1, by rw [HSU.out]; first | rfl | rw [hwn], by simp, by omega, HB2⟩
      case measure => simp [intOf]
    · go_wp2_with fail
      go_ret
      exact ⟨by simp, HB.out⟩
end Go.Proofs.YtijpnlmejphfhaaDoor.P
