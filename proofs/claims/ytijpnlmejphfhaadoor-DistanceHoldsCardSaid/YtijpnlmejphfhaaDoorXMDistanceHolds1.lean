/- Texts of this seat, one behind the other (merge.py): the walks of the functions that the law DistanceHolds uses, and plain words on what they come to. No condition. -/
import Derived.Test.YtijpnlmejphfhaaDoorXMDistanceHolds0
-- YtijpnlmejphfhaaDoorPSWeigh
namespace Go.Proofs.YtijpnlmejphfhaaDoor.P
open Go Go.Proofs Go.RowKit Go.Proofs.YtijpnlmejphfhaaDoorW.PrintWords Go.Proofs.YtijpnlmejphfhaaDoorW.PrintLast Go.Proofs.YtijpnlmejphfhaaDoorW.PrintMore
set_option linter.unusedVariables false
set_option linter.unusedSimpArgs false


attribute [local go_sem] run_index_arr
/-- In which version a stream stands. -/
def ver (s t : Nat) : Nat := (s + 4 - t % 4) % 4
theorem ver_lt (s t : Nat) : ver s t < 4 := Nat.mod_lt _ (by decide)
theorem version_f (s t : Nat) (hs : s < 4) (ht : t ≤ 100000) : pattern_Version.f (s : Int) (t : Int) = some (((ver s t : Nat) : Int), 0) := by
  unfold pattern_Version.f pattern_one.f
  have h1 : (decide ((s : Int) ≥ 0)) = true := decide_eq_true (by omega)
  have h2 : (decide ((s : Int) < 4)) = true := decide_eq_true (by omega)
  have h3 : (decide ((t : Int) ≥ 0)) = true := decide_eq_true (by omega)
  simp [h1, h2, h3]
  have e : Int.tmod (t : Int) 4 = ((t % 4 : Nat) : Int) := by rw [Int.tmod_eq_emod_of_nonneg (by omega)]; omega
  rw [if_pos (by omega), e]
  have e2 : wrap64 (wrap64 ((s : Int) + 4) - ((t % 4 : Nat) : Int)) = ((s + 4 - t % 4 : Nat) : Int) := by unfold wrap64; omega
  rw [e2, Int.tmod_eq_emod_of_nonneg (by omega)]
  unfold ver
  simp
/-- What some bits weigh, stream by stream. -/
def wsum (W : Nat → Int) (o : Nat → Int) (t : Nat) : Nat → Int
  | 0 => 0
  | j + 1 => wsum W o t j + o j * W (ver j t)
theorem wsum_in {W o : Nat → Int} (hW : ∀ v, v < 4 → 0 ≤ W v ∧ W v ≤ 7) (ho : ∀ s, o s = 0 ∨ o s = 1) (t : Nat) : ∀ j : Nat, 0 ≤ wsum W o t j ∧ wsum W o t j ≤ 7 * (j : Int)
  | 0 => by simp [wsum]
  | j + 1 => by
    have h := wsum_in hW ho t j
    have hv := hW _ (ver_lt j t)
    unfold wsum
    rcases ho j with e | e <;> rw [e] <;> omega
def o4 (a b c d : Int) : Nat → Int
  | 0 => a
  | 1 => b
  | 2 => c
  | _ => d
set_option maxRecDepth 100000 in
set_option maxHeartbeats 8000000 in
theorem weigh_calls {w : World} {g : Nat} {W : Nat → Int} (hgl : g < w.heap.size) (hW : ∀ v, v < 4 → w.cell? ⟨g, v, none⟩ = some (.int .i64 (W v))) (hWb : ∀ v, v < 4 → 0 ≤ W v ∧ W v ≤ 7) (fr dt i a b c d : Int)
    (ho : ∀ s, o4 a b c d s = 0 ∨ o4 a b c d s = 1) (t : Nat) (ht : t ≤ 100000) :
    Calls Tryd.prog 41 #[.pointer (some ⟨g, 0, none⟩), .agg #[.int .i64 fr, .int .i64 dt, .int .u8 i, .int .u8 a, .int .u8 b, .int .u8 c, .int .u8 d], .int .i64 (t : Int)] w fun e w' =>
      e = .returned (.int .i64 (wsum W (o4 a b c d) t 4)) ∧ Below w.heap.size w w' := by
  have HW := Aside0.mk hW
  have HWB := Aside0.mk hWb
  have HO := Aside0.mk ho
  clear hW hWb ho
  have hba := below_alloc (Below.refl w.heap.size w) (.cells #[.int .i64 fr, .int .i64 dt, .int .u8 i, .int .u8 a, .int .u8 b, .int .u8 c, .int .u8 d] 77)
  have HBA := Aside0.mk hba
  clear hba
  go_enter Tryd.func41, Tryd.ntmps41
  go_wp2_with fail
  go_loopw [7, 14] (fun v7 v14 wr => ∃ j : Nat, v7 = .int .i64 (wsum W (o4 a b c d) t j) ∧ v14 = .int .i64 (j : Int) ∧ j ≤ 4 ∧ Aside0 (Below w.heap.size w wr)) (fun _ v14 _ => 4 - (intOf v14).toNat)
  case atStart => exact ⟨0, rfl, by simp, by omega, HBA⟩
  case round =>
    clear HBA
    obtain ⟨j, rfl, rfl, hj, HB⟩ := hrel
    have hcase : j = 0 ∨ j = 1 ∨ j = 2 ∨ j = 3 ∨ j = 4 := by omega
    rcases hcase with rfl | rfl | rfl | rfl | rfl
    · skip
      skip
      have hvf := version_f 0 t (by decide) ht
      have hc := pattern_Version.calls (0 : Int) (t : Int) _ 0 wr hvf
      have hlt4 : ((ver 0 t : Nat) : Int) < 4 := by have := ver_lt 0 t; omega
      obtain ⟨v, hv⟩ : ∃ v, v = ver 0 t := ⟨_, rfl⟩
      rw [← hv] at hc hlt4
      have hcw : wr.cell? ⟨g, v, none⟩ = some (.int .i64 (W v)) := (HB.out.cell (p := ⟨g, v, none⟩) hgl).trans (HW.out v (by omega))
      have hWv := (HWB.out v (by omega))
      have hob : o4 a b c d 0 = 0 ∨ o4 a b c d 0 = 1 := HO.out 0
      have hin := wsum_in HWB.out HO.out t 0
      have hsu : wsum W (o4 a b c d) t (0 + 1) = wsum W (o4 a b c d) t 0 + a * W v := by rw [hv]; rfl
      have hob2 : a = 0 ∨ a = 1 := hob
      obtain ⟨y, hy⟩ : ∃ y, y = W v := ⟨_, rfl⟩
      rw [← hy] at hcw hWv hsu
      obtain ⟨p, hp⟩ : ∃ p, a * y = p := ⟨_, rfl⟩
      have hpb : 0 ≤ p ∧ p ≤ 7 := by rcases hob2 with e | e <;> rw [e] at hp <;> omega
      rw [hp] at hsu
      obtain ⟨n0, hn0⟩ : ∃ n0, n0 = wsum W (o4 a b c d) t 0 := ⟨_, rfl⟩
      rw [← hn0] at hsu hin
      have hwp : wrap64 p = p := by unfold wrap64; omega
      have hwn : wrap64 (n0 + p) = n0 + p := by unfold wrap64; omega
      have hcv : IntKind.i64.wrap a = a := by rw [IntKind.wrap_i64]; omega
      have HSU := Aside0.mk hsu
      have HC := Aside0.mk hc
      rw [← hn0]
      clear hvf hc hv hy hob hin hob2 hsu hn0 hWv hpb
      go_wp2_with (first | (go_at_call 48; refine HC.out.mono ?_; rintro e w2 ⟨rfl, hd⟩; have HB2 := Aside0.mk (below_step HB.out hd.below); have hcw2 := (hd.below.cell (p := ⟨g, v, none⟩) (Nat.lt_of_lt_of_le hgl HB.out.size)).trans hcw; clear hd hcw) | fail)
      go_roundw
      case rel => exact ⟨0 + 1, by rw [HSU.out]; first | rfl | rw [hwn], by simp, by omega, HB2⟩
      case measure => simp [intOf]
    · skip
      skip
      have hvf := version_f 1 t (by decide) ht
      have hc := pattern_Version.calls (1 : Int) (t : Int) _ 0 wr hvf
      have hlt4 : ((ver 1 t : Nat) : Int) < 4 := by have := ver_lt 1 t; omega
      obtain ⟨v, hv⟩ : ∃ v, v = ver 1 t := ⟨_, rfl⟩
      rw [← hv] at hc hlt4
      have hcw : wr.cell? ⟨g, v, none⟩ = some (.int .i64 (W v)) := (HB.out.cell (p := ⟨g, v, none⟩) hgl).trans (HW.out v (by omega))
      have hWv := (HWB.out v (by omega))
      have hob : o4 a b c d 1 = 0 ∨ o4 a b c d 1 = 1 := HO.out 1
      have hin := wsum_in HWB.out HO.out t 1
      have hsu : wsum W (o4 a b c d) t (1 + 1) = wsum W (o4 a b c d) t 1 + b * W v := by rw [hv]; rfl
      have hob2 : b = 0 ∨ b = 1 := hob
      obtain ⟨y, hy⟩ : ∃ y, y = W v := ⟨_, rfl⟩
      rw [← hy] at hcw hWv hsu
      obtain ⟨p, hp⟩ : ∃ p, b * y = p := ⟨_, rfl⟩
      have hpb : 0 ≤ p ∧ p ≤ 7 := by rcases hob2 with e | e <;> rw [e] at hp <;> omega
      rw [hp] at hsu
      obtain ⟨n0, hn0⟩ : ∃ n0, n0 = wsum W (o4 a b c d) t 1 := ⟨_, rfl⟩
      rw [← hn0] at hsu hin
      have hwp : wrap64 p = p := by unfold wrap64; omega
      have hwn : wrap64 (n0 + p) = n0 + p := by unfold wrap64; omega
      have hcv : IntKind.i64.wrap b = b := by rw [IntKind.wrap_i64]; omega
      have HSU := Aside0.mk hsu
      have HC := Aside0.mk hc
      rw [← hn0]
      clear hvf hc hv hy hob hin hob2 hsu hn0 hWv hpb
      go_wp2_with (first | (go_at_call 48; refine HC.out.mono ?_; rintro e w2 ⟨rfl, hd⟩; have HB2 := Aside0.mk (below_step HB.out hd.below); have hcw2 := (hd.below.cell (p := ⟨g, v, none⟩) (Nat.lt_of_lt_of_le hgl HB.out.size)).trans hcw; clear hd hcw) | fail)
      go_roundw
      case rel => exact ⟨1 + 1, by rw [HSU.out]; first | rfl | rw [hwn], by simp, by omega, HB2⟩
      case measure => simp [intOf]
    · skip
      skip
      have hvf := version_f 2 t (by decide) ht
      have hc := pattern_Version.calls (2 : Int) (t : Int) _ 0 wr hvf
      have hlt4 : ((ver 2 t : Nat) : Int) < 4 := by have := ver_lt 2 t; omega
      obtain ⟨v, hv⟩ : ∃ v, v = ver 2 t := ⟨_, rfl⟩
      rw [← hv] at hc hlt4
      have hcw : wr.cell? ⟨g, v, none⟩ = some (.int .i64 (W v)) := (HB.out.cell (p := ⟨g, v, none⟩) hgl).trans (HW.out v (by omega))
      have hWv := (HWB.out v (by omega))
      have hob : o4 a b c d 2 = 0 ∨ o4 a b c d 2 = 1 := HO.out 2
      have hin := wsum_in HWB.out HO.out t 2
      have hsu : wsum W (o4 a b c d) t (2 + 1) = wsum W (o4 a b c d) t 2 + c * W v := by rw [hv]; rfl
      have hob2 : c = 0 ∨ c = 1 := hob
      obtain ⟨y, hy⟩ : ∃ y, y = W v := ⟨_, rfl⟩
      rw [← hy] at hcw hWv hsu
      obtain ⟨p, hp⟩ : ∃ p, c * y = p := ⟨_, rfl⟩
      have hpb : 0 ≤ p ∧ p ≤ 7 := by rcases hob2 with e | e <;> rw [e] at hp <;> omega
      rw [hp] at hsu
      obtain ⟨n0, hn0⟩ : ∃ n0, n0 = wsum W (o4 a b c d) t 2 := ⟨_, rfl⟩
      rw [← hn0] at hsu hin
      have hwp : wrap64 p = p := by unfold wrap64; omega
      have hwn : wrap64 (n0 + p) = n0 + p := by unfold wrap64; omega
      have hcv : IntKind.i64.wrap c = c := by rw [IntKind.wrap_i64]; omega
      have HSU := Aside0.mk hsu
      have HC := Aside0.mk hc
      rw [← hn0]
      clear hvf hc hv hy hob hin hob2 hsu hn0 hWv hpb
      go_wp2_with (first | (go_at_call 48; refine HC.out.mono ?_; rintro e w2 ⟨rfl, hd⟩; have HB2 := Aside0.mk (below_step HB.out hd.below); have hcw2 := (hd.below.cell (p := ⟨g, v, none⟩) (Nat.lt_of_lt_of_le hgl HB.out.size)).trans hcw; clear hd hcw) | fail)
      go_roundw
      case rel => exact ⟨2 + 1, by rw [HSU.out]; first | rfl | rw [hwn], by simp, by omega, HB2⟩
      case measure => simp [intOf]
    · skip
      skip
      have hvf := version_f 3 t (by decide) ht
      have hc := pattern_Version.calls (3 : Int) (t : Int) _ 0 wr hvf
      have hlt4 : ((ver 3 t : Nat) : Int) < 4 := by have := ver_lt 3 t; omega
      obtain ⟨v, hv⟩ : ∃ v, v = ver 3 t := ⟨_, rfl⟩
      rw [← hv] at hc hlt4
      have hcw : wr.cell? ⟨g, v, none⟩ = some (.int .i64 (W v)) := (HB.out.cell (p := ⟨g, v, none⟩) hgl).trans (HW.out v (by omega))
      have hWv := (HWB.out v (by omega))
      have hob : o4 a b c d 3 = 0 ∨ o4 a b c d 3 = 1 := HO.out 3
      have hin := wsum_in HWB.out HO.out t 3
      have hsu : wsum W (o4 a b c d) t (3 + 1) = wsum W (o4 a b c d) t 3 + d * W v := by rw [hv]; rfl
      have hob2 : d = 0 ∨ d = 1 := hob
      obtain ⟨y, hy⟩ : ∃ y, y = W v := ⟨_, rfl⟩
      rw [← hy] at hcw hWv hsu
      obtain ⟨p, hp⟩ : ∃ p, d * y = p := ⟨_, rfl⟩
      have hpb : 0 ≤ p ∧ p ≤ 7 := by rcases hob2 with e | e <;> rw [e] at hp <;> omega
      rw [hp] at hsu
      obtain ⟨n0, hn0⟩ : ∃ n0, n0 = wsum W (o4 a b c d) t 3 := ⟨_, rfl⟩
      rw [← hn0] at hsu hin
      have hwp : wrap64 p = p := by unfold wrap64; omega
      have hwn : wrap64 (n0 + p) = n0 + p := by unfold wrap64; omega
      have hcv : IntKind.i64.wrap d = d := by rw [IntKind.wrap_i64]; omega
      have HSU := Aside0.mk hsu
      have HC := Aside0.mk hc
      rw [← hn0]
      clear hvf hc hv hy hob hin hob2 hsu hn0 hWv hpb
      go_wp2_with (first | (go_at_call 48; refine HC.out.mono ?_; rintro e w2 ⟨rfl, hd⟩; have HB2 := Aside0.mk (below_step HB.out hd.below); have hcw2 := (hd.below.cell (p := ⟨g, v, none⟩) (Nat.lt_of_lt_of_le hgl HB.out.size)).trans hcw; clear hd hcw) | fail)
      go_roundw
      case rel => exact ⟨3 + 1, by rw [HSU.out]; first | rfl | rw [hwn], by simp, by omega, HB2⟩
      case measure => simp [intOf]
    · go_wp2_with fail
      go_ret
      exact ⟨by simp, HB.out⟩
end Go.Proofs.YtijpnlmejphfhaaDoor.P

-- YtijpnlmejphfhaaDoorPSEdge
namespace Go.Proofs.YtijpnlmejphfhaaDoor.P
open Go Go.Proofs Go.RowKit Go.Proofs.YtijpnlmejphfhaaDoorW.PrintWords Go.Proofs.YtijpnlmejphfhaaDoorW.PrintLast Go.Proofs.YtijpnlmejphfhaaDoorW.PrintMore
set_option linter.unusedVariables false

def par (n : Nat) : Nat := (n % 2 + n / 2 % 2 + n / 4 % 2 + n / 8 % 2 + n / 16 % 2 + n / 32 % 2 + n / 64 % 2) % 2
def tapN : Nat → Nat
  | 0 => 79
  | 1 => 87
  | 2 => 109
  | _ => 121
/-- What stream j tells of state s and bit i. -/
def ob (s i j : Nat) : Int := (par ((i * 64 + s) &&& tapN j) : Nat)
theorem ob_bit (s i j : Nat) : ob s i j = 0 ∨ ob s i j = 1 := by
  unfold ob par
  generalize (((i * 64 + s) &&& tapN j) % 2 + ((i * 64 + s) &&& tapN j) / 2 % 2 + ((i * 64 + s) &&& tapN j) / 4 % 2 + ((i * 64 + s) &&& tapN j) / 8 % 2 + ((i * 64 + s) &&& tapN j) / 16 % 2 + ((i * 64 + s) &&& tapN j) / 32 % 2 + ((i * 64 + s) &&& tapN j) / 64 % 2) = m
  omega
def outIs (n : Nat) : Bool := decide (conv_out.f (n : Int) = some (ob (n % 64) (n / 64) 0, ob (n % 64) (n / 64) 1, ob (n % 64) (n / 64) 2, ob (n % 64) (n / 64) 3))
theorem out_all : (List.range 128).all outIs = true := by decide +kernel
def wordIs (n : Nat) : Bool := decide (conv_word.f ((n % 64 : Nat) : Int) ((n / 64 : Nat) : Int) = some (n : Int))
theorem word_all : (List.range 128).all wordIs = true := by decide +kernel
theorem edge_f (s i : Nat) (hs : s < 64) (hi : i < 2) : trellis_edge.f (s : Int) (i : Int) = some ((s : Int), ((32 * i + s / 2 : Nat) : Int), (i : Int), ob s i 0, ob s i 1, ob s i 2, ob s i 3, 0) := by
  have hn : 64 * i + s < 128 := by omega
  have e1 := of_decide_eq_true (List.all_eq_true.1 out_all (64 * i + s) (List.mem_range.2 hn))
  have e2 := of_decide_eq_true (List.all_eq_true.1 word_all (64 * i + s) (List.mem_range.2 hn))
  have q1 : (64 * i + s) % 64 = s := by omega
  have q2 : (64 * i + s) / 64 = i := by omega
  rw [q1, q2] at e1 e2
  have e3 : conv_right.f (s : Int) (i : Int) = some true := by
    unfold conv_right.f
    rw [if_pos (by omega), if_pos (by omega), decide_eq_true (by omega)]
  have e4 : wrap64 (((64 * i + s : Nat) : Int) / 2) = ((32 * i + s / 2 : Nat) : Int) := by unfold wrap64; omega
  unfold trellis_edge.f conv_Out.f conv_Next.f
  rw [e3]
  simp only [Option.bind_some, if_true, e2, e1, e4]
theorem from_f (s : Nat) (h : s < 64) : trellis_From.f (s : Int) = some ((s : Int), ((s / 2 : Nat) : Int), 0, ob s 0 0, ob s 0 1, ob s 0 2, ob s 0 3, (s : Int), ((32 + s / 2 : Nat) : Int), 1, ob s 1 0, ob s 1 1, ob s 1 2, ob s 1 3, 0) := by
  have e0 := edge_f s 0 h (by decide)
  have e1 := edge_f s 1 h (by decide)
  have f0 : trellis_edge.f (s : Int) 0 = some ((s : Int), ((s / 2 : Nat) : Int), 0, ob s 0 0, ob s 0 1, ob s 0 2, ob s 0 3, 0) := by
    have q : (32 * 0 + s / 2 : Nat) = s / 2 := by omega
    rw [← q]; exact e0
  have f1 : trellis_edge.f (s : Int) 1 = some ((s : Int), ((32 + s / 2 : Nat) : Int), 1, ob s 1 0, ob s 1 1, ob s 1 2, ob s 1 3, 0) := by
    have q : (32 * 1 + s / 2 : Nat) = 32 + s / 2 := by omega
    rw [← q]; exact e1
  unfold trellis_From.f trellis_two.f
  rw [f0, f1]
  simp only [Option.bind_some, if_true]
theorem o4_ob (s i : Nat) : ∀ j, o4 (ob s i 0) (ob s i 1) (ob s i 2) (ob s i 3) j = 0 ∨ o4 (ob s i 0) (ob s i 1) (ob s i 2) (ob s i 3) j = 1 := by
  intro j
  match j with
  | 0 => exact ob_bit s i 0
  | 1 => exact ob_bit s i 1
  | 2 => exact ob_bit s i 2
  | j + 3 => exact ob_bit s i 3
/-- What the edge of state s and bit i weighs at a step. -/
def ew (W : Nat → Int) (s i t : Nat) : Int := wsum W (o4 (ob s i 0) (ob s i 1) (ob s i 2) (ob s i 3)) t 4
theorem ew_in {W : Nat → Int} (hW : ∀ v, v < 4 → 0 ≤ W v ∧ W v ≤ 7) (s i t : Nat) : 0 ≤ ew W s i t ∧ ew W s i t ≤ 28 := by
  have := wsum_in hW (o4_ob s i) t 4
  unfold ew; omega
end Go.Proofs.YtijpnlmejphfhaaDoor.P

-- YtijpnlmejphfhaaDoorPSBegin
namespace Go.Proofs.YtijpnlmejphfhaaDoor.P
open Go Go.Proofs Go.RowKit Go.Proofs.YtijpnlmejphfhaaDoorW.PrintWords Go.Proofs.YtijpnlmejphfhaaDoorW.PrintLast Go.Proofs.YtijpnlmejphfhaaDoorW.PrintMore
set_option linter.unusedVariables false
set_option linter.unusedSimpArgs false

def sl (b N : Nat) : Value := .slice (some ⟨b, 0, none⟩) N N
def zeros (N : Nat) : List Int := List.replicate N 0
/-- But for block g nothing old has turned. -/
structure FG (g : Nat) (w w' : World) : Prop where
  os : w'.os = w.os
  tape : w'.tape = w.tape
  output : w'.output = w.output
  size : w.heap.size ≤ w'.heap.size
  block : ∀ k, k < w.heap.size → k ≠ g → w'.heap[k]? = w.heap[k]?
theorem FG.refl (g : Nat) (w : World) : FG g w w := ⟨rfl, rfl, rfl, Nat.le_refl _, fun _ _ _ => rfl⟩
theorem FG.trans {g : Nat} {w w1 w2 : World} (h : FG g w w1) (k : FG g w1 w2) : FG g w w2 :=
  ⟨k.os.trans h.os, k.tape.trans h.tape, k.output.trans h.output, Nat.le_trans h.size k.size, fun i hi hg => (k.block i (Nat.lt_of_lt_of_le hi h.size) hg).trans (h.block i hi hg)⟩
theorem FG.of_below {g : Nat} {w w' : World} (h : Below w.heap.size w w') : FG g w w' := ⟨h.os, h.tape, h.output, h.size, fun k hk _ => h.block k hk⟩
theorem FG.set (g i : Nat) (w : World) (x : Value) : FG g w (w.setCell ⟨g, i, none⟩ x) := ⟨rfl, rfl, rfl, by simp, fun k _ hk => Below.heap_setCell w ⟨g, i, none⟩ x k hk⟩
theorem FG.below {g : Nat} {w w' : World} (h : FG g w w') {B : Nat} (hB : B ≤ g) (hs : B ≤ w.heap.size) : Below B w w' := ⟨h.os, h.tape, h.output, h.size, fun k hk => h.block k (by omega) (by omega)⟩
theorem TP.fg {g : Nat} {w w' : World} (h : TP w) (hg : g ≠ 0) (hf : FG g w w') : TP w' := by
  have e : ∀ i, w'.cell? ⟨0, i, none⟩ = w.cell? ⟨0, i, none⟩ := fun i => World.cell?_of_block (w := w) (hf.block 0 h.lt (fun e => hg e.symm))
  exact ⟨(e 0).trans h.c0, (e 1).trans h.c1, (e 2).trans h.c2, (e 3).trans h.c3⟩
/-- The counter's cells: the weights, the most, the rows of the first k states. -/
structure CC (C : Array Value) (W : Nat → Int) (N : Nat) (A : Nat → Nat) (k : Nat) : Prop where
  size : C.size = 70
  ws : ∀ v, v < 4 → C[v]? = some (.int .i64 (W v))
  top : C[4]? = some (.int .i64 ((N : Int) - 1))
  ways : ∀ s, s < k → C[5 + s]? = some (sl (A s) N)
variable {C : Array Value} {W : Nat → Int} {N : Nat} {A : Nat → Nat} {k : Nat}
theorem CC.set (h : CC C W N A k) (hk : k < 64) : CC (C.setIfInBounds (5 + k) (sl (A k) N)) W N A (k + 1) := by
  refine ⟨by simp [h.size], fun v hv => ?_, ?_, fun s hs => ?_⟩
  · rw [Array.getElem?_setIfInBounds, if_neg (by omega)]; exact h.ws v hv
  · rw [Array.getElem?_setIfInBounds, if_neg (by omega)]; exact h.top
  · rw [Array.getElem?_setIfInBounds]
    by_cases e : 5 + k = 5 + s
    · rw [if_pos e, if_pos (by rw [h.size]; omega)]
      have : k = s := by omega
      rw [this]
    · rw [if_neg e]; exact h.ways s (by omega)
theorem CC.found (h : CC C W N A k) (hk : k ≤ 64) (F : Nat) : CC (C.setIfInBounds 69 (sl F N)) W N A k ∧ (C.setIfInBounds 69 (sl F N))[69]? = some (sl F N) := by
  refine ⟨⟨by simp [h.size], fun v hv => ?_, ?_, fun s hs => ?_⟩, ?_⟩
  · rw [Array.getElem?_setIfInBounds, if_neg (by omega)]; exact h.ws v hv
  · rw [Array.getElem?_setIfInBounds, if_neg (by omega)]; exact h.top
  · rw [Array.getElem?_setIfInBounds, if_neg (by omega)]; exact h.ways s hs
  · rw [Array.getElem?_setIfInBounds, if_pos rfl, if_pos (by rw [h.size]; omega)]
/-- The counter at block g: of state s the row lies in block A s, what is found in block F. -/
structure SP (w : World) (g : Nat) (W : Nat → Int) (N : Nat) (A : Nat → Nat) (F : Nat) (rows : Nat → List Int) (fnd : List Int) : Prop where
  blk : ∃ C, w.heap[g]? = some (.cells C 52 (0, 0)) ∧ CC C W N A 64 ∧ C[69]? = some (sl F N)
  row : ∀ s, s < 64 → w.heap[A s]? = some (.cells (ints (rows s)) 3 (0, 0)) ∧ (rows s).length = N
  fnd : w.heap[F]? = some (.cells (ints fnd) 3 (0, 0)) ∧ fnd.length = N
  inj : ∀ s t, s < 64 → t < 64 → A s = A t → s = t
  ne : ∀ s, s < 64 → A s ≠ F
theorem SP.below {w w' : World} {g F : Nat} {rows : Nat → List Int} {fnd : List Int} (h : SP w g W N A F rows fnd) (hb : Below w.heap.size w w') : SP w' g W N A F rows fnd := by
  obtain ⟨C, hC, hcc, hF⟩ := h.blk
  exact ⟨⟨C, (hb.block g (blk_lt hC)).trans hC, hcc, hF⟩, fun s hs => ⟨(hb.block _ (blk_lt (h.row s hs).1)).trans (h.row s hs).1, (h.row s hs).2⟩, ⟨(hb.block F (blk_lt h.fnd.1)).trans h.fnd.1, h.fnd.2⟩, h.inj, h.ne⟩
theorem SP.lt {w : World} {g F : Nat} {rows : Nat → List Int} {fnd : List Int} (h : SP w g W N A F rows fnd) : g < w.heap.size := by
  obtain ⟨C, hC, _⟩ := h.blk
  exact blk_lt hC
theorem SP.neg {w : World} {g F : Nat} {rows : Nat → List Int} {fnd : List Int} (h : SP w g W N A F rows fnd) (s : Nat) (hs : s < 64) : g ≠ A s := by
  obtain ⟨C, hC, _⟩ := h.blk
  intro e
  have h2 := (h.row s hs).1
  rw [← e, hC] at h2
  injection h2 with h2
  injection h2 with _ h2
  exact absurd h2 (by decide)
theorem SP.negF {w : World} {g F : Nat} {rows : Nat → List Int} {fnd : List Int} (h : SP w g W N A F rows fnd) : g ≠ F := by
  obtain ⟨C, hC, _⟩ := h.blk
  intro e
  have h2 := h.fnd.1
  rw [← e, hC] at h2
  injection h2 with h2
  injection h2 with _ h2
  exact absurd h2 (by decide)
/-- A state's row written. -/
theorem SP.put {w w' : World} {g F : Nat} {rows : Nat → List Int} {fnd x : List Int} (h : SP w g W N A F rows fnd) (s : Nat) (hs : s < 64) (hp : Put1 (A s) w w') (hx : w'.heap[A s]? = some (.cells (ints x) 3 (0, 0))) (hl : x.length = N) :
    SP w' g W N A F (fun u => if u = s then x else rows u) fnd := by
  obtain ⟨C, hC, hcc, hF⟩ := h.blk
  refine ⟨⟨C, (hp.block g (h.neg s hs)).trans hC, hcc, hF⟩, fun u hu => ?_, ⟨(hp.block F (h.ne s hs).symm).trans h.fnd.1, h.fnd.2⟩, h.inj, h.ne⟩
  by_cases e : u = s
  · subst e
    rw [if_pos rfl]
    exact ⟨hx, hl⟩
  · rw [if_neg e]
    exact ⟨(hp.block (A u) (fun q => e (h.inj u s hu hs q))).trans (h.row u hu).1, (h.row u hu).2⟩
theorem SP.cell {w : World} {g F : Nat} {rows : Nat → List Int} {fnd : List Int} (h : SP w g W N A F rows fnd) : (∀ v, v < 4 → w.cell? ⟨g, v, none⟩ = some (.int .i64 (W v))) ∧ w.cell? ⟨g, 4, none⟩ = some (.int .i64 ((N : Int) - 1)) ∧ (∀ s, s < 64 → w.cell? ⟨g, 5 + s, none⟩ = some (sl (A s) N)) ∧ w.cell? ⟨g, 69, none⟩ = some (sl F N) := by
  obtain ⟨C, hC, hcc, hF⟩ := h.blk
  exact ⟨fun v hv => (blk_cell hC v).trans (hcc.ws v hv), (blk_cell hC 4).trans hcc.top, fun s hs => (blk_cell hC (5 + s)).trans (hcc.ways s hs), (blk_cell hC 69).trans hF⟩
theorem from_0 : trellis_From.f 0 = some (0, 0, 0, ob 0 0 0, ob 0 0 1, ob 0 0 2, ob 0 0 3, 0, 32, 1, ob 0 1 0, ob 0 1 1, ob 0 1 2, ob 0 1 3, 0) := from_f 0 (by decide)
def one (N : Nat) : List Int := (zeros N).set 0 1
def beginRows (W : Nat → Int) (N t s : Nat) : List Int := if s = 32 then addI (zeros N) (one N) (ew W 0 1 t).toNat N else zeros N
def begin4.T : Bool × List (List Nat × List Nat) := (true, [([], []), ([], []), ([], []), ([2], [2]), ([0], [0]), ([4], [4]), ([5, 1, 0, 1, 2, 3], [1, 5]), ([6, 3, 3, 0, 1, 2, 3], [3, 6])])
def begin4.B : List Nat := [0, 0, 0, 4, 1, 17, 63, 127]
theorem begin4.tab : rtab .any (opsOf Tryd.f27 4) = begin4.T := by kernel_rfl
theorem begin4.bits : waitsOk begin4.T.2 begin4.B = true := by kernel_rfl
def begin12.T : Bool × List (List Nat × List Nat) := (true, [([], []), ([], []), ([], []), ([2], [2]), ([3], [3]), ([1], [1]), ([5], [5]), ([6, 4], [4, 6]), ([7], [7]), ([], []), ([], []), ([], []), ([11], [11]), ([], []), ([10, 12, 13], [10, 12, 13]), ([0, 8, 9, 14, 14], [0, 8, 9, 14])])
def begin12.B : List Nat := [0, 0, 0, 4, 12, 2, 34, 126, 254, 0, 0, 0, 2048, 0, 15360, 32767]
theorem begin12.tab : rtab .any (opsOf Tryd.f27 12) = begin12.T := by kernel_rfl
theorem begin12.bits : waitsOk begin12.T.2 begin12.B = true := by kernel_rfl
set_option maxRecDepth 100000 in
set_option maxHeartbeats 8000000 in
theorem begin_calls {w : World} {g : Nat} (hT : TP w) (hg0 : g ≠ 0) (hC : w.heap[g]? = some (.cells C 52 (0, 0))) (hcc : CC C W N A 0) (hN : 1 ≤ N ∧ N ≤ 1000) (hWb : ∀ v, v < 4 → 0 ≤ W v ∧ W v ≤ 7) (t : Nat) (ht : t ≤ 100000) :
    Calls Tryd.prog 27 #[.pointer (some ⟨g, 0, none⟩), .int .i64 (t : Int)] w fun e w' => e = .returned (.int .i64 0) ∧ ∃ A F, SP w' g W N A F (beginRows W N t) (zeros N) ∧ FG g w w' ∧ w.heap.size ≤ F := by
  have HT := Aside0.mk hT
  have HG0 := Aside0.mk hg0
  have HWB := Aside0.mk hWb
  have HN := Aside0.mk hN
  have hgl : g < w.heap.size := blk_lt hC
  obtain ⟨n1, hn1⟩ : ∃ n1, n1 = w.heap.size := ⟨_, rfl⟩
  have HN1 := Aside0.mk hn1
  have HC0 := Aside0.mk (And.intro hC (show CC C W N (fun s => n1 + s) 0 from ⟨hcc.size, hcc.ws, hcc.top, fun s hs => absurd hs (Nat.not_lt_zero _)⟩))
  obtain ⟨tI, htI⟩ : ∃ tI : Int, (t : Int) = tI := ⟨_, rfl⟩
  rw [htI]
  have HTI := Aside0.mk htI
  clear hT hg0 hWb hC hcc hN hn1 htI
  go_enter Tryd.func27, Tryd.ntmps27
  go_wp2_with fail
  go_loopw [9] (fun v9 wr => ∃ (i : Nat) (C : Array Value), v9 = .int .i64 (i : Int) ∧ i ≤ 64 ∧ Aside0 (wr.heap.size = n1 + i) ∧ Aside0 (wr.heap[g]? = some (.cells C 52 (0, 0)) ∧ CC C W N (fun s => n1 + s) i) ∧ Aside0 (∀ s, s < i → wr.heap[n1 + s]? = some (.cells (ints (zeros N)) 3 (0, 0))) ∧ Aside0 (FG g w wr)) (fun v9 _ => 64 - (intOf v9).toNat)
  case atStart => exact ⟨0, C, by simp, by omega, ⟨by rw [HN1.out]; rfl⟩, HC0, ⟨fun s hs => absurd hs (Nat.not_lt_zero _)⟩, ⟨FG.refl _ _⟩⟩
  case round =>
    clear HC0
    obtain ⟨i, C, rfl, hi, HZ, HC, HR, HF⟩ := hrel
    by_cases hlt : i < 64
    · have hlb : decide ((i : Int) < 64) = true := decide_eq_true (by omega)
      have hi64 : (i : Int) < 64 := by omega
      go_wp2_with fail
      have hem := empty_calls (w := wr.drew) (g := g) (N := N) ((blk_cell HC.out.1 4).trans HC.out.2.top) HN.out.2
      obtain ⟨b, hb⟩ : ∃ b, b = n1 + i := ⟨_, rfl⟩
      have hzb : wr.drew.heap.size = b := by rw [hb]; exact HZ.out
      rw [hzb] at hem
      have HEM := Aside0.mk hem
      have HBE := Aside0.mk (And.intro hb hzb)
      clear hem hb hzb
      refine start_ (n := 8) (S := (fun w' => True)) (ds := [7]) #[false, false, false, false, false, false, false, false] (by kernel_rfl) rfl rfl trivial (fun hHeld => ?_)
      refine with_tabW begin4.tab begin4.bits (fun HT_ HW_ => ?_)
      refine pure_ (i := 0) (N := some 12) (v := ?_) (a' := ?_) #[true, false, false, false, false, false, false, false] rfl rfl (any_of HT_.out (by kernel_rfl)) (fun _ _ _ h => h) (Or.inl ⟨by rfl, ?_⟩) ?_ ?_
      rotate_left
      · intro w'
        go_simp
        with_reducible rfl
      rotate_left
      · simp only [Act.put, List.setIfInBounds_toArray, List.set_cons_zero, List.set_cons_succ, i64_w, i32_w]
        rfl
      refine pure_ (i := 1) (N := some 13) (v := ?_) (a' := ?_) #[true, true, false, false, false, false, false, false] rfl rfl (any_of HT_.out (by kernel_rfl)) (fun _ _ _ h => h) (Or.inl ⟨by rfl, ?_⟩) ?_ ?_
      rotate_left
      · intro w'
        go_simp
        with_reducible rfl
      rotate_left
      · simp only [Act.put, List.setIfInBounds_toArray, List.set_cons_zero, List.set_cons_succ, i64_w, i32_w]
        rfl
      refine pure_ (i := 2) (N := some 14) (v := ?_) (a' := ?_) #[true, true, true, false, false, false, false, false] rfl rfl (any_of HT_.out (by kernel_rfl)) (fun _ _ _ h => h) (Or.inl ⟨by rfl, ?_⟩) ?_ ?_
      rotate_left
      · intro w'
        go_simp
        with_reducible rfl
      rotate_left
      · simp only [Act.put, List.setIfInBounds_toArray, List.set_cons_zero, List.set_cons_succ, i64_w, i32_w]
        rfl
      refine pure_ (i := 4) (N := some 16) (v := ?_) (a' := ?_) #[true, true, true, false, true, false, false, false] rfl rfl (any_of HT_.out (by kernel_rfl)) (fun _ _ _ h => h) (Or.inl ⟨by rfl, ?_⟩) ?_ ?_
      rotate_left
      · intro w'
        go_simp
        with_reducible rfl
      rotate_left
      · simp only [Act.put, List.setIfInBounds_toArray, List.set_cons_zero, List.set_cons_succ, i64_w, i32_w]
        rfl
      refine pure_ (i := 5) (N := some 17) (v := ?_) (a' := ?_) #[true, true, true, false, true, true, false, false] rfl rfl (any_of HT_.out (by kernel_rfl)) (fun _ _ _ h => h) (Or.inl ⟨by rfl, ?_⟩) ?_ ?_
      rotate_left
      · intro w'
        go_simp
        with_reducible rfl
      rotate_left
      · simp only [Act.put, List.setIfInBounds_toArray, List.set_cons_zero, List.set_cons_succ, i64_w, i32_w]
        rfl
      refine one_ (i := 3) (N := some 15) #[true, true, true, true, true, true, false, false] rfl rfl (one_of HT_.out (by kernel_rfl)) (by decide) (fun K hK => ?_)
      refine goes_ Tryd.func38 (by kernel_rfl) rfl #[.pointer (some ⟨g, 0, none⟩)] (by rfl) rfl rfl (by (try simp only [List.map_toArray, List.map_cons, List.map_nil]); first | done | rfl | (go_simp; done) | simp [Act.eval]) ?_
      refine HEM.out.mono ?_
      rintro e w1 ⟨rfl, hw1⟩
      have HW1 := Aside0.mk hw1
      have hb1 := below_alloc (Below.refl wr.drew.heap.size wr.drew) (.cells (ints (List.replicate N 0)) 3)
      rw [← hw1] at hb1
      have hbg := (hb1.block g (Nat.lt_of_lt_of_le hgl HF.out.size)).trans HC.out.1
      have HB1 := Aside0.mk (And.intro hb1 hbg)
      clear hw1 hb1 hbg
      refine ⟨_, rfl, ?_⟩
      refine hK.out _ _ trivial (fun hHeld => ?_)
      clear hK K
      refine norm_ (a' := ?_) ?_ ?_
      rotate_left
      · show Act.put _ (some 15) _ = _
        simp only [Act.put, List.setIfInBounds_toArray, List.set_cons_zero, List.set_cons_succ, i64_w, i32_w]
        rfl
      refine pure_ (i := 6) (N := some 18) (v := ?_) (a' := ?_) #[true, true, true, true, true, true, true, false] rfl rfl (any_of HT_.out (by kernel_rfl)) (fun _ _ _ h => h) (Or.inl ⟨by rfl, ?_⟩) ?_ ?_
      rotate_left
      · intro w'
        go_simp
        with_reducible rfl
      rotate_left
      · simp only [Act.put, List.setIfInBounds_toArray, List.set_cons_zero, List.set_cons_succ, i64_w, i32_w]
        rfl
      refine last_ (i := 7) (N := none) #[true, true, true, true, true, true, true, true] rfl rfl (one_of HT_.out (by kernel_rfl)) (by decide) (fun K hK => ?_)
      have hcg : ∃ u, w1.cell? ⟨g, 5 + i, none⟩ = some u := ⟨C[5 + i]'(by rw [HC.out.2.size]; omega), (blk_cell HB1.out.2 (5 + i)).trans (Array.getElem?_eq_getElem _)⟩
      obtain ⟨u, hcg⟩ := hcg
      have hfz := blk_frozen HB1.out.2 (5 + i)
      refine skip_ (w1 := ?_) (by rfl) rfl ?_ ?_
      rotate_left 1
      · go_simp
        rfl
      refine hK.out _ _ ?_
      clear hK K
      refine done_ (done_of HT_.out (by kernel_rfl)) ?_
      clear hcg hfz
      have hsz := HBE.out.2
      have hbe := HBE.out.1
      have hz2 : (w1.setCell ⟨g, 5 + i, none⟩ (.slice (some ⟨b, 0, none⟩) N N)).heap.size = n1 + (i + 1) := by
        rw [HW1.out]; simp only [World.size_setCell, World.size_alloc]; omega
      have hC2 := blk_put HB1.out.2 (5 + i) (sl b N) rfl
      have hcc2 := HC.out.2.set hlt
      have hgn : g < n1 := by rw [HN1.out]; exact hgl
      have hR2 : ∀ s, s < i + 1 → (w1.setCell ⟨g, 5 + i, none⟩ (.slice (some ⟨b, 0, none⟩) N N)).heap[n1 + s]? = some (.cells (ints (zeros N)) 3 (0, 0)) := by
        intro s hs
        refine (Below.heap_setCell w1 ⟨g, 5 + i, none⟩ _ (n1 + s) (by show n1 + s ≠ g; omega)).trans ?_
        by_cases q : s < i
        · exact (HB1.out.1.block (n1 + s) (by rw [hsz]; omega)).trans (HR.out s q)
        · have e : n1 + s = wr.drew.heap.size := by rw [hsz]; omega
          rw [e, HW1.out]
          exact blk_new _ _
      have hF2 := ((HF.out.trans (FG.of_below (below_drew1 (Below.refl wr.heap.size wr)))).trans (FG.of_below HB1.out.1)).trans (FG.set g (5 + i) w1 (.slice (some ⟨b, 0, none⟩) N N))
      rw [show (sl b N) = sl (n1 + i) N by rw [hbe]] at hC2
      have h2 := Aside0.mk (And.intro hz2 (And.intro (show (w1.setCell ⟨g, 5 + i, none⟩ (.slice (some ⟨b, 0, none⟩) N N)).heap[g]? = some (.cells (C.setIfInBounds (5 + i) (sl (n1 + i) N)) 52 (0, 0)) by rw [← hC2, hbe]; rfl) (And.intro hcc2 (And.intro hR2 hF2))))
      clear hsz hbe hz2 hC2 hcc2 hgn hR2 hF2 HB1 HW1 HEM HBE HR HF HC HZ
      generalize (w1.setCell ⟨g, 5 + i, none⟩ (.slice (some ⟨b, 0, none⟩) N N)) = w2 at h2 ⊢
      go_wp2
      go_roundw
      case rel => exact ⟨i + 1, _, by simp, by omega, ⟨h2.out.1⟩, ⟨⟨h2.out.2.1, h2.out.2.2.1⟩⟩, ⟨h2.out.2.2.2.1⟩, ⟨h2.out.2.2.2.2⟩⟩
      case measure => simp [intOf]; omega
    · obtain rfl : i = 64 := by omega
      have hlb : decide (((64 : Nat) : Int) < 64) = false := by decide
      have hem := empty_calls (w := wr) (g := g) (N := N) ((blk_cell HC.out.1 4).trans HC.out.2.top) HN.out.2
      rw [HZ.out] at hem
      have HEM := Aside0.mk hem
      clear hem
      go_wp2_with (first
        | (go_at_call 38; refine Aside0.out ?_)
        | fail)
      refine Aside0.mk ?_
      refine HEM.out.mono ?_
      rintro e w1 ⟨rfl, hw1⟩
      have hb1 := below_alloc (Below.refl wr.heap.size wr) (.cells (ints (List.replicate N 0)) 3)
      rw [← hw1] at hb1
      have hbg := (hb1.block g (Nat.lt_of_lt_of_le hgl HF.out.size)).trans HC.out.1
      have hcg : ∃ u, w1.cell? ⟨g, 69, none⟩ = some u := ⟨C[69]'(by rw [HC.out.2.size]; omega), (blk_cell hbg 69).trans (Array.getElem?_eq_getElem _)⟩
      obtain ⟨u, hcg⟩ := hcg
      have hfz := blk_frozen hbg 69
      have HW1 := Aside0.mk hw1
      have HB1 := Aside0.mk (And.intro hb1 hbg)
      clear hw1 hb1 hbg HEM
      go_wp2_with (first
        | (go_at_call 39; refine Aside0.out ?_)
        | fail)
      refine Aside0.mk ?_
      have hgn : g < n1 := by rw [HN1.out]; exact hgl
      have hSP : SP (w1.setCell ⟨g, 69, none⟩ (.slice (some ⟨n1 + 64, 0, none⟩) N N)) g W N (fun s => n1 + s) (n1 + 64) (fun _ => zeros N) (zeros N) := by
        have hcf := HC.out.2.found (Nat.le_refl _) (n1 + 64)
        refine ⟨⟨_, blk_put HB1.out.2 69 _ rfl, hcf.1, hcf.2⟩, fun s hs => ⟨?_, List.length_replicate⟩, ⟨?_, List.length_replicate⟩, fun s u _ _ e => by have e : n1 + s = n1 + u := e; omega, fun s hs => by show n1 + s ≠ n1 + 64; omega⟩
        · exact (Below.heap_setCell w1 ⟨g, 69, none⟩ _ (n1 + s) (by show n1 + s ≠ g; omega)).trans ((HB1.out.1.block (n1 + s) (by rw [HZ.out]; omega)).trans (HR.out s hs))
        · refine (Below.heap_setCell w1 ⟨g, 69, none⟩ _ (n1 + 64) (by show n1 + 64 ≠ g; omega)).trans ?_
          rw [HW1.out, ← HZ.out]
          exact blk_new _ _
      have hF2 := (HF.out.trans (FG.of_below HB1.out.1)).trans (FG.set g 69 w1 (.slice (some ⟨n1 + 64, 0, none⟩) N N))
      have hT2 := HT.out.fg HG0.out hF2
      obtain ⟨w2, hw2⟩ : ∃ w2, w2 = w1.setCell ⟨g, 69, none⟩ (.slice (some ⟨n1 + 64, 0, none⟩) N N) := ⟨_, rfl⟩
      rw [← hw2] at hSP hF2 hT2 ⊢
      have HSP := Aside0.mk hSP
      have HF2 := Aside0.mk hF2
      have hfr := trellis_From.calls 0 _ _ _ _ _ _ _ _ _ _ _ _ _ _ _ w2 from_0 hT2
      obtain ⟨p0, hp0⟩ : ∃ p0, p0 = ob 0 0 0 := ⟨_, rfl⟩
      obtain ⟨p1, hp1⟩ : ∃ p1, p1 = ob 0 0 1 := ⟨_, rfl⟩
      obtain ⟨p2, hp2⟩ : ∃ p2, p2 = ob 0 0 2 := ⟨_, rfl⟩
      obtain ⟨p3, hp3⟩ : ∃ p3, p3 = ob 0 0 3 := ⟨_, rfl⟩
      obtain ⟨q0, hq0⟩ : ∃ q0, q0 = ob 0 1 0 := ⟨_, rfl⟩
      obtain ⟨q1, hq1⟩ : ∃ q1, q1 = ob 0 1 1 := ⟨_, rfl⟩
      obtain ⟨q2, hq2⟩ : ∃ q2, q2 = ob 0 1 2 := ⟨_, rfl⟩
      obtain ⟨q3, hq3⟩ : ∃ q3, q3 = ob 0 1 3 := ⟨_, rfl⟩
      rw [← hp0, ← hp1, ← hp2, ← hp3, ← hq0, ← hq1, ← hq2, ← hq3] at hfr
      have HQ := Aside0.mk (And.intro hq0 (And.intro hq1 (And.intro hq2 hq3)))
      refine hfr.mono ?_
      rintro e w3 ⟨rfl, hb3⟩
      have hba := below_alloc (Below.refl w3.heap.size w3) (.cells #[.int .i64 0, .int .i64 0, .int .u8 0, .int .u8 p0, .int .u8 p1, .int .u8 p2, .int .u8 p3, .int .i64 0, .int .i64 32, .int .u8 1, .int .u8 q0, .int .u8 q1, .int .u8 q2, .int .u8 q3] 78)
      have hb6 := blk_new w3 (.cells #[.int .i64 0, .int .i64 0, .int .u8 0, .int .u8 p0, .int .u8 p1, .int .u8 p2, .int .u8 p3, .int .i64 0, .int .i64 32, .int .u8 1, .int .u8 q0, .int .u8 q1, .int .u8 q2, .int .u8 q3] 78)
      have HB6 := Aside0.mk (And.intro hb6 (And.intro hba hb3))
      have hc4 : w3.cell? ⟨g, 4, none⟩ = some (.int .i64 ((N : Int) - 1)) := (HSP.out.below hb3).cell.2.1
      clear hgn hSP hF2 hT2 hw2 hfr hp0 hp1 hp2 hp3 hq0 hq1 hq2 hq3 hb3 hba hb6 hcg hfz HR HZ HC HW1 HB1 HF
      go_wp2_with (first
        | (go_at_call 38; refine Aside0.out ?_)
        | fail)
      refine Aside0.mk ?_
      clear hc4
      obtain ⟨w4, hw4⟩ : ∃ w4, w4 = w3.alloc (.cells #[.int .i64 0, .int .i64 0, .int .u8 0, .int .u8 p0, .int .u8 p1, .int .u8 p2, .int .u8 p3, .int .i64 0, .int .i64 32, .int .u8 1, .int .u8 q0, .int .u8 q1, .int .u8 q2, .int .u8 q3] 78) := ⟨_, rfl⟩
      obtain ⟨b6, hb6e⟩ : ∃ b6, b6 = w3.heap.size := ⟨_, rfl⟩
      rw [← hw4, ← hb6e] at HB6
      rw [← hw4, ← hb6e]
      have hb24 := below_step HB6.out.2.2 (by rw [hb6e] at HB6; exact HB6.out.2.1)
      have hSP4 := HSP.out.below hb24
      refine (empty_calls (w := w4) (g := g) (N := N) hSP4.cell.2.1 HN.out.2).mono ?_
      rintro e w5 ⟨rfl, hw5⟩
      have hO := blk_new w4 (.cells (ints (List.replicate N 0)) 3)
      have hb45 := below_alloc (Below.refl w4.heap.size w4) (.cells (ints (List.replicate N 0)) 3)
      obtain ⟨O, hOe⟩ : ∃ O, O = w4.heap.size := ⟨_, rfl⟩
      rw [← hw5] at hO hb45
      rw [← hOe] at hO ⊢
      have hcO : w5.cell? ⟨O, 0, none⟩ = some (.int .i64 ((List.replicate N (0 : Int)).getD 0 0)) := ints_cell hO 0 (by rw [List.length_replicate]; have := HN.out; omega)
      have hfO := blk_frozen hO 0
      have hN0 : (0 : Int) < (N : Int) := by have := HN.out; omega
      have HB5 := Aside0.mk (And.intro hO (And.intro hb45 (And.intro hOe (And.intro hb24 (And.intro hw5 hb6e)))))
      clear hw4 hb24 hSP4 hw5 hO hb45 hOe hb6e
      go_wp2_with fail
      have hb56 : Below w4.heap.size w5 (w5.setCell ⟨O, 0, none⟩ (.int .i64 1)) := ⟨rfl, rfl, rfl, by simp, fun k hk => Below.heap_setCell w5 ⟨O, 0, none⟩ _ k (by show k ≠ O; have := HB5.out.2.2.1; omega)⟩
      have hO6 : (w5.setCell ⟨O, 0, none⟩ (.int .i64 1)).heap[O]? = some (.cells (ints (one N)) 3 (0, 0)) := by
        unfold one zeros
        rw [← ints_set]
        exact blk_put HB5.out.1 0 _ rfl
      have hb46 : Below w4.heap.size w4 (w5.setCell ⟨O, 0, none⟩ (.int .i64 1)) := HB5.out.2.1.trans hb56
      obtain ⟨w6, hw6⟩ : ∃ w6, w6 = (w5.setCell ⟨O, 0, none⟩ (.int .i64 1)) := ⟨_, rfl⟩
      have hb46d : Below w4.heap.size w4 w6.drew := by rw [hw6]; exact below_drew1 hb46
      have hO6d : w6.drew.heap[O]? = some (.cells (ints (one N)) 3 (0, 0)) := by rw [hw6]; exact hO6
      have hb66 := (hb46d.block b6 (blk_lt HB6.out.1)).trans HB6.out.1
      have hSP6 := HSP.out.below (below_step HB5.out.2.2.2.1 hb46d)
      have hF6 := HF2.out.trans (FG.of_below (below_step HB5.out.2.2.2.1 hb46d))
      have HS := Aside0.mk (show w6.drew.cell? ⟨b6, 7, none⟩ = some (.int .i64 0) ∧ w6.drew.cell? ⟨b6, 8, none⟩ = some (.int .i64 32) ∧ w6.drew.cell? ⟨b6, 9, none⟩ = some (.int .u8 1) ∧ w6.drew.cell? ⟨b6, 10, none⟩ = some (.int .u8 q0) ∧ w6.drew.cell? ⟨b6, 11, none⟩ = some (.int .u8 q1) ∧ w6.drew.cell? ⟨b6, 12, none⟩ = some (.int .u8 q2) ∧ w6.drew.cell? ⟨b6, 13, none⟩ = some (.int .u8 q3) ∧ w6.drew.cell? ⟨g, 37, none⟩ = some (.slice (some ⟨n1 + 32, 0, none⟩) N N) from
        ⟨blk_cell hb66 7, blk_cell hb66 8, blk_cell hb66 9, blk_cell hb66 10, blk_cell hb66 11, blk_cell hb66 12, blk_cell hb66 13, hSP6.cell.2.2.1 32 (by decide)⟩)
      have hb6l : b6 < w6.drew.heap.size := blk_lt hb66
      have hgl6 : g < w6.drew.heap.size := hSP6.lt
      have hwe := weigh_calls hgl6 hSP6.cell.1 HWB.out 0 32 1 q0 q1 q2 q3 (by rw [HQ.out.1, HQ.out.2.1, HQ.out.2.2.1, HQ.out.2.2.2]; exact o4_ob 0 1) t ht
      have hewe : wsum W (o4 q0 q1 q2 q3) t 4 = ew W 0 1 t := by rw [HQ.out.1, HQ.out.2.1, HQ.out.2.2.1, HQ.out.2.2.2]; rfl
      obtain ⟨bw, hbw⟩ := Int.eq_ofNat_of_zero_le (ew_in HWB.out 0 1 t).1
      have hbw2 : bw ≤ 28 := by have := (ew_in HWB.out 0 1 t).2; omega
      obtain ⟨bI, hbI⟩ : ∃ bI : Int, (bw : Int) = bI := ⟨_, rfl⟩
      have HBI := Aside0.mk hbI
      rw [hewe, hbw, HTI.out, hbI] at hwe
      have HWE := Aside0.mk hwe
      have HSP6 := Aside0.mk (And.intro hSP6 (And.intro hF6 hO6d))
      have HBW := Aside0.mk (And.intro hbw hbw2)
      have HOn := Aside0.mk (show n1 + 32 ≠ O by have h32 := (HSP.out.row 32 (by decide)).1; have := blk_lt h32; have h2 := HB5.out.2.2.1; have h3 := HB5.out.2.2.2.1.size; have h4 : n1 + 32 < w2.heap.size := this; omega)
      clear hcO hfO hb56 hO6 hb46 hb46d hO6d hb66 hSP6 hF6 hwe hewe hbw hbw2 hbI
      rw [← hw6]
      clear hw6
      refine start_ (n := 16) (S := (fun w' => w'.cell? ⟨b6, 7, none⟩ = some (.int .i64 0) ∧ w'.cell? ⟨b6, 8, none⟩ = some (.int .i64 32) ∧ w'.cell? ⟨b6, 9, none⟩ = some (.int .u8 1) ∧ w'.cell? ⟨b6, 10, none⟩ = some (.int .u8 q0) ∧ w'.cell? ⟨b6, 11, none⟩ = some (.int .u8 q1) ∧ w'.cell? ⟨b6, 12, none⟩ = some (.int .u8 q2) ∧ w'.cell? ⟨b6, 13, none⟩ = some (.int .u8 q3) ∧ w'.cell? ⟨g, 37, none⟩ = some (.slice (some ⟨n1 + 32, 0, none⟩) N N))) (ds := [15]) #[false, false, false, false, false, false, false, false, false, false, false, false, false, false, false, false] (by kernel_rfl) rfl rfl HS.out (fun hHeld => ?_)
      refine with_tabW begin12.tab begin12.bits (fun HT_ HW_ => ?_)
      refine pure_ (i := 0) (N := some 36) (v := ?_) (a' := ?_) #[true, false, false, false, false, false, false, false, false, false, false, false, false, false, false, false] rfl rfl (any_of HT_.out (by kernel_rfl)) (fun _ _ _ h => h) (Or.inl ⟨by rfl, ?_⟩) ?_ ?_
      rotate_left
      · intro w'
        go_simp
        with_reducible rfl
      rotate_left
      · simp only [Act.put, List.setIfInBounds_toArray, List.set_cons_zero, List.set_cons_succ, i64_w, i32_w]
        rfl
      refine pure_ (i := 1) (N := some 37) (v := ?_) (a' := ?_) #[true, true, false, false, false, false, false, false, false, false, false, false, false, false, false, false] rfl rfl (any_of HT_.out (by kernel_rfl)) (fun _ _ _ h => h) (Or.inl ⟨by rfl, ?_⟩) ?_ ?_
      rotate_left
      · intro w'
        go_simp
        with_reducible rfl
      rotate_left
      · simp only [Act.put, List.setIfInBounds_toArray, List.set_cons_zero, List.set_cons_succ, i64_w, i32_w]
        rfl
      refine pure_ (i := 2) (N := some 38) (v := ?_) (a' := ?_) #[true, true, true, false, false, false, false, false, false, false, false, false, false, false, false, false] rfl rfl (any_of HT_.out (by kernel_rfl)) (fun _ _ _ h => h) (Or.inl ⟨by rfl, ?_⟩) ?_ ?_
      rotate_left
      · intro w'
        go_simp
        with_reducible rfl
      rotate_left
      · simp only [Act.put, List.setIfInBounds_toArray, List.set_cons_zero, List.set_cons_succ, i64_w, i32_w]
        rfl
      refine pure_ (i := 3) (N := some 39) (v := ?_) (a' := ?_) #[true, true, true, true, false, false, false, false, false, false, false, false, false, false, false, false] rfl rfl (any_of HT_.out (by kernel_rfl)) (fun _ _ _ h => h) (Or.inl ⟨by rfl, ?_⟩) ?_ ?_
      rotate_left
      · intro w'
        go_simp
        with_reducible rfl
      rotate_left
      · simp only [Act.put, List.setIfInBounds_toArray, List.set_cons_zero, List.set_cons_succ, i64_w, i32_w]
        rfl
      refine take_ (i := 4) (N := some 40) (v := ?_) (a' := ?_) #[true, true, true, true, true, false, false, false, false, false, false, false, false, false, false, false] rfl rfl (take_ofW HT_.out HW_.out (by kernel_rfl)) (fun _ _ _ h => h) (Or.inl ⟨by rfl, ?_⟩) hHeld ?_ ?_
      rotate_left
      · rintro w' ⟨s0, s1, s2, s3, s4, s5, s6, s7⟩
        go_simp
        with_reducible rfl
      rotate_left
      · simp only [Act.put, List.setIfInBounds_toArray, List.set_cons_zero, List.set_cons_succ, i64_w, i32_w]
        rfl
      refine pure_ (i := 5) (N := some 41) (v := ?_) (a' := ?_) #[true, true, true, true, true, true, false, false, false, false, false, false, false, false, false, false] rfl rfl (any_of HT_.out (by kernel_rfl)) (fun _ _ _ h => h) (Or.inl ⟨by rfl, ?_⟩) ?_ ?_
      rotate_left
      · intro w'
        go_simp
        with_reducible rfl
      rotate_left
      · simp only [Act.put, List.setIfInBounds_toArray, List.set_cons_zero, List.set_cons_succ, i64_w, i32_w]
        rfl
      refine pure_ (i := 6) (N := some 42) (v := ?_) (a' := ?_) #[true, true, true, true, true, true, true, false, false, false, false, false, false, false, false, false] rfl rfl (any_of HT_.out (by kernel_rfl)) (fun _ _ _ h => h) (Or.inl ⟨by rfl, ?_⟩) ?_ ?_
      rotate_left
      · intro w'
        go_simp
        with_reducible rfl
      rotate_left
      · simp only [Act.put, List.setIfInBounds_toArray, List.set_cons_zero, List.set_cons_succ, i64_w, i32_w]
        rfl
      refine pure_ (i := 7) (N := some 43) (v := ?_) (a' := ?_) #[true, true, true, true, true, true, true, true, false, false, false, false, false, false, false, false] rfl rfl (any_of HT_.out (by kernel_rfl)) (fun _ _ _ h => h) (Or.inl ⟨by rfl, ?_⟩) ?_ ?_
      rotate_left
      · intro w'
        go_simp
        with_reducible rfl
      rotate_left
      · simp only [Act.put, List.setIfInBounds_toArray, List.set_cons_zero, List.set_cons_succ, i64_w, i32_w]
        rfl
      refine take_ (i := 8) (N := some 44) (v := ?_) (a' := ?_) #[true, true, true, true, true, true, true, true, true, false, false, false, false, false, false, false] rfl rfl (take_ofW HT_.out HW_.out (by kernel_rfl)) (fun _ _ _ h => h) (Or.inl ⟨by rfl, ?_⟩) hHeld ?_ ?_
      rotate_left
      · rintro w' ⟨s0, s1, s2, s3, s4, s5, s6, s7⟩
        go_simp
        with_reducible rfl
      rotate_left
      · simp only [Act.put, List.setIfInBounds_toArray, List.set_cons_zero, List.set_cons_succ, i64_w, i32_w]
        rfl
      refine pure_ (i := 9) (N := some 45) (v := ?_) (a' := ?_) #[true, true, true, true, true, true, true, true, true, true, false, false, false, false, false, false] rfl rfl (any_of HT_.out (by kernel_rfl)) (fun _ _ _ h => h) (Or.inl ⟨by rfl, ?_⟩) ?_ ?_
      rotate_left
      · intro w'
        go_simp
        with_reducible rfl
      rotate_left
      · simp only [Act.put, List.setIfInBounds_toArray, List.set_cons_zero, List.set_cons_succ, i64_w, i32_w]
        rfl
      refine pure_ (i := 10) (N := some 46) (v := ?_) (a' := ?_) #[true, true, true, true, true, true, true, true, true, true, true, false, false, false, false, false] rfl rfl (any_of HT_.out (by kernel_rfl)) (fun _ _ _ h => h) (Or.inl ⟨by rfl, ?_⟩) ?_ ?_
      rotate_left
      · intro w'
        go_simp
        with_reducible rfl
      rotate_left
      · simp only [Act.put, List.setIfInBounds_toArray, List.set_cons_zero, List.set_cons_succ, i64_w, i32_w]
        rfl
      refine pure_ (i := 11) (N := some 47) (v := ?_) (a' := ?_) #[true, true, true, true, true, true, true, true, true, true, true, true, false, false, false, false] rfl rfl (any_of HT_.out (by kernel_rfl)) (fun _ _ _ h => h) (Or.inl ⟨by rfl, ?_⟩) ?_ ?_
      rotate_left
      · intro w'
        go_simp
        with_reducible rfl
      rotate_left
      · simp only [Act.put, List.setIfInBounds_toArray, List.set_cons_zero, List.set_cons_succ, i64_w, i32_w]
        rfl
      refine take_ (i := 12) (N := some 48) (v := ?_) (a' := ?_) #[true, true, true, true, true, true, true, true, true, true, true, true, true, false, false, false] rfl rfl (take_ofW HT_.out HW_.out (by kernel_rfl)) (fun _ _ _ h => h) (Or.inl ⟨by rfl, ?_⟩) hHeld ?_ ?_
      rotate_left
      · rintro w' ⟨s0, s1, s2, s3, s4, s5, s6, s7⟩
        go_simp
        with_reducible rfl
      rotate_left
      · simp only [Act.put, List.setIfInBounds_toArray, List.set_cons_zero, List.set_cons_succ, i64_w, i32_w]
        rfl
      refine pure_ (i := 13) (N := some 49) (v := ?_) (a' := ?_) #[true, true, true, true, true, true, true, true, true, true, true, true, true, true, false, false] rfl rfl (any_of HT_.out (by kernel_rfl)) (fun _ _ _ h => h) (Or.inl ⟨by rfl, ?_⟩) ?_ ?_
      rotate_left
      · intro w'
        go_simp
        with_reducible rfl
      rotate_left
      · simp only [Act.put, List.setIfInBounds_toArray, List.set_cons_zero, List.set_cons_succ, i64_w, i32_w]
        rfl
      refine one_ (i := 14) (N := some 50) #[true, true, true, true, true, true, true, true, true, true, true, true, true, true, true, false] rfl rfl (one_of HT_.out (by kernel_rfl)) (by decide) (fun K hK => ?_)
      refine goes_ Tryd.func41 (by kernel_rfl) rfl #[.pointer (some ⟨g, 0, none⟩), .agg #[.int .i64 0, .int .i64 32, .int .u8 1, .int .u8 q0, .int .u8 q1, .int .u8 q2, .int .u8 q3], .int .i64 tI] (by rfl) rfl rfl (by (try simp only [List.map_toArray, List.map_cons, List.map_nil]); first | done | rfl | (go_simp; done) | simp [Act.eval]) ?_
      refine HWE.out.mono ?_
      rintro e w7 ⟨rfl, hb7⟩
      have HB7 := Aside0.mk hb7
      have k6 := fun q => hb7.cell (p := ⟨b6, q, none⟩) hb6l
      have kg := fun q => hb7.cell (p := ⟨g, q, none⟩) hgl6
      have HS7 := Aside0.mk (And.intro ((k6 7).trans HS.out.1) (And.intro ((k6 8).trans HS.out.2.1) (And.intro ((k6 9).trans HS.out.2.2.1) (And.intro ((k6 10).trans HS.out.2.2.2.1) (And.intro ((k6 11).trans HS.out.2.2.2.2.1) (And.intro ((k6 12).trans HS.out.2.2.2.2.2.1) (And.intro ((k6 13).trans HS.out.2.2.2.2.2.2.1) ((kg 37).trans HS.out.2.2.2.2.2.2.2))))))))
      have hSP7 := HSP6.out.1.below hb7
      have had := add_calls hSP7.cell.2.1 (hSP7.neg 32 (by decide)) (hSP7.row 32 (by decide)).1 ((hb7.block O (blk_lt HSP6.out.2.2)).trans HSP6.out.2.2) HOn.out (hSP7.row 32 (by decide)).2 (by unfold one zeros; rw [List.length_set, List.length_replicate]) HN.out.2 bw (by have := HBW.out.2; omega)
      rw [HBI.out] at had
      have HAD := Aside0.mk had
      clear hb7 k6 kg hSP7 had
      refine ⟨_, rfl, ?_⟩
      refine hK.out _ _ HS7.out (fun hHeld => ?_)
      clear hK K
      refine norm_ (a' := ?_) ?_ ?_
      rotate_left
      · show Act.put _ (some 50) _ = _
        simp only [Act.put, List.setIfInBounds_toArray, List.set_cons_zero, List.set_cons_succ, i64_w, i32_w]
        rfl
      refine last_ (i := 15) (N := some 51) #[true, true, true, true, true, true, true, true, true, true, true, true, true, true, true, true] rfl rfl (one_of HT_.out (by kernel_rfl)) (by decide) (fun K hK => ?_)
      refine goes_ Tryd.func40 (by kernel_rfl) rfl #[.pointer (some ⟨g, 0, none⟩), .slice (some ⟨n1 + 32, 0, none⟩) N N, .slice (some ⟨O, 0, none⟩) N N, .int .i64 bI] (by rfl) rfl rfl (by (try simp only [List.map_toArray, List.map_cons, List.map_nil]); first | done | rfl | (go_simp; done) | simp [Act.eval]) ?_
      refine HAD.out.mono ?_
      rintro e w8 ⟨rfl, hx8, hp8⟩
      have HX8 := Aside0.mk (And.intro hx8 hp8)
      clear hx8 hp8
      refine ⟨_, rfl, ?_⟩
      refine hK.out _ _ ?_
      clear hK K
      refine norm_ (a' := ?_) ?_ ?_
      rotate_left
      · show Act.put _ (some 51) _ = _
        simp only [Act.put, List.setIfInBounds_toArray, List.set_cons_zero, List.set_cons_succ, i64_w, i32_w]
        rfl
      refine done_ (done_of HT_.out (by kernel_rfl)) ?_
      go_wp2
      go_ret
      have hSP7 := HSP6.out.1.below HB7.out
      have hSP8 := hSP7.put 32 (by decide) HX8.out.2 HX8.out.1 (by rw [addI_length]; exact (hSP7.row 32 (by decide)).2)
      have er : (fun u => if u = 32 then addI (zeros N) (one N) bw N else (fun _ => zeros N) u) = beginRows W N t := by
        funext u
        unfold beginRows
        rw [HBW.out.1]; rfl
      refine ⟨by simp, _, _, er ▸ hSP8, ?_, by have := HN1.out; omega⟩
      have hF7 := HSP6.out.2.1.trans (FG.of_below HB7.out)
      exact ⟨HX8.out.2.os.trans hF7.os, HX8.out.2.tape.trans hF7.tape, HX8.out.2.output.trans hF7.output, Nat.le_trans hF7.size (Nat.le_of_eq HX8.out.2.size.symm), fun k hk hkg => (HX8.out.2.block k (by show k ≠ n1 + 32; have := HN1.out; omega)).trans (hF7.block k hk hkg)⟩
end Go.Proofs.YtijpnlmejphfhaaDoor.P

-- YtijpnlmejphfhaaDoorPSIdx
namespace Go.Proofs.YtijpnlmejphfhaaDoor.P
open Go Go.Proofs Go.RowKit Go.Proofs.YtijpnlmejphfhaaDoorW.PrintWords Go.Proofs.YtijpnlmejphfhaaDoorW.PrintLast Go.Proofs.YtijpnlmejphfhaaDoorW.PrintMore
set_option linter.unusedVariables false
theorem len50 : Tryd.prog.arrayLen 50 = 64 := by kernel_rfl
theorem el50 : Tryd.prog.elem 50 = 24 := by kernel_rfl
theorem arr50 : Tryd.prog.underlying 50 = some (.array (Tryd.prog.arrayLen 50) (Tryd.prog.elem 50)) := by kernel_rfl
theorem size24 (w : World) : (sizeOf 24).run Tryd.prog w = .ok 1 w := by go_simp
theorem idx50 {WS : Array Value} {i : Nat} {b N : Nat} (hi : i < 64) (h : WS[i]? = some (sl b N)) (w : World) : (Instr.index 50 (.agg WS) (.int .i64 (i : Int))).run Tryd.prog w = .ok (sl b N) w := by
  rw [run_index_arr w 50 WS .i64 (i : Int) arr50, len50, el50, if_pos (by omega), size24]
  simp only [Result.andThen_ok, Int.toNat_natCast, Nat.mul_one]
  go_simp
theorem len78 : Tryd.prog.arrayLen 78 = 2 := by kernel_rfl
theorem el78 : Tryd.prog.elem 78 = 77 := by kernel_rfl
theorem arr78 : Tryd.prog.underlying 78 = some (.array (Tryd.prog.arrayLen 78) (Tryd.prog.elem 78)) := by kernel_rfl
theorem size77 (w : World) : (sizeOf 77).run Tryd.prog w = .ok 7 w := by go_simp
theorem agg77 (w : World) : (isAgg 77).run Tryd.prog w = .ok true w := by go_simp
theorem idx78_0 (x0 x1 x2 x3 x4 x5 x6 x7 x8 x9 x10 x11 x12 x13 : Value) (w : World) : (Instr.index 78 (.agg #[x0, x1, x2, x3, x4, x5, x6, x7, x8, x9, x10, x11, x12, x13]) (.int .i64 0)).run Tryd.prog w = .ok (.agg #[x0, x1, x2, x3, x4, x5, x6]) w := by
  rw [run_index_arr w 78 _ .i64 0 arr78, len78, el78, if_pos (by omega), size77]
  simp only [Result.andThen_ok, part, Sem.run_bind, agg77, if_true, size77]
  rfl
theorem idx78_1 (x0 x1 x2 x3 x4 x5 x6 x7 x8 x9 x10 x11 x12 x13 : Value) (w : World) : (Instr.index 78 (.agg #[x0, x1, x2, x3, x4, x5, x6, x7, x8, x9, x10, x11, x12, x13]) (.int .i64 1)).run Tryd.prog w = .ok (.agg #[x7, x8, x9, x10, x11, x12, x13]) w := by
  rw [run_index_arr w 78 _ .i64 1 arr78, len78, el78, if_pos (by omega), size77]
  simp only [Result.andThen_ok, part, Sem.run_bind, agg77, if_true, size77]
  rfl
end Go.Proofs.YtijpnlmejphfhaaDoor.P

-- YtijpnlmejphfhaaDoorPSStep
namespace Go.Proofs.YtijpnlmejphfhaaDoor.P
open Go Go.Proofs Go.RowKit Go.Proofs.YtijpnlmejphfhaaDoorW.PrintWords Go.Proofs.YtijpnlmejphfhaaDoorW.PrintLast Go.Proofs.YtijpnlmejphfhaaDoorW.PrintMore
set_option linter.unusedVariables false
set_option linter.unusedSimpArgs false

variable {C : Array Value} {W : Nat → Int} {N : Nat} {A : Nat → Nat} {k : Nat}
/-- Where an edge leads. -/
def dst (s i : Nat) : Nat := 32 * i + s / 2
/-- What comes to a state, behind the first m edges (state m / 2, bit m mod 2). -/
def acc (W : Nat → Int) (N t : Nat) (rows : Nat → List Int) : Nat → Nat → List Int
  | 0, _ => zeros N
  | m + 1, u => if u = dst (m / 2) (m % 2) then addI (acc W N t rows m u) (rows (m / 2)) (ew W (m / 2) (m % 2) t).toNat N else acc W N t rows m u
theorem acc_succ (W : Nat → Int) (N t : Nat) (rows : Nat → List Int) (m u : Nat) : acc W N t rows (m + 1) u = if u = dst (m / 2) (m % 2) then addI (acc W N t rows m u) (rows (m / 2)) (ew W (m / 2) (m % 2) t).toNat N else acc W N t rows m u := rfl
theorem acc_length (W : Nat → Int) (N t : Nat) (rows : Nat → List Int) (u : Nat) : ∀ m, (acc W N t rows m u).length = N
  | 0 => List.length_replicate
  | m + 1 => by
    unfold acc
    split
    · rw [addI_length, acc_length W N t rows u m]
    · exact acc_length W N t rows u m
def stepRows (W : Nat → Int) (N t : Nat) (rows : Nat → List Int) (u : Nat) : List Int := if u = 0 then zeros N else acc W N t rows 128 u
def stepFound (W : Nat → Int) (N t : Nat) (rows : Nat → List Int) (fnd : List Int) : List Int := addI fnd (acc W N t rows 128 0) 0 N
/-- The next rows: an array of them in block X, of state s in block A s. -/
structure NX (w : World) (X N : Nat) (A : Nat → Nat) (k : Nat) (rows : Nat → List Int) : Prop where
  blk : ∃ C, w.heap[X]? = some (.cells C 50 (0, 0)) ∧ C.size = 64 ∧ ∀ s, s < k → C[s]? = some (sl (A s) N)
  row : ∀ s, s < k → w.heap[A s]? = some (.cells (ints (rows s)) 3 (0, 0)) ∧ (rows s).length = N
theorem NX.below {w w' : World} {X : Nat} {rows : Nat → List Int} (h : NX w X N A k rows) (hb : Below w.heap.size w w') : NX w' X N A k rows := by
  obtain ⟨C, hC, h2⟩ := h.blk
  exact ⟨⟨C, (hb.block X (blk_lt hC)).trans hC, h2⟩, fun s hs => ⟨(hb.block _ (blk_lt (h.row s hs).1)).trans (h.row s hs).1, (h.row s hs).2⟩⟩
theorem setCells_blk {b t : Nat} : ∀ (vs : List Value) (o : Nat) (w : World) (C : Array Value), w.heap[b]? = some (.cells C t (0, 0)) →
    ∃ C' : Array Value, (w.setCells b o vs).heap[b]? = some (.cells C' t (0, 0)) ∧ C'.size = C.size ∧ (∀ j, (j < o ∨ o + vs.length ≤ j) → C'[j]? = C[j]?) ∧ (∀ j v, vs[j]? = some v → o + j < C.size → C'[o + j]? = some v)
  | [], o, w, C, h => ⟨C, h, rfl, fun _ _ => rfl, fun j v hv => by simp at hv⟩
  | x :: r, o, w, C, h => by
    obtain ⟨C', h1, h2, h3, h4⟩ := setCells_blk r (o + 1) (w.setCell ⟨b, o, none⟩ x) (C.setIfInBounds o x) (blk_put h o x rfl)
    refine ⟨C', h1, by rw [h2]; simp, fun j hj => ?_, fun j v hv hb => ?_⟩
    · rw [h3 j (by simp only [List.length_cons] at hj; omega), Array.getElem?_setIfInBounds, if_neg (by simp only [List.length_cons] at hj; omega)]
    · cases j with
      | zero =>
        injection hv with hv
        subst hv
        rw [Nat.add_zero, h3 o (by omega), Array.getElem?_setIfInBounds, if_pos rfl, if_pos (by omega)]
      | succ j =>
        have e : o + (j + 1) = o + 1 + j := by omega
        rw [e]
        exact h4 j v hv (by simp; omega)
theorem Put1.cells_ (b : Nat) : ∀ (vs : List Value) (o : Nat) (w : World), Put1 b w (w.setCells b o vs)
  | [], _, w => Put1.refl b w
  | x :: r, o, w => (Put1.set b o w x).trans (Put1.cells_ b r (o + 1) _)
theorem SP.putF {w w' : World} {g F : Nat} {rows : Nat → List Int} {fnd x : List Int} (h : SP w g W N A F rows fnd) (hp : Put1 F w w') (hx : w'.heap[F]? = some (.cells (ints x) 3 (0, 0))) (hl : x.length = N) : SP w' g W N A F rows x := by
  obtain ⟨C, hC, hcc, hF⟩ := h.blk
  exact ⟨⟨C, (hp.block g h.negF).trans hC, hcc, hF⟩, fun u hu => ⟨(hp.block (A u) (h.ne u hu)).trans (h.row u hu).1, (h.row u hu).2⟩, ⟨hx, hl⟩, h.inj, h.ne⟩
theorem NX.apart {w w' : World} {X F : Nat} {rows : Nat → List Int} (h : NX w X N (fun s => X + 1 + s) k rows) (hF : F < X) (hp : Put1 F w w') : NX w' X N (fun s => X + 1 + s) k rows := by
  obtain ⟨C, hC, h2⟩ := h.blk
  exact ⟨⟨C, (hp.block X (by omega)).trans hC, h2⟩, fun s hs => ⟨(hp.block (X + 1 + s) (by omega)).trans (h.row s hs).1, (h.row s hs).2⟩⟩
theorem NX.put {w w' : World} {X : Nat} {rows : Nat → List Int} {x : List Int} (h : NX w X N (fun s => X + 1 + s) 64 rows) (s : Nat) (hs : s < 64) (hp : Put1 (X + 1 + s) w w') (hx : w'.heap[X + 1 + s]? = some (.cells (ints x) 3 (0, 0))) (hl : x.length = N) :
    NX w' X N (fun s => X + 1 + s) 64 (fun u => if u = s then x else rows u) := by
  obtain ⟨C, hC, h2⟩ := h.blk
  refine ⟨⟨C, (hp.block X (by omega)).trans hC, h2⟩, fun u hu => ?_⟩
  by_cases e : u = s
  · subst e
    rw [if_pos rfl]
    exact ⟨hx, hl⟩
  · rw [if_neg e]
    exact ⟨(hp.block (X + 1 + u) (by omega)).trans (h.row u hu).1, (h.row u hu).2⟩
theorem NX.cell {w : World} {X : Nat} {rows : Nat → List Int} (h : NX w X N A k rows) (s : Nat) (hs : s < k) : w.cell? ⟨X, s, none⟩ = some (sl (A s) N) := by
  obtain ⟨C, hC, _, hCw⟩ := h.blk
  exact (blk_cell hC s).trans (hCw s hs)
def step160.T : Bool × List (List Nat × List Nat) := (true, [([], []), ([], []), ([1], [1]), ([2], [2]), ([3], [3]), ([], []), ([], []), ([], []), ([], []), ([6, 7, 8], [6, 7, 8]), ([0, 4, 5, 9, 9], [0, 4, 5, 9])])
def step160.B : List Nat := [0, 0, 2, 6, 14, 0, 0, 0, 0, 448, 1023]
theorem step160.tab : rtab .any (opsOf Tryd.f28 16) = step160.T := by kernel_rfl
theorem step160.bits : waitsOk step160.T.2 step160.B = true := by kernel_rfl
def step161.T : Bool × List (List Nat × List Nat) := (true, [([], []), ([], []), ([1], [1]), ([2], [2]), ([3], [3]), ([], []), ([], []), ([], []), ([], []), ([6, 7, 8], [6, 7, 8]), ([0, 4, 5, 9, 9], [0, 4, 5, 9])])
def step161.B : List Nat := [0, 0, 2, 6, 14, 0, 0, 0, 0, 448, 1023]
theorem step161.tab : rtab .any (opsOf Tryd.f28 16) = step161.T := by kernel_rfl
theorem step161.bits : waitsOk step161.T.2 step161.B = true := by kernel_rfl
def step19.T : Bool × List (List Nat × List Nat) := (true, [([], []), ([], []), ([1], [1]), ([2], [2]), ([3], [3]), ([], []), ([5], [5]), ([0, 4, 6], [0, 4, 6])])
def step19.B : List Nat := [0, 0, 2, 6, 14, 0, 32, 127]
theorem step19.tab : rtab .any (opsOf Tryd.f28 19) = step19.T := by kernel_rfl
theorem step19.bits : waitsOk step19.T.2 step19.B = true := by kernel_rfl
set_option maxRecDepth 100000 in
set_option maxHeartbeats 16000000 in
theorem step_calls {w : World} {g F : Nat} {rows : Nat → List Int} {fnd : List Int} (hT : TP w) (hg0 : g ≠ 0) (h : SP w g W N A F rows fnd) (hN : 1 ≤ N ∧ N ≤ 1000) (hWb : ∀ v, v < 4 → 0 ≤ W v ∧ W v ≤ 7) (t : Nat) (ht : t ≤ 100000) :
    Calls Tryd.prog 28 #[.pointer (some ⟨g, 0, none⟩), .int .i64 (t : Int)] w fun e w' => e = .returned (.int .i64 0) ∧ ∃ A2, SP w' g W N A2 F (stepRows W N t rows) (stepFound W N t rows fnd) ∧ ∀ n₀, n₀ ≤ g → n₀ ≤ F → n₀ ≤ w.heap.size → Below n₀ w w' := by
  have HT := Aside0.mk hT
  have HG0 := Aside0.mk hg0
  have HWB := Aside0.mk hWb
  have HN := Aside0.mk hN
  have HSP := Aside0.mk h
  have hgl : g < w.heap.size := h.lt
  obtain ⟨tI, htI⟩ : ∃ tI : Int, (t : Int) = tI := ⟨_, rfl⟩
  rw [htI]
  have HTI := Aside0.mk htI
  clear hT hg0 hWb hN h htI
  go_enter Tryd.func28, Tryd.ntmps28
  go_wp2_with fail
  have hbx := blk_new w (.cells #[.slice none 0 0, .slice none 0 0, .slice none 0 0, .slice none 0 0, .slice none 0 0, .slice none 0 0, .slice none 0 0, .slice none 0 0, .slice none 0 0, .slice none 0 0, .slice none 0 0, .slice none 0 0, .slice none 0 0, .slice none 0 0, .slice none 0 0, .slice none 0 0, .slice none 0 0, .slice none 0 0, .slice none 0 0, .slice none 0 0, .slice none 0 0, .slice none 0 0, .slice none 0 0, .slice none 0 0, .slice none 0 0, .slice none 0 0, .slice none 0 0, .slice none 0 0, .slice none 0 0, .slice none 0 0, .slice none 0 0, .slice none 0 0, .slice none 0 0, .slice none 0 0, .slice none 0 0, .slice none 0 0, .slice none 0 0, .slice none 0 0, .slice none 0 0, .slice none 0 0, .slice none 0 0, .slice none 0 0, .slice none 0 0, .slice none 0 0, .slice none 0 0, .slice none 0 0, .slice none 0 0, .slice none 0 0, .slice none 0 0, .slice none 0 0, .slice none 0 0, .slice none 0 0, .slice none 0 0, .slice none 0 0, .slice none 0 0, .slice none 0 0, .slice none 0 0, .slice none 0 0, .slice none 0 0, .slice none 0 0, .slice none 0 0, .slice none 0 0, .slice none 0 0, .slice none 0 0] 50)
  have hba := below_alloc (Below.refl w.heap.size w) (.cells #[.slice none 0 0, .slice none 0 0, .slice none 0 0, .slice none 0 0, .slice none 0 0, .slice none 0 0, .slice none 0 0, .slice none 0 0, .slice none 0 0, .slice none 0 0, .slice none 0 0, .slice none 0 0, .slice none 0 0, .slice none 0 0, .slice none 0 0, .slice none 0 0, .slice none 0 0, .slice none 0 0, .slice none 0 0, .slice none 0 0, .slice none 0 0, .slice none 0 0, .slice none 0 0, .slice none 0 0, .slice none 0 0, .slice none 0 0, .slice none 0 0, .slice none 0 0, .slice none 0 0, .slice none 0 0, .slice none 0 0, .slice none 0 0, .slice none 0 0, .slice none 0 0, .slice none 0 0, .slice none 0 0, .slice none 0 0, .slice none 0 0, .slice none 0 0, .slice none 0 0, .slice none 0 0, .slice none 0 0, .slice none 0 0, .slice none 0 0, .slice none 0 0, .slice none 0 0, .slice none 0 0, .slice none 0 0, .slice none 0 0, .slice none 0 0, .slice none 0 0, .slice none 0 0, .slice none 0 0, .slice none 0 0, .slice none 0 0, .slice none 0 0, .slice none 0 0, .slice none 0 0, .slice none 0 0, .slice none 0 0, .slice none 0 0, .slice none 0 0, .slice none 0 0, .slice none 0 0] 50)
  obtain ⟨w1, hw1⟩ : ∃ w1, w1 = w.alloc (.cells #[.slice none 0 0, .slice none 0 0, .slice none 0 0, .slice none 0 0, .slice none 0 0, .slice none 0 0, .slice none 0 0, .slice none 0 0, .slice none 0 0, .slice none 0 0, .slice none 0 0, .slice none 0 0, .slice none 0 0, .slice none 0 0, .slice none 0 0, .slice none 0 0, .slice none 0 0, .slice none 0 0, .slice none 0 0, .slice none 0 0, .slice none 0 0, .slice none 0 0, .slice none 0 0, .slice none 0 0, .slice none 0 0, .slice none 0 0, .slice none 0 0, .slice none 0 0, .slice none 0 0, .slice none 0 0, .slice none 0 0, .slice none 0 0, .slice none 0 0, .slice none 0 0, .slice none 0 0, .slice none 0 0, .slice none 0 0, .slice none 0 0, .slice none 0 0, .slice none 0 0, .slice none 0 0, .slice none 0 0, .slice none 0 0, .slice none 0 0, .slice none 0 0, .slice none 0 0, .slice none 0 0, .slice none 0 0, .slice none 0 0, .slice none 0 0, .slice none 0 0, .slice none 0 0, .slice none 0 0, .slice none 0 0, .slice none 0 0, .slice none 0 0, .slice none 0 0, .slice none 0 0, .slice none 0 0, .slice none 0 0, .slice none 0 0, .slice none 0 0, .slice none 0 0, .slice none 0 0] 50) := ⟨_, rfl⟩
  obtain ⟨X, hX⟩ : ∃ X, X = w.heap.size := ⟨_, rfl⟩
  have hz1 : w1.heap.size = X + 1 + 0 := by rw [hw1, World.size_alloc, hX]
  rw [← hw1, ← hX] at hbx
  rw [← hw1] at hba
  rw [← hw1, ← hX]
  have HNX := Aside0.mk (show NX w1 X N (fun s => X + 1 + s) 0 (fun _ => zeros N) from ⟨⟨_, hbx, rfl, fun s hs => absurd hs (Nat.not_lt_zero _)⟩, fun s hs => absurd hs (Nat.not_lt_zero _)⟩)
  have HX := Aside0.mk hX
  have HBA := Aside0.mk hba
  have HZ1 := Aside0.mk hz1
  clear hbx hba hw1 hX hz1
  go_loopw [13] (fun v13 wr => ∃ (i : Nat), v13 = .int .i64 (i : Int) ∧ i ≤ 64 ∧ Aside0 (wr.heap.size = X + 1 + i) ∧ Aside0 (NX wr X N (fun s => X + 1 + s) i (fun _ => zeros N)) ∧ Aside0 (Below w.heap.size w wr)) (fun v13 _ => 64 - (intOf v13).toNat)
  case atStart => exact ⟨0, by simp, by omega, HZ1, HNX, HBA⟩
  case round =>
    clear HNX HBA HZ1
    obtain ⟨i, rfl, hi, HZ, HNX, HB⟩ := hrel
    have hem := empty_calls (w := wr) (g := g) (N := N) (HSP.out.below HB.out).cell.2.1 HN.out.2
    rw [HZ.out] at hem
    have HEM := Aside0.mk hem
    clear hem
    by_cases hlt : i < 64
    · have hlb : decide ((i : Int) < 64) = true := decide_eq_true (by omega)
      have hi64 : (i : Int) < 64 := by omega
      go_wp2_with (first
        | (go_at_call 38; refine HEM.out.mono ?_
           rintro e w2 ⟨rfl, hw2⟩
           have hb2 := below_alloc (Below.refl wr.heap.size wr) (.cells (ints (List.replicate N 0)) 3)
           have hn2 := blk_new wr (.cells (ints (List.replicate N 0)) 3)
           rw [← hw2] at hb2 hn2
           obtain ⟨C, hC, hCs, hCw⟩ := HNX.out.blk
           have hC2 := (hb2.block X (blk_lt hC)).trans hC
           have hcx : ∃ u, w2.cell? ⟨X, i, none⟩ = some u := ⟨C[i]'(by rw [hCs]; omega), (blk_cell hC2 i).trans (Array.getElem?_eq_getElem _)⟩
           obtain ⟨u, hcx⟩ := hcx
           have hfz := blk_frozen hC2 i
           have HW2 := Aside0.mk (And.intro hb2 (And.intro hn2 (And.intro hC2 (And.intro hCs (And.intro hCw hw2)))))
           clear hb2 hn2 hC hC2 hCs hCw hw2)
        | fail)
      have hbX : X = w.heap.size := HX.out
      have hz3 : (w2.setCell ⟨X, i, none⟩ (.slice (some ⟨X + 1 + i, 0, none⟩) N N)).heap.size = X + 1 + (i + 1) := by rw [HW2.out.2.2.2.2.2]; simp only [World.size_setCell, World.size_alloc, HZ.out]; omega
      have hn3 : NX (w2.setCell ⟨X, i, none⟩ (.slice (some ⟨X + 1 + i, 0, none⟩) N N)) X N (fun s => X + 1 + s) (i + 1) (fun _ => zeros N) := by
        refine ⟨⟨_, blk_put HW2.out.2.2.1 i _ rfl, by simp [HW2.out.2.2.2.1], fun s hs => ?_⟩, fun s hs => ⟨?_, List.length_replicate⟩⟩
        · rw [Array.getElem?_setIfInBounds]
          by_cases e : i = s
          · subst e
            rw [if_pos rfl, if_pos (by rw [HW2.out.2.2.2.1]; omega)]
            rfl
          · rw [if_neg e]; exact HW2.out.2.2.2.2.1 s (by omega)
        · refine (Below.heap_setCell w2 ⟨X, i, none⟩ _ (X + 1 + s) (by show X + 1 + s ≠ X; omega)).trans ?_
          by_cases e : s = i
          · subst e
            have hn2 := HW2.out.2.1
            rw [HZ.out] at hn2
            exact hn2
          · exact (HW2.out.1.block (X + 1 + s) (by rw [HZ.out]; omega)).trans (HNX.out.row s (by omega)).1
      have hb3 : Below w.heap.size w (w2.setCell ⟨X, i, none⟩ (.slice (some ⟨X + 1 + i, 0, none⟩) N N)) := (below_step HB.out HW2.out.1).trans ⟨rfl, rfl, rfl, by simp, fun k hk => Below.heap_setCell w2 ⟨X, i, none⟩ _ k (by show k ≠ X; omega)⟩
      have H3 := Aside0.mk (And.intro hz3 (And.intro hn3 hb3))
      clear hz3 hn3 hb3 HW2 HNX HB HZ HEM hcx hfz hbX
      generalize (w2.setCell ⟨X, i, none⟩ (.slice (some ⟨X + 1 + i, 0, none⟩) N N)) = w3 at H3 ⊢
      go_roundw
      case rel => exact ⟨i + 1, by simp, by omega, ⟨H3.out.1⟩, ⟨H3.out.2.1⟩, ⟨H3.out.2.2⟩⟩
      case measure => simp [intOf]; omega
    · obtain rfl : i = 64 := by omega
      have hlb : decide (((64 : Nat) : Int) < 64) = false := by decide
      go_wp2_with (first | ((with_reducible refine gate_ (.load 50 (.tmp 23)) rfl ?_); refine Aside0.out ?_) | fail)
      refine Aside0.mk ?_
      obtain ⟨cs, hcs⟩ : ∃ cs, cs = (List.range 64).map (fun s => sl (A s) N) := ⟨_, rfl⟩
      have hcl : cs.length = 64 := by rw [hcs]; simp
      have hcg : ∀ s, s < 64 → cs[s]? = some (sl (A s) N) := fun s hs => by rw [hcs, List.getElem?_map, List.getElem?_range hs]; rfl
      refine wpList_load_mid rfl 50 (.tmp 23) rfl g 5 (by first | rfl | (go_simp; done)) cs _ (fun j v hv => ?_) Tryd.underlying50 rfl (by rw [hcl]; kernel_rfl) ?_
      · have hj : j < 64 := by have := (List.getElem?_eq_some_iff.1 hv).1; omega
        rw [hcg j hj] at hv
        injection hv with hv
        subst hv
        exact (HSP.out.below HB.out).cell.2.2.1 j hj
      obtain ⟨WS, hWS⟩ : ∃ WS, WS = cs.toArray := ⟨_, rfl⟩
      rw [← hWS]
      have HWS := Aside0.mk (show WS.size = 64 ∧ ∀ s, s < 64 → WS[s]? = some (sl (A s) N) from ⟨by rw [hWS]; simpa using hcl, fun s hs => by rw [hWS]; simpa using hcg s hs⟩)
      clear hcs hcl hcg hWS HEM HZ
      go_wp2_with fail
      go_loopw [25] (fun v25 wr => ∃ (i : Nat), v25 = .int .i64 (i : Int) ∧ i ≤ 64 ∧ Aside0 (NX wr X N (fun s => X + 1 + s) 64 (acc W N t rows (2 * i))) ∧ Aside0 (Below w.heap.size w wr)) (fun v25 _ => 64 - (intOf v25).toNat)
      case atStart => exact ⟨0, by simp, by omega, HNX, HB⟩
      case round =>
        clear HNX HB
        obtain ⟨i, rfl, hi, HNX, HB⟩ := hrel
        by_cases hlt : i < 64
        · have hlb : decide ((i : Int) < 64) = true := decide_eq_true (by omega)
          have hi64 : (i : Int) < 64 := by omega
          have hix : ∀ w', (Instr.index 50 (.agg WS) (.int .i64 (i : Int))).run Tryd.prog w' = .ok (.slice (some ⟨A i, 0, none⟩) N N) w' := fun w' => idx50 hlt (HWS.out.2 i hlt) w'
          go_wp2_with (first | (go_at_call 39; refine Aside0.out ?_) | fail)
          refine Aside0.mk ?_
          have hfr := trellis_From.calls (i : Int) _ _ _ _ _ _ _ _ _ _ _ _ _ _ _ wr (from_f i hlt) (HT.out.fg HG0.out (FG.of_below HB.out))
          obtain ⟨p0, hp0⟩ : ∃ p0, p0 = ob i 0 0 := ⟨_, rfl⟩
          obtain ⟨p1, hp1⟩ : ∃ p1, p1 = ob i 0 1 := ⟨_, rfl⟩
          obtain ⟨p2, hp2⟩ : ∃ p2, p2 = ob i 0 2 := ⟨_, rfl⟩
          obtain ⟨p3, hp3⟩ : ∃ p3, p3 = ob i 0 3 := ⟨_, rfl⟩
          obtain ⟨q0, hq0⟩ : ∃ q0, q0 = ob i 1 0 := ⟨_, rfl⟩
          obtain ⟨q1, hq1⟩ : ∃ q1, q1 = ob i 1 1 := ⟨_, rfl⟩
          obtain ⟨q2, hq2⟩ : ∃ q2, q2 = ob i 1 2 := ⟨_, rfl⟩
          obtain ⟨q3, hq3⟩ : ∃ q3, q3 = ob i 1 3 := ⟨_, rfl⟩
          obtain ⟨dI, hdI⟩ : ∃ dI : Nat, dI = i / 2 := ⟨_, rfl⟩
          obtain ⟨dJ, hdJ⟩ : ∃ dJ : Nat, dJ = 32 + i / 2 := ⟨_, rfl⟩
          have hdI2 : (dI : Int) < 64 := by omega
          have hdJ2 : (dJ : Int) < 64 := by omega
          rw [← hp0, ← hp1, ← hp2, ← hp3, ← hq0, ← hq1, ← hq2, ← hq3, ← hdJ, ← hdI] at hfr
          have HP := Aside0.mk (And.intro hp0 (And.intro hp1 (And.intro hp2 hp3)))
          have HQ := Aside0.mk (And.intro hq0 (And.intro hq1 (And.intro hq2 hq3)))
          have HD := Aside0.mk (And.intro hdI hdJ)
          refine hfr.mono ?_
          rintro e w2 ⟨rfl, hb2⟩
          have HB2 := Aside0.mk hb2
          clear hfr hp0 hp1 hp2 hp3 hq0 hq1 hq2 hq3 hdI hdJ hix hb2
          go_wp2_with fail
          have hba := below_alloc (Below.refl w2.heap.size w2) (.cells #[.int .i64 (i : Int), .int .i64 (dI : Int), .int .u8 0, .int .u8 p0, .int .u8 p1, .int .u8 p2, .int .u8 p3, .int .i64 (i : Int), .int .i64 (dJ : Int), .int .u8 1, .int .u8 q0, .int .u8 q1, .int .u8 q2, .int .u8 q3] 78)
          obtain ⟨iI, hiI⟩ : ∃ iI : Int, (i : Int) = iI := ⟨_, rfl⟩
          have HII := Aside0.mk hiI
          obtain ⟨w3, hw3⟩ : ∃ w3, w3 = w2.alloc (.cells #[.int .i64 (i : Int), .int .i64 (dI : Int), .int .u8 0, .int .u8 p0, .int .u8 p1, .int .u8 p2, .int .u8 p3, .int .i64 (i : Int), .int .i64 (dJ : Int), .int .u8 1, .int .u8 q0, .int .u8 q1, .int .u8 q2, .int .u8 q3] 78) := ⟨_, rfl⟩
          rw [← hw3] at hba
          rw [← hw3]
          have HB3 := Aside0.mk (below_step HB.out (below_step HB2.out hba))
          have HN3 := Aside0.mk ((HNX.out.below HB2.out).below hba)
          clear hba hw3 hiI HNX HB HB2
          go_loopw [38] (fun v38 wr => ∃ (j : Nat), v38 = .int .i64 (j : Int) ∧ j ≤ 2 ∧ Aside0 (NX wr X N (fun s => X + 1 + s) 64 (acc W N t rows (2 * i + j))) ∧ Aside0 (Below w.heap.size w wr)) (fun v38 _ => 2 - (intOf v38).toNat)
          case atStart => exact ⟨0, by simp, by omega, HN3, HB3⟩
          case round =>
            clear HN3 HB3
            obtain ⟨j, rfl, hj, HNX, HB⟩ := hrel
            have hjc : j = 0 ∨ j = 1 ∨ j = 2 := by omega
            rcases hjc with rfl | rfl | rfl
            · skip
              have hix := fun w' => idx78_0 (.int .i64 (i : Int)) (.int .i64 (dI : Int)) (.int .u8 0) (.int .u8 p0) (.int .u8 p1) (.int .u8 p2) (.int .u8 p3) (.int .i64 (i : Int)) (.int .i64 (dJ : Int)) (.int .u8 1) (.int .u8 q0) (.int .u8 q1) (.int .u8 q2) (.int .u8 q3) w'
              go_wp2_with fail
              clear hix
              have hba := below_alloc (Below.refl wr.heap.size wr) (.cells #[.int .i64 (i : Int), .int .i64 (dI : Int), .int .u8 0, .int .u8 p0, .int .u8 p1, .int .u8 p2, .int .u8 p3] 77)
              have hbb := blk_new wr (.cells #[.int .i64 (i : Int), .int .i64 (dI : Int), .int .u8 0, .int .u8 p0, .int .u8 p1, .int .u8 p2, .int .u8 p3] 77)
              obtain ⟨w4, hw4⟩ : ∃ w4, w4 = wr.alloc (.cells #[.int .i64 (i : Int), .int .i64 (dI : Int), .int .u8 0, .int .u8 p0, .int .u8 p1, .int .u8 p2, .int .u8 p3] 77) := ⟨_, rfl⟩
              obtain ⟨b12, hb12⟩ : ∃ b12, b12 = wr.heap.size := ⟨_, rfl⟩
              rw [← hw4] at hba hbb
              rw [← hb12] at hbb
              rw [← hw4, ← hb12]
              have hbd := hba.trans (⟨rfl, rfl, rfl, Nat.le_refl _, fun _ _ => rfl⟩ : Below wr.heap.size w4 w4.drew)
              have hNX := HNX.out.below hbd
              have hSP := HSP.out.below (below_step HB.out hbd)
              have hbk : w4.drew.heap[b12]? = some (.cells #[.int .i64 (i : Int), .int .i64 (dI : Int), .int .u8 0, .int .u8 p0, .int .u8 p1, .int .u8 p2, .int .u8 p3] 77 (0, 0)) := hbb
              have hdl : dI < 64 := by omega
              obtain ⟨iI, hiI⟩ : ∃ iI : Int, (i : Int) = iI := ⟨_, rfl⟩
              have HS := Aside0.mk (show w4.drew.cell? ⟨b12, 0, none⟩ = some (.int .i64 iI) ∧ w4.drew.cell? ⟨b12, 1, none⟩ = some (.int .i64 (dI : Int)) ∧ w4.drew.cell? ⟨b12, 2, none⟩ = some (.int .u8 0) ∧ w4.drew.cell? ⟨b12, 3, none⟩ = some (.int .u8 p0) ∧ w4.drew.cell? ⟨b12, 4, none⟩ = some (.int .u8 p1) ∧ w4.drew.cell? ⟨b12, 5, none⟩ = some (.int .u8 p2) ∧ w4.drew.cell? ⟨b12, 6, none⟩ = some (.int .u8 p3) ∧ w4.drew.cell? ⟨X, dI, none⟩ = some (.slice (some ⟨X + 1 + dI, 0, none⟩) N N) from
                ⟨by rw [← hiI]; exact blk_cell hbk 0, blk_cell hbk 1, blk_cell hbk 2, blk_cell hbk 3, blk_cell hbk 4, blk_cell hbk 5, blk_cell hbk 6, hNX.cell dI hdl⟩)
              have hwe := weigh_calls hSP.lt hSP.cell.1 HWB.out iI (dI : Int) 0 p0 p1 p2 p3 (by rw [HP.out.1, HP.out.2.1, HP.out.2.2.1, HP.out.2.2.2]; exact o4_ob i 0) t ht
              have hewe : wsum W (o4 p0 p1 p2 p3) t 4 = ew W i 0 t := by rw [HP.out.1, HP.out.2.1, HP.out.2.2.1, HP.out.2.2.2]; rfl
              obtain ⟨bw, hbw⟩ := Int.eq_ofNat_of_zero_le (ew_in HWB.out i 0 t).1
              have hbw2 : bw ≤ 28 := by have := (ew_in HWB.out i 0 t).2; omega
              obtain ⟨bI, hbI⟩ : ∃ bI : Int, (bw : Int) = bI := ⟨_, rfl⟩
              rw [hewe, hbw, HTI.out, hbI] at hwe
              have HWE := Aside0.mk hwe
              have HST := Aside0.mk (And.intro hSP (And.intro hNX (And.intro hbk (And.intro hbw (And.intro hbw2 (And.intro hbI hbd))))))
              have HIK := Aside0.mk hiI
              have hgl4 : g < w4.drew.heap.size := hSP.lt
              have hbl4 : b12 < w4.drew.heap.size := blk_lt hbk
              have hXl4 : X < w4.drew.heap.size := by obtain ⟨C, hC, _⟩ := hNX.blk; exact blk_lt hC
              clear hba hbb hw4 hb12 hbd hNX hSP hbk hwe hewe hbw hbw2 hbI
              rw [hiI]
              clear hiI
              refine start_ (n := 11) (S := (fun w' => w'.cell? ⟨b12, 0, none⟩ = some (.int .i64 iI) ∧ w'.cell? ⟨b12, 1, none⟩ = some (.int .i64 (dI : Int)) ∧ w'.cell? ⟨b12, 2, none⟩ = some (.int .u8 0) ∧ w'.cell? ⟨b12, 3, none⟩ = some (.int .u8 p0) ∧ w'.cell? ⟨b12, 4, none⟩ = some (.int .u8 p1) ∧ w'.cell? ⟨b12, 5, none⟩ = some (.int .u8 p2) ∧ w'.cell? ⟨b12, 6, none⟩ = some (.int .u8 p3) ∧ w'.cell? ⟨X, dI, none⟩ = some (.slice (some ⟨X + 1 + dI, 0, none⟩) N N))) (ds := [10]) #[false, false, false, false, false, false, false, false, false, false, false] (by kernel_rfl) rfl rfl HS.out (fun hHeld => ?_)
              refine with_tabW step160.tab step160.bits (fun HT_ HW_ => ?_)
              refine pure_ (i := 0) (N := some 41) (v := ?_) (a' := ?_) #[true, false, false, false, false, false, false, false, false, false, false] rfl rfl (any_of HT_.out (by kernel_rfl)) (fun _ _ _ h => h) (Or.inl ⟨by rfl, ?_⟩) ?_ ?_
              rotate_left
              · intro w'
                go_simp
                with_reducible rfl
              rotate_left
              · simp only [Act.put, List.setIfInBounds_toArray, List.set_cons_zero, List.set_cons_succ, i64_w, i32_w]
                rfl
              refine pure_ (i := 1) (N := some 42) (v := ?_) (a' := ?_) #[true, true, false, false, false, false, false, false, false, false, false] rfl rfl (any_of HT_.out (by kernel_rfl)) (fun _ _ _ h => h) (Or.inl ⟨by rfl, ?_⟩) ?_ ?_
              rotate_left
              · intro w'
                go_simp
                with_reducible rfl
              rotate_left
              · simp only [Act.put, List.setIfInBounds_toArray, List.set_cons_zero, List.set_cons_succ, i64_w, i32_w]
                rfl
              refine take_ (i := 2) (N := some 43) (v := ?_) (a' := ?_) #[true, true, true, false, false, false, false, false, false, false, false] rfl rfl (take_ofW HT_.out HW_.out (by kernel_rfl)) (fun _ _ _ h => h) (Or.inl ⟨by rfl, ?_⟩) hHeld ?_ ?_
              rotate_left
              · rintro w' ⟨s0, s1, s2, s3, s4, s5, s6, s7⟩
                go_simp
                with_reducible rfl
              rotate_left
              · simp only [Act.put, List.setIfInBounds_toArray, List.set_cons_zero, List.set_cons_succ, i64_w, i32_w]
                rfl
              refine pure_ (i := 3) (N := some 44) (v := ?_) (a' := ?_) #[true, true, true, true, false, false, false, false, false, false, false] rfl rfl (any_of HT_.out (by kernel_rfl)) (fun _ _ _ h => h) (Or.inl ⟨by rfl, ?_⟩) ?_ ?_
              rotate_left
              · intro w'
                go_simp
                with_reducible rfl
              rotate_left
              · simp only [Act.put, List.setIfInBounds_toArray, List.set_cons_zero, List.set_cons_succ, i64_w, i32_w]
                rfl
              refine take_ (i := 4) (N := some 45) (v := ?_) (a' := ?_) #[true, true, true, true, true, false, false, false, false, false, false] rfl rfl (take_ofW HT_.out HW_.out (by kernel_rfl)) (fun _ _ _ h => h) (Or.inl ⟨by rfl, ?_⟩) hHeld ?_ ?_
              rotate_left
              · rintro w' ⟨s0, s1, s2, s3, s4, s5, s6, s7⟩
                go_simp
                with_reducible rfl
              rotate_left
              · simp only [Act.put, List.setIfInBounds_toArray, List.set_cons_zero, List.set_cons_succ, i64_w, i32_w]
                rfl
              refine pure_ (i := 5) (N := some 46) (v := ?_) (a' := ?_) #[true, true, true, true, true, true, false, false, false, false, false] rfl rfl (any_of HT_.out (by kernel_rfl)) (fun _ _ _ h => h) (Or.inl ⟨by rfl, ?_⟩) ?_ ?_
              rotate_left
              · intro w'
                go_simp
                with_reducible rfl
              rotate_left
              · simp only [Act.put, List.setIfInBounds_toArray, List.set_cons_zero, List.set_cons_succ, i64_w, i32_w]
                rfl
              refine pure_ (i := 6) (N := some 47) (v := ?_) (a' := ?_) #[true, true, true, true, true, true, true, false, false, false, false] rfl rfl (any_of HT_.out (by kernel_rfl)) (fun _ _ _ h => h) (Or.inl ⟨by rfl, ?_⟩) ?_ ?_
              rotate_left
              · intro w'
                go_simp
                with_reducible rfl
              rotate_left
              · simp only [Act.put, List.setIfInBounds_toArray, List.set_cons_zero, List.set_cons_succ, i64_w, i32_w]
                rfl
              refine take_ (i := 7) (N := some 48) (v := ?_) (a' := ?_) #[true, true, true, true, true, true, true, true, false, false, false] rfl rfl (take_ofW HT_.out HW_.out (by kernel_rfl)) (fun _ _ _ h => h) (Or.inl ⟨by rfl, ?_⟩) hHeld ?_ ?_
              rotate_left
              · rintro w' ⟨s0, s1, s2, s3, s4, s5, s6, s7⟩
                go_simp
                with_reducible rfl
              rotate_left
              · simp only [Act.put, List.setIfInBounds_toArray, List.set_cons_zero, List.set_cons_succ, i64_w, i32_w]
                rfl
              refine pure_ (i := 8) (N := some 49) (v := ?_) (a' := ?_) #[true, true, true, true, true, true, true, true, true, false, false] rfl rfl (any_of HT_.out (by kernel_rfl)) (fun _ _ _ h => h) (Or.inl ⟨by rfl, ?_⟩) ?_ ?_
              rotate_left
              · intro w'
                go_simp
                with_reducible rfl
              rotate_left
              · simp only [Act.put, List.setIfInBounds_toArray, List.set_cons_zero, List.set_cons_succ, i64_w, i32_w]
                rfl
              refine one_ (i := 9) (N := some 50) #[true, true, true, true, true, true, true, true, true, true, false] rfl rfl (one_of HT_.out (by kernel_rfl)) (by decide) (fun K hK => ?_)
              refine goes_ Tryd.func41 (by kernel_rfl) rfl #[.pointer (some ⟨g, 0, none⟩), .agg #[.int .i64 iI, .int .i64 ↑dI, .int .u8 0, .int .u8 p0, .int .u8 p1, .int .u8 p2, .int .u8 p3], .int .i64 tI] (by rfl) rfl rfl (by (try simp only [List.map_toArray, List.map_cons, List.map_nil]); first | done | rfl | (go_simp; done) | simp [Act.eval]) ?_
              refine HWE.out.mono ?_
              rintro e w7 ⟨rfl, hb7⟩
              have HB7 := Aside0.mk hb7
              have k6 := fun q => hb7.cell (p := ⟨b12, q, none⟩) hbl4
              have HS7 := Aside0.mk (And.intro ((k6 0).trans HS.out.1) (And.intro ((k6 1).trans HS.out.2.1) (And.intro ((k6 2).trans HS.out.2.2.1) (And.intro ((k6 3).trans HS.out.2.2.2.1) (And.intro ((k6 4).trans HS.out.2.2.2.2.1) (And.intro ((k6 5).trans HS.out.2.2.2.2.2.1) (And.intro ((k6 6).trans HS.out.2.2.2.2.2.2.1) ((hb7.cell (p := ⟨X, dI, none⟩) hXl4).trans HS.out.2.2.2.2.2.2.2))))))))
              have hSP7 := HST.out.1.below hb7
              have hNX7 := HST.out.2.1.below hb7
              have hAl : A i < w.heap.size := blk_lt (HSP.out.row i hlt).1
              have had := add_calls hSP7.cell.2.1 (by have := HX.out; omega) (hNX7.row dI hdl).1 (hSP7.row i hlt).1 (by show X + 1 + dI ≠ A i; have := HX.out; omega) (hNX7.row dI hdl).2 (hSP7.row i hlt).2 HN.out.2 bw (by have := HST.out.2.2.2.2.1; omega)
              rw [HST.out.2.2.2.2.2.1] at had
              have HAD := Aside0.mk had
              clear hb7 k6 hSP7 hNX7 had
              refine ⟨_, rfl, ?_⟩
              refine hK.out _ _ HS7.out (fun hHeld => ?_)
              clear hK K
              refine norm_ (a' := ?_) ?_ ?_
              rotate_left
              · show Act.put _ (some 50) _ = _
                simp only [Act.put, List.setIfInBounds_toArray, List.set_cons_zero, List.set_cons_succ, i64_w, i32_w]
                rfl
              refine last_ (i := 10) (N := some 51) #[true, true, true, true, true, true, true, true, true, true, true] rfl rfl (one_of HT_.out (by kernel_rfl)) (by decide) (fun K hK => ?_)
              refine goes_ Tryd.func40 (by kernel_rfl) rfl #[.pointer (some ⟨g, 0, none⟩), .slice (some ⟨X + 1 + dI, 0, none⟩) N N, .slice (some ⟨A i, 0, none⟩) N N, .int .i64 bI] (by rfl) rfl rfl (by (try simp only [List.map_toArray, List.map_cons, List.map_nil]); first | done | rfl | (go_simp; done) | simp [Act.eval]) ?_
              refine HAD.out.mono ?_
              rintro e w8 ⟨rfl, hx8, hp8⟩
              have HX8 := Aside0.mk (And.intro hx8 hp8)
              clear hx8 hp8
              refine ⟨_, rfl, ?_⟩
              refine hK.out _ _ ?_
              clear hK K
              refine norm_ (a' := ?_) ?_ ?_
              rotate_left
              · show Act.put _ (some 51) _ = _
                simp only [Act.put, List.setIfInBounds_toArray, List.set_cons_zero, List.set_cons_succ, i64_w, i32_w]
                rfl
              refine done_ (done_of HT_.out (by kernel_rfl)) ?_
              have hN8 := (HST.out.2.1.below HB7.out).put dI hdl HX8.out.2 HX8.out.1 (by rw [addI_length]; exact acc_length W N t rows dI (2 * i + 0))
              have hb8 : Below w.heap.size w w8 := (below_step (below_step HB.out HST.out.2.2.2.2.2.2) HB7.out).trans (HX8.out.2.below (by have := HX.out; omega))
              have er : (fun u => if u = dI then addI (acc W N t rows (2 * i + 0) dI) (rows i) bw N else acc W N t rows (2 * i + 0) u) = acc W N t rows (2 * i + (0 + 1)) := by
                funext u
                have e1 : (2 * i + 0) / 2 = i := by omega
                have e2 : (2 * i + 0) % 2 = 0 := by omega
                have e3 : dst i 0 = dI := by unfold dst; have := HD.out; omega
                have ea := acc_succ W N t rows (2 * i + 0) u
                rw [e1, e2, e3, HST.out.2.2.2.1, Int.toNat_natCast] at ea
                refine Eq.trans ?_ ea.symm
                by_cases q : u = dI
                · rw [if_pos q, if_pos q, q]
                · rw [if_neg q, if_neg q]
              rw [er] at hN8
              have HN8 := Aside0.mk hN8
              have HB8 := Aside0.mk hb8
              rw [← HIK.out]
              clear hN8 hb8 er HX8 HB7 HAD HWE HST HS HNX HB
              go_wp2_with fail
              go_roundw
              case rel => exact ⟨0 + 1, by simp, by omega, HN8, HB8⟩
              case measure => simp [intOf]
            · skip
              have hix := fun w' => idx78_1 (.int .i64 (i : Int)) (.int .i64 (dI : Int)) (.int .u8 0) (.int .u8 p0) (.int .u8 p1) (.int .u8 p2) (.int .u8 p3) (.int .i64 (i : Int)) (.int .i64 (dJ : Int)) (.int .u8 1) (.int .u8 q0) (.int .u8 q1) (.int .u8 q2) (.int .u8 q3) w'
              go_wp2_with fail
              clear hix
              have hba := below_alloc (Below.refl wr.heap.size wr) (.cells #[.int .i64 (i : Int), .int .i64 (dJ : Int), .int .u8 1, .int .u8 q0, .int .u8 q1, .int .u8 q2, .int .u8 q3] 77)
              have hbb := blk_new wr (.cells #[.int .i64 (i : Int), .int .i64 (dJ : Int), .int .u8 1, .int .u8 q0, .int .u8 q1, .int .u8 q2, .int .u8 q3] 77)
              obtain ⟨w4, hw4⟩ : ∃ w4, w4 = wr.alloc (.cells #[.int .i64 (i : Int), .int .i64 (dJ : Int), .int .u8 1, .int .u8 q0, .int .u8 q1, .int .u8 q2, .int .u8 q3] 77) := ⟨_, rfl⟩
              obtain ⟨b12, hb12⟩ : ∃ b12, b12 = wr.heap.size := ⟨_, rfl⟩
              rw [← hw4] at hba hbb
              rw [← hb12] at hbb
              rw [← hw4, ← hb12]
              have hbd := hba.trans (⟨rfl, rfl, rfl, Nat.le_refl _, fun _ _ => rfl⟩ : Below wr.heap.size w4 w4.drew)
              have hNX := HNX.out.below hbd
              have hSP := HSP.out.below (below_step HB.out hbd)
              have hbk : w4.drew.heap[b12]? = some (.cells #[.int .i64 (i : Int), .int .i64 (dJ : Int), .int .u8 1, .int .u8 q0, .int .u8 q1, .int .u8 q2, .int .u8 q3] 77 (0, 0)) := hbb
              have hdl : dJ < 64 := by omega
              obtain ⟨iI, hiI⟩ : ∃ iI : Int, (i : Int) = iI := ⟨_, rfl⟩
              have HS := Aside0.mk (show w4.drew.cell? ⟨b12, 0, none⟩ = some (.int .i64 iI) ∧ w4.drew.cell? ⟨b12, 1, none⟩ = some (.int .i64 (dJ : Int)) ∧ w4.drew.cell? ⟨b12, 2, none⟩ = some (.int .u8 1) ∧ w4.drew.cell? ⟨b12, 3, none⟩ = some (.int .u8 q0) ∧ w4.drew.cell? ⟨b12, 4, none⟩ = some (.int .u8 q1) ∧ w4.drew.cell? ⟨b12, 5, none⟩ = some (.int .u8 q2) ∧ w4.drew.cell? ⟨b12, 6, none⟩ = some (.int .u8 q3) ∧ w4.drew.cell? ⟨X, dJ, none⟩ = some (.slice (some ⟨X + 1 + dJ, 0, none⟩) N N) from
                ⟨by rw [← hiI]; exact blk_cell hbk 0, blk_cell hbk 1, blk_cell hbk 2, blk_cell hbk 3, blk_cell hbk 4, blk_cell hbk 5, blk_cell hbk 6, hNX.cell dJ hdl⟩)
              have hwe := weigh_calls hSP.lt hSP.cell.1 HWB.out iI (dJ : Int) 1 q0 q1 q2 q3 (by rw [HQ.out.1, HQ.out.2.1, HQ.out.2.2.1, HQ.out.2.2.2]; exact o4_ob i 1) t ht
              have hewe : wsum W (o4 q0 q1 q2 q3) t 4 = ew W i 1 t := by rw [HQ.out.1, HQ.out.2.1, HQ.out.2.2.1, HQ.out.2.2.2]; rfl
              obtain ⟨bw, hbw⟩ := Int.eq_ofNat_of_zero_le (ew_in HWB.out i 1 t).1
              have hbw2 : bw ≤ 28 := by have := (ew_in HWB.out i 1 t).2; omega
              obtain ⟨bI, hbI⟩ : ∃ bI : Int, (bw : Int) = bI := ⟨_, rfl⟩
              rw [hewe, hbw, HTI.out, hbI] at hwe
              have HWE := Aside0.mk hwe
              have HST := Aside0.mk (And.intro hSP (And.intro hNX (And.intro hbk (And.intro hbw (And.intro hbw2 (And.intro hbI hbd))))))
              have HIK := Aside0.mk hiI
              have hgl4 : g < w4.drew.heap.size := hSP.lt
              have hbl4 : b12 < w4.drew.heap.size := blk_lt hbk
              have hXl4 : X < w4.drew.heap.size := by obtain ⟨C, hC, _⟩ := hNX.blk; exact blk_lt hC
              clear hba hbb hw4 hb12 hbd hNX hSP hbk hwe hewe hbw hbw2 hbI
              rw [hiI]
              clear hiI
              refine start_ (n := 11) (S := (fun w' => w'.cell? ⟨b12, 0, none⟩ = some (.int .i64 iI) ∧ w'.cell? ⟨b12, 1, none⟩ = some (.int .i64 (dJ : Int)) ∧ w'.cell? ⟨b12, 2, none⟩ = some (.int .u8 1) ∧ w'.cell? ⟨b12, 3, none⟩ = some (.int .u8 q0) ∧ w'.cell? ⟨b12, 4, none⟩ = some (.int .u8 q1) ∧ w'.cell? ⟨b12, 5, none⟩ = some (.int .u8 q2) ∧ w'.cell? ⟨b12, 6, none⟩ = some (.int .u8 q3) ∧ w'.cell? ⟨X, dJ, none⟩ = some (.slice (some ⟨X + 1 + dJ, 0, none⟩) N N))) (ds := [10]) #[false, false, false, false, false, false, false, false, false, false, false] (by kernel_rfl) rfl rfl HS.out (fun hHeld => ?_)
              refine with_tabW step161.tab step161.bits (fun HT_ HW_ => ?_)
              refine pure_ (i := 0) (N := some 41) (v := ?_) (a' := ?_) #[true, false, false, false, false, false, false, false, false, false, false] rfl rfl (any_of HT_.out (by kernel_rfl)) (fun _ _ _ h => h) (Or.inl ⟨by rfl, ?_⟩) ?_ ?_
              rotate_left
              · intro w'
                go_simp
                with_reducible rfl
              rotate_left
              · simp only [Act.put, List.setIfInBounds_toArray, List.set_cons_zero, List.set_cons_succ, i64_w, i32_w]
                rfl
              refine pure_ (i := 1) (N := some 42) (v := ?_) (a' := ?_) #[true, true, false, false, false, false, false, false, false, false, false] rfl rfl (any_of HT_.out (by kernel_rfl)) (fun _ _ _ h => h) (Or.inl ⟨by rfl, ?_⟩) ?_ ?_
              rotate_left
              · intro w'
                go_simp
                with_reducible rfl
              rotate_left
              · simp only [Act.put, List.setIfInBounds_toArray, List.set_cons_zero, List.set_cons_succ, i64_w, i32_w]
                rfl
              refine take_ (i := 2) (N := some 43) (v := ?_) (a' := ?_) #[true, true, true, false, false, false, false, false, false, false, false] rfl rfl (take_ofW HT_.out HW_.out (by kernel_rfl)) (fun _ _ _ h => h) (Or.inl ⟨by rfl, ?_⟩) hHeld ?_ ?_
              rotate_left
              · rintro w' ⟨s0, s1, s2, s3, s4, s5, s6, s7⟩
                go_simp
                with_reducible rfl
              rotate_left
              · simp only [Act.put, List.setIfInBounds_toArray, List.set_cons_zero, List.set_cons_succ, i64_w, i32_w]
                rfl
              refine pure_ (i := 3) (N := some 44) (v := ?_) (a' := ?_) #[true, true, true, true, false, false, false, false, false, false, false] rfl rfl (any_of HT_.out (by kernel_rfl)) (fun _ _ _ h => h) (Or.inl ⟨by rfl, ?_⟩) ?_ ?_
              rotate_left
              · intro w'
                go_simp
                with_reducible rfl
              rotate_left
              · simp only [Act.put, List.setIfInBounds_toArray, List.set_cons_zero, List.set_cons_succ, i64_w, i32_w]
                rfl
              refine take_ (i := 4) (N := some 45) (v := ?_) (a' := ?_) #[true, true, true, true, true, false, false, false, false, false, false] rfl rfl (take_ofW HT_.out HW_.out (by kernel_rfl)) (fun _ _ _ h => h) (Or.inl ⟨by rfl, ?_⟩) hHeld ?_ ?_
              rotate_left
              · rintro w' ⟨s0, s1, s2, s3, s4, s5, s6, s7⟩
                go_simp
                with_reducible rfl
              rotate_left
              · simp only [Act.put, List.setIfInBounds_toArray, List.set_cons_zero, List.set_cons_succ, i64_w, i32_w]
                rfl
              refine pure_ (i := 5) (N := some 46) (v := ?_) (a' := ?_) #[true, true, true, true, true, true, false, false, false, false, false] rfl rfl (any_of HT_.out (by kernel_rfl)) (fun _ _ _ h => h) (Or.inl ⟨by rfl, ?_⟩) ?_ ?_
              rotate_left
              · intro w'
                go_simp
                with_reducible rfl
              rotate_left
              · simp only [Act.put, List.setIfInBounds_toArray, List.set_cons_zero, List.set_cons_succ, i64_w, i32_w]
                rfl
              refine pure_ (i := 6) (N := some 47) (v := ?_) (a' := ?_) #[true, true, true, true, true, true, true, false, false, false, false] rfl rfl (any_of HT_.out (by kernel_rfl)) (fun _ _ _ h => h) (Or.inl ⟨by rfl, ?_⟩) ?_ ?_
              rotate_left
              · intro w'
                go_simp
                with_reducible rfl
              rotate_left
              · simp only [Act.put, List.setIfInBounds_toArray, List.set_cons_zero, List.set_cons_succ, i64_w, i32_w]
                rfl
              refine take_ (i := 7) (N := some 48) (v := ?_) (a' := ?_) #[true, true, true, true, true, true, true, true, false, false, false] rfl rfl (take_ofW HT_.out HW_.out (by kernel_rfl)) (fun _ _ _ h => h) (Or.inl ⟨by rfl, ?_⟩) hHeld ?_ ?_
              rotate_left
              · rintro w' ⟨s0, s1, s2, s3, s4, s5, s6, s7⟩
                go_simp
                with_reducible rfl
              rotate_left
              · simp only [Act.put, List.setIfInBounds_toArray, List.set_cons_zero, List.set_cons_succ, i64_w, i32_w]
                rfl
              refine pure_ (i := 8) (N := some 49) (v := ?_) (a' := ?_) #[true, true, true, true, true, true, true, true, true, false, false] rfl rfl (any_of HT_.out (by kernel_rfl)) (fun _ _ _ h => h) (Or.inl ⟨by rfl, ?_⟩) ?_ ?_
              rotate_left
              · intro w'
                go_simp
                with_reducible rfl
              rotate_left
              · simp only [Act.put, List.setIfInBounds_toArray, List.set_cons_zero, List.set_cons_succ, i64_w, i32_w]
                rfl
              refine one_ (i := 9) (N := some 50) #[true, true, true, true, true, true, true, true, true, true, false] rfl rfl (one_of HT_.out (by kernel_rfl)) (by decide) (fun K hK => ?_)
              refine goes_ Tryd.func41 (by kernel_rfl) rfl #[.pointer (some ⟨g, 0, none⟩), .agg #[.int .i64 iI, .int .i64 ↑dJ, .int .u8 1, .int .u8 q0, .int .u8 q1, .int .u8 q2, .int .u8 q3], .int .i64 tI] (by rfl) rfl rfl (by (try simp only [List.map_toArray, List.map_cons, List.map_nil]); first | done | rfl | (go_simp; done) | simp [Act.eval]) ?_
              refine HWE.out.mono ?_
              rintro e w7 ⟨rfl, hb7⟩
              have HB7 := Aside0.mk hb7
              have k6 := fun q => hb7.cell (p := ⟨b12, q, none⟩) hbl4
              have HS7 := Aside0.mk (And.intro ((k6 0).trans HS.out.1) (And.intro ((k6 1).trans HS.out.2.1) (And.intro ((k6 2).trans HS.out.2.2.1) (And.intro ((k6 3).trans HS.out.2.2.2.1) (And.intro ((k6 4).trans HS.out.2.2.2.2.1) (And.intro ((k6 5).trans HS.out.2.2.2.2.2.1) (And.intro ((k6 6).trans HS.out.2.2.2.2.2.2.1) ((hb7.cell (p := ⟨X, dJ, none⟩) hXl4).trans HS.out.2.2.2.2.2.2.2))))))))
              have hSP7 := HST.out.1.below hb7
              have hNX7 := HST.out.2.1.below hb7
              have hAl : A i < w.heap.size := blk_lt (HSP.out.row i hlt).1
              have had := add_calls hSP7.cell.2.1 (by have := HX.out; omega) (hNX7.row dJ hdl).1 (hSP7.row i hlt).1 (by show X + 1 + dJ ≠ A i; have := HX.out; omega) (hNX7.row dJ hdl).2 (hSP7.row i hlt).2 HN.out.2 bw (by have := HST.out.2.2.2.2.1; omega)
              rw [HST.out.2.2.2.2.2.1] at had
              have HAD := Aside0.mk had
              clear hb7 k6 hSP7 hNX7 had
              refine ⟨_, rfl, ?_⟩
              refine hK.out _ _ HS7.out (fun hHeld => ?_)
              clear hK K
              refine norm_ (a' := ?_) ?_ ?_
              rotate_left
              · show Act.put _ (some 50) _ = _
                simp only [Act.put, List.setIfInBounds_toArray, List.set_cons_zero, List.set_cons_succ, i64_w, i32_w]
                rfl
              refine last_ (i := 10) (N := some 51) #[true, true, true, true, true, true, true, true, true, true, true] rfl rfl (one_of HT_.out (by kernel_rfl)) (by decide) (fun K hK => ?_)
              refine goes_ Tryd.func40 (by kernel_rfl) rfl #[.pointer (some ⟨g, 0, none⟩), .slice (some ⟨X + 1 + dJ, 0, none⟩) N N, .slice (some ⟨A i, 0, none⟩) N N, .int .i64 bI] (by rfl) rfl rfl (by (try simp only [List.map_toArray, List.map_cons, List.map_nil]); first | done | rfl | (go_simp; done) | simp [Act.eval]) ?_
              refine HAD.out.mono ?_
              rintro e w8 ⟨rfl, hx8, hp8⟩
              have HX8 := Aside0.mk (And.intro hx8 hp8)
              clear hx8 hp8
              refine ⟨_, rfl, ?_⟩
              refine hK.out _ _ ?_
              clear hK K
              refine norm_ (a' := ?_) ?_ ?_
              rotate_left
              · show Act.put _ (some 51) _ = _
                simp only [Act.put, List.setIfInBounds_toArray, List.set_cons_zero, List.set_cons_succ, i64_w, i32_w]
                rfl
              refine done_ (done_of HT_.out (by kernel_rfl)) ?_
              have hN8 := (HST.out.2.1.below HB7.out).put dJ hdl HX8.out.2 HX8.out.1 (by rw [addI_length]; exact acc_length W N t rows dJ (2 * i + 1))
              have hb8 : Below w.heap.size w w8 := (below_step (below_step HB.out HST.out.2.2.2.2.2.2) HB7.out).trans (HX8.out.2.below (by have := HX.out; omega))
              have er : (fun u => if u = dJ then addI (acc W N t rows (2 * i + 1) dJ) (rows i) bw N else acc W N t rows (2 * i + 1) u) = acc W N t rows (2 * i + (1 + 1)) := by
                funext u
                have e1 : (2 * i + 1) / 2 = i := by omega
                have e2 : (2 * i + 1) % 2 = 1 := by omega
                have e3 : dst i 1 = dJ := by unfold dst; have := HD.out; omega
                have ea := acc_succ W N t rows (2 * i + 1) u
                rw [e1, e2, e3, HST.out.2.2.2.1, Int.toNat_natCast] at ea
                refine Eq.trans ?_ ea.symm
                by_cases q : u = dJ
                · rw [if_pos q, if_pos q, q]
                · rw [if_neg q, if_neg q]
              rw [er] at hN8
              have HN8 := Aside0.mk hN8
              have HB8 := Aside0.mk hb8
              rw [← HIK.out]
              clear hN8 hb8 er HX8 HB7 HAD HWE HST HS HNX HB
              go_wp2_with fail
              go_roundw
              case rel => exact ⟨1 + 1, by simp, by omega, HN8, HB8⟩
              case measure => simp [intOf]
            · go_wp2_with fail
              go_roundw
              case rel => exact ⟨i + 1, by simp, by omega, HNX, HB⟩
              case measure => simp [intOf]; omega
        · obtain rfl : i = 64 := by omega
          have hlb : decide (((64 : Nat) : Int) < 64) = false := by decide
          go_wp2_with fail
          have hbd := below_drew1 (Below.refl wr.heap.size wr)
          have hSPd := HSP.out.below (below_step HB.out hbd)
          have hNXd := HNX.out.below hbd
          have HS := Aside0.mk (show wr.drew.cell? ⟨g, 69, none⟩ = some (.slice (some ⟨F, 0, none⟩) N N) ∧ wr.drew.cell? ⟨X, 0, none⟩ = some (.slice (some ⟨X + 1, 0, none⟩) N N) from ⟨hSPd.cell.2.2.2, hNXd.cell 0 (by decide)⟩)
          have hFl : F < w.heap.size := blk_lt HSP.out.fnd.1
          have had := add_calls hSPd.cell.2.1 hSPd.negF hSPd.fnd.1 (hNXd.row 0 (by decide)).1 (by show F ≠ X + 1 + 0; have := HX.out; omega) hSPd.fnd.2 (hNXd.row 0 (by decide)).2 HN.out.2 0 (by decide)
          have HAD := Aside0.mk had
          have HSD := Aside0.mk (And.intro hSPd (And.intro hNXd hbd))
          clear hbd hSPd hNXd had
          refine start_ (n := 8) (S := (fun w' => w'.cell? ⟨g, 69, none⟩ = some (.slice (some ⟨F, 0, none⟩) N N) ∧ w'.cell? ⟨X, 0, none⟩ = some (.slice (some ⟨X + 1, 0, none⟩) N N))) (ds := [7]) #[false, false, false, false, false, false, false, false] (by kernel_rfl) rfl rfl HS.out (fun hHeld => ?_)
          refine with_tabW step19.tab step19.bits (fun HT_ HW_ => ?_)
          refine pure_ (i := 0) (N := some 54) (v := ?_) (a' := ?_) #[true, false, false, false, false, false, false, false] rfl rfl (any_of HT_.out (by kernel_rfl)) (fun _ _ _ h => h) (Or.inl ⟨by rfl, ?_⟩) ?_ ?_
          rotate_left
          · intro w'
            go_simp
            with_reducible rfl
          rotate_left
          · simp only [Act.put, List.setIfInBounds_toArray, List.set_cons_zero, List.set_cons_succ, i64_w, i32_w]
            rfl
          refine pure_ (i := 1) (N := some 55) (v := ?_) (a' := ?_) #[true, true, false, false, false, false, false, false] rfl rfl (any_of HT_.out (by kernel_rfl)) (fun _ _ _ h => h) (Or.inl ⟨by rfl, ?_⟩) ?_ ?_
          rotate_left
          · intro w'
            go_simp
            with_reducible rfl
          rotate_left
          · simp only [Act.put, List.setIfInBounds_toArray, List.set_cons_zero, List.set_cons_succ, i64_w, i32_w]
            rfl
          refine pure_ (i := 2) (N := some 56) (v := ?_) (a' := ?_) #[true, true, true, false, false, false, false, false] rfl rfl (any_of HT_.out (by kernel_rfl)) (fun _ _ _ h => h) (Or.inl ⟨by rfl, ?_⟩) ?_ ?_
          rotate_left
          · intro w'
            go_simp
            with_reducible rfl
          rotate_left
          · simp only [Act.put, List.setIfInBounds_toArray, List.set_cons_zero, List.set_cons_succ, i64_w, i32_w]
            rfl
          refine pure_ (i := 3) (N := some 57) (v := ?_) (a' := ?_) #[true, true, true, true, false, false, false, false] rfl rfl (any_of HT_.out (by kernel_rfl)) (fun _ _ _ h => h) (Or.inl ⟨by rfl, ?_⟩) ?_ ?_
          rotate_left
          · intro w'
            go_simp
            with_reducible rfl
          rotate_left
          · simp only [Act.put, List.setIfInBounds_toArray, List.set_cons_zero, List.set_cons_succ, i64_w, i32_w]
            rfl
          refine take_ (i := 4) (N := some 58) (v := ?_) (a' := ?_) #[true, true, true, true, true, false, false, false] rfl rfl (take_ofW HT_.out HW_.out (by kernel_rfl)) (fun _ _ _ h => h) (Or.inl ⟨by rfl, ?_⟩) hHeld ?_ ?_
          rotate_left
          · rintro w' ⟨s0, s1⟩
            go_simp
            with_reducible rfl
          rotate_left
          · simp only [Act.put, List.setIfInBounds_toArray, List.set_cons_zero, List.set_cons_succ, i64_w, i32_w]
            rfl
          refine pure_ (i := 5) (N := some 59) (v := ?_) (a' := ?_) #[true, true, true, true, true, true, false, false] rfl rfl (any_of HT_.out (by kernel_rfl)) (fun _ _ _ h => h) (Or.inl ⟨by rfl, ?_⟩) ?_ ?_
          rotate_left
          · intro w'
            go_simp
            with_reducible rfl
          rotate_left
          · simp only [Act.put, List.setIfInBounds_toArray, List.set_cons_zero, List.set_cons_succ, i64_w, i32_w]
            rfl
          refine take_ (i := 6) (N := some 60) (v := ?_) (a' := ?_) #[true, true, true, true, true, true, true, false] rfl rfl (take_ofW HT_.out HW_.out (by kernel_rfl)) (fun _ _ _ h => h) (Or.inl ⟨by rfl, ?_⟩) hHeld ?_ ?_
          rotate_left
          · rintro w' ⟨s0, s1⟩
            go_simp
            with_reducible rfl
          rotate_left
          · simp only [Act.put, List.setIfInBounds_toArray, List.set_cons_zero, List.set_cons_succ, i64_w, i32_w]
            rfl
          refine last_ (i := 7) (N := some 61) #[true, true, true, true, true, true, true, true] rfl rfl (one_of HT_.out (by kernel_rfl)) (by decide) (fun K hK => ?_)
          refine goes_ Tryd.func40 (by kernel_rfl) rfl #[.pointer (some ⟨g, 0, none⟩), .slice (some ⟨F, 0, none⟩) N N, .slice (some ⟨X + 1, 0, none⟩) N N, .int .i64 0] (by rfl) rfl rfl (by (try simp only [List.map_toArray, List.map_cons, List.map_nil]); first | done | rfl | (go_simp; done) | simp [Act.eval]) ?_
          refine HAD.out.mono ?_
          rintro e w8 ⟨rfl, hx8, hp8⟩
          have HX8 := Aside0.mk (And.intro hx8 hp8)
          clear hx8 hp8
          refine ⟨_, rfl, ?_⟩
          refine hK.out _ _ ?_
          clear hK K
          refine norm_ (a' := ?_) ?_ ?_
          rotate_left
          · show Act.put _ (some 61) _ = _
            simp only [Act.put, List.setIfInBounds_toArray, List.set_cons_zero, List.set_cons_succ, i64_w, i32_w]
            rfl
          refine done_ (done_of HT_.out (by kernel_rfl)) ?_
          have hSP8 := HSD.out.1.putF HX8.out.2 HX8.out.1 (by rw [addI_length]; exact HSD.out.1.fnd.2)
          have hNX8 := HSD.out.2.1.apart (by have := HX.out; omega) HX8.out.2
          have hem := empty_calls (w := w8) (g := g) (N := N) hSP8.cell.2.1 HN.out.2
          have HEM := Aside0.mk hem
          have H8 := Aside0.mk (And.intro hSP8 hNX8)
          clear hSP8 hNX8 hem
          go_wp2_with (first
            | (go_at_call 38; refine HEM.out.mono ?_
               rintro e w9 ⟨rfl, hw9⟩
               have hb9 := below_alloc (Below.refl w8.heap.size w8) (.cells (ints (List.replicate N 0)) 3)
               have hn9 := blk_new w8 (.cells (ints (List.replicate N 0)) 3)
               rw [← hw9] at hb9 hn9
               have hc9 := (H8.out.2.below hb9).cell 0 (by decide)
               have hfz : w9.frozen? ⟨X, 0, none⟩ = false := by obtain ⟨C, hC, _⟩ := (H8.out.2.below hb9).blk; exact blk_frozen hC 0
               have H9 := Aside0.mk (And.intro hb9 hn9)
               clear hb9 hn9 hw9)
            | ((with_reducible refine gate_ (.load 50 (.tmp 5)) rfl ?_); refine Aside0.out ?_)
            | fail)
          refine Aside0.mk ?_
          obtain ⟨C, hC, hCs, hCw⟩ := (H8.out.2.below H9.out.1).blk
          obtain ⟨Y, hY⟩ : ∃ Y, Y = w8.heap.size := ⟨_, rfl⟩
          rw [← hY]
          have hXw : X < w8.heap.size := by obtain ⟨C, hC, _⟩ := H8.out.2.blk; exact blk_lt hC
          have hgX : g < X := by have := HX.out; omega
          have hCX := blk_put hC 0 (sl Y N) rfl
          obtain ⟨cs, hcs⟩ : ∃ cs, cs = (C.setIfInBounds 0 (sl Y N)).toList := ⟨_, rfl⟩
          have hcl : cs.length = 64 := by rw [hcs]; simpa using hCs
          have hcg : ∀ s, s < 64 → cs[s]? = some (sl (if s = 0 then Y else X + 1 + s) N) := fun s hs => by
            rw [hcs, Array.getElem?_toList, Array.getElem?_setIfInBounds]
            by_cases e : s = 0
            · subst e; rw [if_pos rfl, if_pos (by omega), if_pos rfl]
            · rw [if_neg (fun q => e q.symm), if_neg e]; exact hCw s hs
          refine wpList_load_mid rfl 50 (.tmp 5) rfl X 0 (by first | rfl | (go_simp; done)) cs _ (fun j v hv => ?_) Tryd.underlying50 rfl (by rw [hcl]; kernel_rfl) ?_
          · rw [hcs, Array.getElem?_toList] at hv
            rw [Nat.zero_add]
            exact (blk_cell hCX j).trans hv
          have hSP9 := H8.out.1.below H9.out.1
          have hbA : Put1 X w9 (w9.setCell ⟨X, 0, none⟩ (.slice (some ⟨Y, 0, none⟩) N N)) := Put1.set X 0 w9 _
          obtain ⟨Cg, hCg, hcc, hCF⟩ := hSP9.blk
          have hCgA := (hbA.block g (by omega)).trans hCg
          obtain ⟨VS, hVS⟩ : ∃ VS, VS = cs.toArray := ⟨_, rfl⟩
          have hVs : VS.size = 64 := by rw [hVS]; simpa using hcl
          have hVl : VS.toList = cs := by rw [hVS]
          rw [← hVS]
          obtain ⟨wA, hwA⟩ : ∃ wA, wA = w9.setCell ⟨X, 0, none⟩ (.slice (some ⟨Y, 0, none⟩) N N) := ⟨_, rfl⟩
          rw [← hwA] at hbA hCgA
          rw [← hwA]
          have HALL := Aside0.mk (And.intro hbA (And.intro hCgA (And.intro hVs (And.intro hVl (And.intro hcg (And.intro hcl (And.intro hcc (And.intro hCF (And.intro hSP9 hY)))))))))
          clear hbA hCgA hVs hVl hcg hcl hcc hCF hSP9 hY hcs hVS hwA hCX hC hCs hCw hCg hc9 hfz
          go_wp2_with (first
            | ((with_reducible refine gate_ (.store 50 (.tmp 68) (.tmp 66)) rfl ?_); refine Aside0.out ?_)
            | fail)
          refine Aside0.mk ?_
          obtain ⟨hbA, hCgA, hVs, hVl, hcg, hcl, hcc, hCF, hSP9, hY⟩ := HALL.out
          refine wpList_store_mid rfl 50 (.tmp 68) (.tmp 66) rfl g 5 VS (by first | rfl | (go_simp; done)) (by first | rfl | (go_simp; done)) (fun j hj => ?_) (by rw [hVs]; kernel_rfl) (by rw [show VS = cs.toArray from by rw [← hVl]]; exact all_oneCell_toArray (fun v hv => by obtain ⟨j, hj, rfl⟩ := List.getElem_of_mem hv; have e := hcg j (by omega); rw [List.getElem?_eq_getElem hj] at e; injection e with e; rw [e]; rfl)) ?_
          · rw [hVs] at hj
            exact ⟨by rw [blk_cell hCgA (5 + j), hcc.ways j hj]; rfl, blk_frozen hCgA (5 + j)⟩
          rw [hVl]
          obtain ⟨C2, hC2, hz2, ho2, hi2⟩ := setCells_blk cs 5 wA Cg hCgA
          have hpg := Put1.cells_ g cs 5 wA
          generalize (wA.setCells g 5 cs) = wF at hC2 hpg ⊢
          have HFIN := Aside0.mk (And.intro hC2 (And.intro hz2 (And.intro ho2 (And.intro hi2 hpg))))
          have hN9 := H8.out.2.below H9.out.1
          have HN9 := Aside0.mk hN9
          clear hC2 hz2 ho2 hi2 hpg hbA hCgA hVs hVl hcg hcl hcc hCF hSP9 hY hN9
          go_wp2_with fail
          go_ret
          obtain ⟨hC2, hz2, ho2, hi2, hpg⟩ := HFIN.out
          obtain ⟨hbA, hCgA, hVs, hVl, hcg, hcl, hcc, hCF, hSP9, hY⟩ := HALL.out
          have hXe := HX.out
          have hblk : ∀ k, k ≠ g → k ≠ X → wF.heap[k]? = w9.heap[k]? := fun k h1 h2 => (hpg.block k h1).trans (hbA.block k h2)
          refine ⟨by simp, fun s => if s = 0 then Y else X + 1 + s, ⟨⟨C2, hC2, ⟨hz2.trans hcc.size, fun v hv => (ho2 v (.inl (by omega))).trans (hcc.ws v hv), (ho2 4 (.inl (by omega))).trans hcc.top, fun s hs => hi2 s _ (hcg s hs) (by rw [hcc.size]; omega)⟩, (ho2 69 (.inr (by omega))).trans hCF⟩, fun s hs => ?_, ?_, fun s u hs hu e => ?_, fun s hs => ?_⟩, ?_⟩
          · by_cases e : s = 0
            · subst e
              show wF.heap[if 0 = 0 then Y else X + 1 + 0]? = some (.cells (ints (stepRows W N t rows 0)) 3 (0, 0)) ∧ (stepRows W N t rows 0).length = N
              have e0 : stepRows W N t rows 0 = zeros N := by unfold stepRows; rw [if_pos rfl]
              rw [if_pos rfl, e0]
              have hg8 := H8.out.1.lt
              have hX8 : X < w8.heap.size := by obtain ⟨C, hC, _⟩ := H8.out.2.blk; exact blk_lt hC
              exact ⟨(hblk Y (by omega) (by omega)).trans (by rw [hY]; exact H9.out.2), List.length_replicate⟩
            · show wF.heap[if s = 0 then Y else X + 1 + s]? = some (.cells (ints (stepRows W N t rows s)) 3 (0, 0)) ∧ (stepRows W N t rows s).length = N
              have e0 : stepRows W N t rows s = acc W N t rows 128 s := by unfold stepRows; rw [if_neg e]
              rw [if_neg e, e0]
              exact ⟨(hblk (X + 1 + s) (by omega) (by omega)).trans (HN9.out.row s hs).1, (HN9.out.row s hs).2⟩
          · exact ⟨(hblk F hSP9.negF.symm (by omega)).trans hSP9.fnd.1, hSP9.fnd.2⟩
          · have hr := fun q (hq : q < 64) => blk_lt (H8.out.2.row q hq).1
            have hs1 := hr s hs
            have hu1 := hr u hu
            have e : (if s = 0 then Y else X + 1 + s) = (if u = 0 then Y else X + 1 + u) := e
            split at e <;> split at e <;> omega
          · have hr := blk_lt (H8.out.2.row s hs).1
            show (if s = 0 then Y else X + 1 + s) ≠ F
            split <;> omega
          · intro n₀ h1 h2 h3
            have b1 : Below n₀ w wr := ⟨HB.out.os, HB.out.tape, HB.out.output, HB.out.size, fun k hk => HB.out.block k (by omega)⟩
            have b2 : Below n₀ wr wr.drew := below_drew1 (Below.refl _ _)
            have b3 := HX8.out.2.below h2
            have b4 : Below n₀ w8 w9 := ⟨H9.out.1.os, H9.out.1.tape, H9.out.1.output, H9.out.1.size, fun k hk => H9.out.1.block k (by have := H8.out.1.lt; omega)⟩
            exact ((((b1.trans b2).trans b3).trans b4).trans (hbA.below (by omega))).trans (hpg.below h1)
end Go.Proofs.YtijpnlmejphfhaaDoor.P

-- YtijpnlmejphfhaaDoorP1
namespace Go.Proofs.YtijpnlmejphfhaaDoor.P
open Go.RowKit Go.Proofs.YtijpnlmejphfhaaDoorW.PrintWords Go.Proofs.YtijpnlmejphfhaaDoorW.PrintLast Go.Proofs.YtijpnlmejphfhaaDoorW.PrintMore
attribute [local go_sem] max2_int min2_int max_two min_two max_three min_three max_four min_four   -- for this text's walks alone
set_option linter.unusedVariables false
set_option linter.unusedSimpArgs false

/-! ### spectrum_within: function 24 -/
def spectrum_within.f (a0 : Int) (a1 : Int) : Option (Bool) := if a0 ≥ 0 then (some (decide (a0 ≤ a1))) else (some false)
set_option maxHeartbeats 8000000 in
set_option maxRecDepth 100000 in
theorem spectrum_within.calls (a0 : Int) (a1 : Int) (r : Bool) (w : World) (h : spectrum_within.f a0 a1 = some r) :
    Calls Tryd.prog 24 #[.int .i64 a0, .int .i64 a1] w fun e w' => e = .returned (.bool r) ∧ Drawn0 w w' := by
  have H : (if a0 ≥ 0 then (some (decide (a0 ≤ a1))) else (some false)) = some r := h
  clear h
  by_cases c3 : a0 ≥ 0
  · rw [if_pos c3] at H
    have c3b0 : decide (0 ≤ a0) = true := decide_eq_true c3
    clear c3
    obtain rfl := Option.some.inj H
    go_enter Tryd.func24, Tryd.ntmps24
    go_wp2
    go_ret
    exact ⟨by first | rfl | (simp; done) | (simp [*]; done), by repeat (first | exact Drawn0.refl _ | apply Drawn0.step)⟩
  · rw [if_neg c3] at H
    have c3b0 : decide (0 ≤ a0) = false := decide_eq_false c3
    clear c3
    obtain rfl := Option.some.inj H
    go_enter Tryd.func24, Tryd.ntmps24
    go_wp2
    go_ret
    exact ⟨by first | rfl | (simp; done) | (simp [*]; done), by repeat (first | exact Drawn0.refl _ | apply Drawn0.step)⟩

end Go.Proofs.YtijpnlmejphfhaaDoor.P

-- YtijpnlmejphfhaaDoorPSFirst
namespace Go.Proofs.YtijpnlmejphfhaaDoor.P
open Go Go.Proofs Go.RowKit Go.Proofs.YtijpnlmejphfhaaDoorW.PrintWords Go.Proofs.YtijpnlmejphfhaaDoorW.PrintLast Go.Proofs.YtijpnlmejphfhaaDoorW.PrintMore
set_option linter.unusedVariables false
set_option linter.unusedSimpArgs false

/-- The first place, from i on, of which p holds; -1 if there is none. -/
def firstI (p : Int → Bool) : List Int → Nat → Int
  | [], _ => -1
  | x :: l, i => if p x = true then (i : Int) else firstI p l (i + 1)
theorem nz_calls (w : World) (x : Int) : Calls Tryd.prog 34 #[.int .i64 x] w fun e w' => e = .returned (.bool (x != 0)) ∧ w = w' := by
  go_enter Tryd.func34, Tryd.ntmps34
  go_wp2
  go_ret
  exact ⟨by simp, rfl⟩
theorem nz_below (w : World) (x : Int) : Calls Tryd.prog 34 #[.int .i64 x] w fun e w' => e = .returned (.bool (x != 0)) ∧ Below w.heap.size w w' :=
  (nz_calls w x).mono fun e w' ⟨h1, h2⟩ => ⟨h1, h2 ▸ Below.refl _ _⟩
theorem idxnz_calls (A : Option Addr) (c : Nat) (l : List Int) (w : World) (hr : Kd.C (Kd.int .i64) w A l.length l) (hl : l.length ≤ 100000) :
    Calls Tryd.prog 33 #[.slice A l.length c, .func (.func 34) #[] #[]] w fun e w' => e = .returned (.int .i64 (firstI (fun x => x != 0) l 0)) ∧ Below w.heap.size w w' := by
  have HR := Aside0.mk hr
  clear hr
  obtain ⟨n, hn⟩ : ∃ n, n = l.length := ⟨_, rfl⟩
  rw [← hn]
  have HN := Aside0.mk hn
  have hl2 : n ≤ 100000 := by omega
  clear hn hl
  go_enter Tryd.func33, Tryd.ntmps33
  go_wp2_with fail
  go_loopw [8] (fun v8 wr => ∃ i : Nat, v8 = .int .i64 (i : Int) ∧ i ≤ n ∧ Aside0 (firstI (fun x => x != 0) (l.drop i) i = firstI (fun x => x != 0) l 0) ∧ Aside0 (Below w.heap.size w wr)) (fun v8 _ => n - (intOf v8).toNat)
  case atStart => exact ⟨0, by simp, by omega, ⟨rfl⟩, ⟨Below.refl _ _⟩⟩
  case round =>
    obtain ⟨i, rfl, hi, HF, HB⟩ := hrel
    by_cases hlt : i < n
    · have hlb : decide ((i : Int) < (n : Int)) = true := decide_eq_true (by omega)
      obtain ⟨ad, rfl, hcx⟩ := ReadsOf.at_ (Kd.reads_of_C (d := (0 : Int)) (Kd.C_below HR.out HB.out)) (i : Int) (by omega) (by have := HN.out; omega)
      rw [Int.toNat_natCast] at hcx
      obtain ⟨x, hx⟩ : ∃ x, x = rdOf 0 l (i : Int) := ⟨_, rfl⟩
      rw [← hx] at hcx
      have hil : i < l.length := by have := HN.out; omega
      have hxg : l[i] = x := by rw [hx]; unfold rdOf; rw [Int.toNat_natCast, List.getD_eq_getElem?_getD, List.getElem?_eq_getElem hil]; rfl
      have hd : l.drop i = x :: l.drop (i + 1) := by rw [List.drop_eq_getElem_cons hil, hxg]
      have hf := HF.out
      rw [hd] at hf
      cases hp : (fun x => x != 0) x with
      | true =>
        have hf2 : (i : Int) = firstI (fun x => x != 0) l 0 := by rw [← hf]; unfold firstI; rw [if_pos hp]
        have HF2 := Aside0.mk hf2
        have HP := Aside0.mk (show ∀ w, Calls Tryd.prog 34 #[.int .i64 x] w fun e w' => e = .returned (.bool true) ∧ Below w.heap.size w w' from fun w => by have h : Calls Tryd.prog 34 #[.int .i64 x] w fun e w' => e = .returned (.bool ((fun x => x != 0) x)) ∧ Below w.heap.size w w' := nz_below w x; rw [hp] at h; exact h)
        clear hx hxg hd hf hf2 hp HF
        go_wp2_with (first | (go_at_call 34; refine (HP.out _).mono ?_; rintro e w2 ⟨rfl, hb⟩; have HB2 := Aside0.mk (below_step HB.out hb); clear hb) | fail)
        go_ret
        exact ⟨by rw [← HF2.out]; simp, HB2.out⟩
      | false =>
        have HF2 := Aside0.mk (show firstI (fun x => x != 0) (l.drop (i + 1)) (i + 1) = firstI (fun x => x != 0) l 0 from by rw [← hf]; show _ = if (fun x => x != 0) x = true then _ else _; rw [if_neg (by rw [hp]; decide)])
        have HP := Aside0.mk (show ∀ w, Calls Tryd.prog 34 #[.int .i64 x] w fun e w' => e = .returned (.bool false) ∧ Below w.heap.size w w' from fun w => by have h : Calls Tryd.prog 34 #[.int .i64 x] w fun e w' => e = .returned (.bool ((fun x => x != 0) x)) ∧ Below w.heap.size w w' := nz_below w x; rw [hp] at h; exact h)
        clear hx hxg hd hf hp HF
        go_wp2_with (first | (go_at_call 34; refine (HP.out _).mono ?_; rintro e w2 ⟨rfl, hb⟩; have HB2 := Aside0.mk (below_step HB.out hb); clear hb) | fail)
        go_roundw
        case rel => exact ⟨i + 1, by simp, by omega, HF2, HB2⟩
        case measure => simp [intOf]; omega
    · obtain rfl : i = n := by omega
      have hlb : decide ((i : Int) < (i : Int)) = false := decide_eq_false (by omega)
      have hf := HF.out
      rw [List.drop_eq_nil_of_le (by have := HN.out; omega)] at hf
      have HF2 := Aside0.mk (show (-1 : Int) = firstI (fun x => x != 0) l 0 from hf)
      clear hf HF
      go_wp2_with fail
      go_ret
      exact ⟨by rw [← HF2.out]; simp, HB.out⟩
/-- Whether a number is from 0 to another one. -/
def inW (n m : Int) : Bool := decide (0 ≤ n) && decide (n ≤ m)
theorem within_f (n m : Int) : spectrum_within.f n m = some (inW n m) := by
  unfold spectrum_within.f inW
  by_cases h : n ≥ 0
  · rw [if_pos h, decide_eq_true (p := (0 : Int) ≤ n) h, Bool.true_and]
  · rw [if_neg h, decide_eq_false (p := (0 : Int) ≤ n) h, Bool.false_and]
theorem within_calls (n m : Int) (w : World) : Calls Tryd.prog 24 #[.int .i64 n, .int .i64 m] w fun e w' => e = .returned (.bool (inW n m)) ∧ Drawn0 w w' :=
  spectrum_within.calls n m _ w (within_f n m)
theorem bad_below (w : World) (x : Int) : Calls Tryd.prog 26 #[.int .i64 x] w fun e w' => e = .returned (.bool (!inW x 7)) ∧ Below w.heap.size w w' := by
  have HW := Aside0.mk (fun w => within_calls x 7 w)
  obtain ⟨b, hb⟩ : ∃ b, b = inW x 7 := ⟨_, rfl⟩
  rw [← hb]
  rw [← hb] at HW
  clear hb
  go_enter Tryd.func26, Tryd.ntmps26
  go_wp2_with (first | (go_at_call 24; refine (HW.out _).mono ?_; rintro e w2 ⟨rfl, hd⟩; have HB2 := Aside0.mk hd.below; clear hd) | fail)
  go_ret
  exact ⟨by simp, HB2.out⟩
theorem idxbad_calls (A : Option Addr) (c : Nat) (l : List Int) (w : World) (hr : Kd.C (Kd.int .i64) w A l.length l) (hl : l.length ≤ 100000) :
    Calls Tryd.prog 33 #[.slice A l.length c, .func (.func 26) #[] #[]] w fun e w' => e = .returned (.int .i64 (firstI (fun x => !inW x 7) l 0)) ∧ Below w.heap.size w w' := by
  have HR := Aside0.mk hr
  clear hr
  obtain ⟨n, hn⟩ : ∃ n, n = l.length := ⟨_, rfl⟩
  rw [← hn]
  have HN := Aside0.mk hn
  have hl2 : n ≤ 100000 := by omega
  clear hn hl
  go_enter Tryd.func33, Tryd.ntmps33
  go_wp2_with fail
  go_loopw [8] (fun v8 wr => ∃ i : Nat, v8 = .int .i64 (i : Int) ∧ i ≤ n ∧ Aside0 (firstI (fun x => !inW x 7) (l.drop i) i = firstI (fun x => !inW x 7) l 0) ∧ Aside0 (Below w.heap.size w wr)) (fun v8 _ => n - (intOf v8).toNat)
  case atStart => exact ⟨0, by simp, by omega, ⟨rfl⟩, ⟨Below.refl _ _⟩⟩
  case round =>
    obtain ⟨i, rfl, hi, HF, HB⟩ := hrel
    by_cases hlt : i < n
    · have hlb : decide ((i : Int) < (n : Int)) = true := decide_eq_true (by omega)
      obtain ⟨ad, rfl, hcx⟩ := ReadsOf.at_ (Kd.reads_of_C (d := (0 : Int)) (Kd.C_below HR.out HB.out)) (i : Int) (by omega) (by have := HN.out; omega)
      rw [Int.toNat_natCast] at hcx
      obtain ⟨x, hx⟩ : ∃ x, x = rdOf 0 l (i : Int) := ⟨_, rfl⟩
      rw [← hx] at hcx
      have hil : i < l.length := by have := HN.out; omega
      have hxg : l[i] = x := by rw [hx]; unfold rdOf; rw [Int.toNat_natCast, List.getD_eq_getElem?_getD, List.getElem?_eq_getElem hil]; rfl
      have hd : l.drop i = x :: l.drop (i + 1) := by rw [List.drop_eq_getElem_cons hil, hxg]
      have hf := HF.out
      rw [hd] at hf
      cases hp : (fun x => !inW x 7) x with
      | true =>
        have hf2 : (i : Int) = firstI (fun x => !inW x 7) l 0 := by rw [← hf]; unfold firstI; rw [if_pos hp]
        have HF2 := Aside0.mk hf2
        have HP := Aside0.mk (show ∀ w, Calls Tryd.prog 26 #[.int .i64 x] w fun e w' => e = .returned (.bool true) ∧ Below w.heap.size w w' from fun w => by have h : Calls Tryd.prog 26 #[.int .i64 x] w fun e w' => e = .returned (.bool ((fun x => !inW x 7) x)) ∧ Below w.heap.size w w' := bad_below w x; rw [hp] at h; exact h)
        clear hx hxg hd hf hf2 hp HF
        go_wp2_with (first | (go_at_call 26; refine (HP.out _).mono ?_; rintro e w2 ⟨rfl, hb⟩; have HB2 := Aside0.mk (below_step HB.out hb); clear hb) | fail)
        go_ret
        exact ⟨by rw [← HF2.out]; simp, HB2.out⟩
      | false =>
        have HF2 := Aside0.mk (show firstI (fun x => !inW x 7) (l.drop (i + 1)) (i + 1) = firstI (fun x => !inW x 7) l 0 from by rw [← hf]; show _ = if (fun x => !inW x 7) x = true then _ else _; rw [if_neg (by rw [hp]; decide)])
        have HP := Aside0.mk (show ∀ w, Calls Tryd.prog 26 #[.int .i64 x] w fun e w' => e = .returned (.bool false) ∧ Below w.heap.size w w' from fun w => by have h : Calls Tryd.prog 26 #[.int .i64 x] w fun e w' => e = .returned (.bool ((fun x => !inW x 7) x)) ∧ Below w.heap.size w w' := bad_below w x; rw [hp] at h; exact h)
        clear hx hxg hd hf hp HF
        go_wp2_with (first | (go_at_call 26; refine (HP.out _).mono ?_; rintro e w2 ⟨rfl, hb⟩; have HB2 := Aside0.mk (below_step HB.out hb); clear hb) | fail)
        go_roundw
        case rel => exact ⟨i + 1, by simp, by omega, HF2, HB2⟩
        case measure => simp [intOf]; omega
    · obtain rfl : i = n := by omega
      have hlb : decide ((i : Int) < (i : Int)) = false := decide_eq_false (by omega)
      have hf := HF.out
      rw [List.drop_eq_nil_of_le (by have := HN.out; omega)] at hf
      have HF2 := Aside0.mk (show (-1 : Int) = firstI (fun x => !inW x 7) l 0 from hf)
      clear hf HF
      go_wp2_with fail
      go_ret
      exact ⟨by rw [← HF2.out]; simp, HB.out⟩
theorem contains_calls (A : Option Addr) (c : Nat) (l : List Int) (w : World) (hr : Kd.C (Kd.int .i64) w A l.length l) (hl : l.length ≤ 100000) :
    Calls Tryd.prog 25 #[.slice A l.length c, .func (.func 26) #[] #[]] w fun e w' => e = .returned (.bool (decide (0 ≤ firstI (fun x => !inW x 7) l 0))) ∧ Below w.heap.size w w' := by
  have HI := Aside0.mk (idxbad_calls A c l w hr hl)
  obtain ⟨i, hi⟩ : ∃ i, i = firstI (fun x => !inW x 7) l 0 := ⟨_, rfl⟩
  rw [← hi]
  rw [← hi] at HI
  obtain ⟨n, hn⟩ : ∃ n, n = l.length := ⟨_, rfl⟩
  rw [← hn] at HI ⊢
  clear hr hl hi hn
  go_enter Tryd.func25, Tryd.ntmps25
  go_wp2_with (first | (go_at_call 33; refine HI.out.mono ?_; rintro e w2 ⟨rfl, hb⟩; have HB2 := Aside0.mk hb; clear hb) | fail)
  go_ret
  exact ⟨by simp, HB2.out⟩
end Go.Proofs.YtijpnlmejphfhaaDoor.P

-- YtijpnlmejphfhaaDoorPSFirst2
namespace Go.Proofs.YtijpnlmejphfhaaDoor.P
open Go Go.Proofs Go.RowKit Go.Proofs.YtijpnlmejphfhaaDoorW.PrintWords Go.Proofs.YtijpnlmejphfhaaDoorW.PrintLast Go.Proofs.YtijpnlmejphfhaaDoorW.PrintMore
set_option linter.unusedVariables false
set_option linter.unusedSimpArgs false

def nz (x : Int) : Bool := x != 0
theorem firstI_cases (p : Int → Bool) : ∀ (l : List Int) (i : Nat), firstI p l i = -1 ∨ ∃ j : Nat, j < l.length ∧ firstI p l i = ((i + j : Nat) : Int)
  | [], i => .inl rfl
  | x :: l, i => by
    unfold firstI
    by_cases h : p x = true
    · rw [if_pos h]; exact .inr ⟨0, by simp, by simp⟩
    · rw [if_neg h]
      rcases firstI_cases p l (i + 1) with e | ⟨j, hj, e⟩
      · exact .inl e
      · exact .inr ⟨j + 1, by simp; omega, by rw [e]; congr 1; omega⟩
/-- What First tells: the place, and what stands there. -/
def firstN (l : List Int) : Int := firstI (fun x => x != 0) l 0
def firstK (l : List Int) : Int := if firstN l < 0 then 0 else l.getD (firstN l).toNat 0
def first4.T : Bool × List (List Nat × List Nat) := (true, [([], []), ([], []), ([], []), ([1, 2], [1, 2]), ([3], [3]), ([0, 0], [0]), ([4, 5, 0, 1, 2, 3, 4, 5], [4])])
def first4.B : List Nat := [0, 0, 0, 6, 14, 1, 63]
theorem first4.tab : rtab .any (opsOf Tryd.f16 4) = first4.T := by kernel_rfl
theorem first4.bits : waitsOk first4.T.2 first4.B = true := by kernel_rfl
set_option maxRecDepth 100000 in
set_option maxHeartbeats 4000000 in
theorem first_calls (A : Option Addr) (c : Nat) (l : List Int) (w : World) (hr : Kd.C (Kd.int .i64) w A l.length l) (hl : l.length ≤ 100000) :
    Calls Tryd.prog 16 #[.slice A l.length c] w fun e w' => e = .returned (.tuple #[.int .i64 (firstN l), .int .i64 (firstK l)]) ∧ Below w.heap.size w w' := by
  have HR := Aside0.mk hr
  have HI := Aside0.mk (idxnz_calls A c l w hr hl)
  rcases firstI_cases (fun x => x != 0) l 0 with e | ⟨j, hj, e⟩
  · have e2 : firstN l = -1 := e
    have e3 : firstK l = 0 := by unfold firstK; rw [if_pos (by omega)]
    rw [e2, e3]
    rw [e] at HI
    clear e e2 e3 hr
    go_enter Tryd.func16, Tryd.ntmps16
    go_wp2_with (first | (go_at_call 33; refine HI.out.mono ?_; rintro e w1 ⟨rfl, hb⟩; have HB := Aside0.mk hb; clear hb) | fail)
    go_ret2
    exact ⟨by simp, HB.out⟩
  · rw [Nat.zero_add] at e
    have e2 : firstN l = (j : Int) := e
    have e3 : firstK l = l.getD j 0 := by unfold firstK; rw [e2, if_neg (by omega), Int.toNat_natCast]
    rw [e2, e3]
    rw [e] at HI
    have hlb : decide ((j : Int) < 0) = false := decide_eq_false (by omega)
    obtain ⟨x, hx⟩ : ∃ x, x = l.getD j 0 := ⟨_, rfl⟩
    have HX := Aside0.mk hx
    rw [← hx]
    have HJ := Aside0.mk hj
    obtain ⟨n, hn⟩ : ∃ n, n = l.length := ⟨_, rfl⟩
    rw [← hn] at HI ⊢
    have hjn : (j : Int) < (n : Int) := by omega
    clear e e2 e3 hr hx hj hn
    go_enter Tryd.func16, Tryd.ntmps16
    go_wp2_with (first | (go_at_call 33; refine HI.out.mono ?_; rintro e w1 ⟨rfl, hb⟩; have HB := Aside0.mk hb; clear hb) | fail)
    obtain ⟨ad, rfl, hcx⟩ := ReadsOf.at_ (Kd.reads_of_C (d := (0 : Int)) (Kd.C_below HR.out HB.out)) (j : Int) (by omega) (by have := HJ.out; omega)
    rw [Int.toNat_natCast] at hcx
    have hrd : rdOf 0 l (j : Int) = x := by rw [HX.out]; unfold rdOf; rw [Int.toNat_natCast]
    rw [hrd] at hcx
    have HS := Aside0.mk (show w1.drew.cell? (ad.add j) = some (.int .i64 x) from hcx)
    clear hcx hrd
    refine start_ (n := 7) (S := (fun w' => w'.cell? (ad.add j) = some (.int .i64 x))) (ds := []) #[false, false, false, false, false, false, false] (by kernel_rfl) rfl rfl HS.out (fun hHeld => ?_)
    refine with_tabW first4.tab first4.bits (fun HT_ HW_ => ?_)
    refine pure_ (i := 0) (N := some 10) (v := ?_) (a' := ?_) #[true, false, false, false, false, false, false] rfl rfl (any_of HT_.out (by kernel_rfl)) (fun _ _ _ h => h) (Or.inl ⟨by rfl, ?_⟩) ?_ ?_
    rotate_left
    · intro w'
      go_simp
      with_reducible rfl
    rotate_left
    · simp only [Act.put, List.setIfInBounds_toArray, List.set_cons_zero, List.set_cons_succ, i64_w, i32_w]
      rfl
    refine pure_ (i := 1) (N := some 11) (v := ?_) (a' := ?_) #[true, true, false, false, false, false, false] rfl rfl (any_of HT_.out (by kernel_rfl)) (fun _ _ _ h => h) (Or.inl ⟨by rfl, ?_⟩) ?_ ?_
    rotate_left
    · intro w'
      go_simp
      with_reducible rfl
    rotate_left
    · simp only [Act.put, List.setIfInBounds_toArray, List.set_cons_zero, List.set_cons_succ, i64_w, i32_w]
      rfl
    refine pure_ (i := 2) (N := some 12) (v := ?_) (a' := ?_) #[true, true, true, false, false, false, false] rfl rfl (any_of HT_.out (by kernel_rfl)) (fun _ _ _ h => h) (Or.inl ⟨by rfl, ?_⟩) ?_ ?_
    rotate_left
    · intro w'
      go_simp
      with_reducible rfl
    rotate_left
    · simp only [Act.put, List.setIfInBounds_toArray, List.set_cons_zero, List.set_cons_succ, i64_w, i32_w]
      rfl
    refine pure_ (i := 3) (N := some 13) (v := ?_) (a' := ?_) #[true, true, true, true, false, false, false] rfl rfl (any_of HT_.out (by kernel_rfl)) (fun _ _ _ h => h) (Or.inl ⟨by rfl, ?_⟩) ?_ ?_
    rotate_left
    · intro w'
      go_simp
      with_reducible rfl
    rotate_left
    · simp only [Act.put, List.setIfInBounds_toArray, List.set_cons_zero, List.set_cons_succ, i64_w, i32_w]
      rfl
    refine take_ (i := 4) (N := some 14) (v := ?_) (a' := ?_) #[true, true, true, true, true, false, false] rfl rfl (take_ofW HT_.out HW_.out (by kernel_rfl)) (fun _ _ _ h => h) (Or.inl ⟨by rfl, ?_⟩) hHeld ?_ ?_
    rotate_left
    · rintro w' s0
      go_simp
      with_reducible rfl
    rotate_left
    · simp only [Act.put, List.setIfInBounds_toArray, List.set_cons_zero, List.set_cons_succ, i64_w, i32_w]
      rfl
    refine pure_ (i := 5) (N := some 2) (v := ?_) (a' := ?_) #[true, true, true, true, true, true, false] rfl rfl (any_of HT_.out (by kernel_rfl)) (fun _ _ _ h => h) (Or.inl ⟨by rfl, ?_⟩) ?_ ?_
    rotate_left
    · intro w'
      go_simp
      with_reducible rfl
    rotate_left
    · simp only [Act.put, List.setIfInBounds_toArray, List.set_cons_zero, List.set_cons_succ, i64_w, i32_w]
      rfl
    refine pure_ (i := 6) (N := some 3) (v := ?_) (a' := ?_) #[true, true, true, true, true, true, true] rfl rfl (any_of HT_.out (by kernel_rfl)) (fun _ _ _ h => h) (Or.inl ⟨by rfl, ?_⟩) ?_ ?_
    rotate_left
    · intro w'
      go_simp
      with_reducible rfl
    rotate_left
    · simp only [Act.put, List.setIfInBounds_toArray, List.set_cons_zero, List.set_cons_succ, i64_w, i32_w]
      rfl
    refine done_ (done_of HT_.out (by kernel_rfl)) ?_
    go_wp2_with fail
    go_ret2
    exact ⟨by simp, HB.out.trans (⟨rfl, rfl, rfl, Nat.le_refl _, fun _ _ => rfl⟩ : Below w.heap.size w1 w1.drew)⟩
end Go.Proofs.YtijpnlmejphfhaaDoor.P

-- YtijpnlmejphfhaaDoorPSCount
namespace Go.Proofs.YtijpnlmejphfhaaDoor.P
open Go Go.Proofs Go.RowKit Go.Proofs.YtijpnlmejphfhaaDoorW.PrintWords Go.Proofs.YtijpnlmejphfhaaDoorW.PrintLast Go.Proofs.YtijpnlmejphfhaaDoorW.PrintMore
set_option linter.unusedVariables false
set_option linter.unusedSimpArgs false

/-- The rows and what is found, behind the first edge and k steps more. -/
def itR (W : Nat → Int) (N p : Nat) : Nat → (Nat → List Int) × List Int
  | 0 => (beginRows W N p, zeros N)
  | k + 1 => (stepRows W N (p + (k + 1)) (itR W N p k).1, stepFound W N (p + (k + 1)) (itR W N p k).1 (itR W N p k).2)
def wOf (a b c d : Int) : Nat → Int
  | 0 => a
  | 1 => b
  | 2 => c
  | _ => d
def wok (a b c d : Int) : Bool := inW a 7 && inW b 7 && inW c 7 && inW d 7
def cok (a b c d p s m : Int) : Bool := inW p 3 && inW s 30 && inW m 400 && wok a b c d
def countL (a b c d : Int) (p s m : Nat) : List Int := (itR (wOf a b c d) (m + 1) p (s - 1)).2
theorem inW_iff (n m : Int) : inW n m = true ↔ 0 ≤ n ∧ n ≤ m := by unfold inW; simp
theorem bad4 (a b c d : Int) : decide (0 ≤ firstI (fun x => !inW x 7) [a, b, c, d] 0) = !wok a b c d := by
  unfold wok firstI firstI firstI firstI firstI
  cases inW a 7 <;> cases inW b 7 <;> cases inW c 7 <;> cases inW d 7 <;> rfl
theorem wok_in {a b c d : Int} (h : wok a b c d = true) : ∀ v, v < 4 → 0 ≤ wOf a b c d v ∧ wOf a b c d v ≤ 7 := by
  unfold wok at h
  simp only [Bool.and_eq_true, inW_iff] at h
  intro v hv
  obtain rfl | rfl | rfl | rfl : v = 0 ∨ v = 1 ∨ v = 2 ∨ v = 3 := by omega
  · exact h.1.1.1
  · exact h.1.1.2
  · exact h.1.2
  · exact h.2
set_option maxRecDepth 100000 in
set_option maxHeartbeats 8000000 in
theorem count_calls {w : World} (hT : TP w) (a b c d : Int) (p s m : Nat) (hp : p ≤ 3) (hs : s ≤ 30) (hm : m ≤ 400) (hw : wok a b c d = true) :
    Calls Tryd.prog 11 #[.agg #[.int .i64 a, .int .i64 b, .int .i64 c, .int .i64 d], .int .i64 (p : Int), .int .i64 (s : Int), .int .i64 (m : Int)] w fun e w' =>
      ∃ F, e = .returned (.tuple #[.slice (some ⟨F, 0, none⟩) (m + 1) (m + 1), .int .i64 0]) ∧ w'.heap[F]? = some (.cells (ints (countL a b c d p s m)) 3 (0, 0)) ∧ (countL a b c d p s m).length = m + 1 ∧ Below w.heap.size w w' := by
  have HT := Aside0.mk hT
  have HW := Aside0.mk (wok_in hw)
  have HP := Aside0.mk (show ∀ w, Calls Tryd.prog 24 #[.int .i64 (p : Int), .int .i64 3] w fun e w' => e = .returned (.bool true) ∧ Drawn0 w w' from fun w => by
    have h := within_calls p 3 w; rw [(inW_iff _ _).2 (by omega)] at h; exact h)
  have HS := Aside0.mk (show ∀ w, Calls Tryd.prog 24 #[.int .i64 (s : Int), .int .i64 30] w fun e w' => e = .returned (.bool true) ∧ Drawn0 w w' from fun w => by
    have h := within_calls s 30 w; rw [(inW_iff _ _).2 (by omega)] at h; exact h)
  have HM := Aside0.mk (show ∀ w, Calls Tryd.prog 24 #[.int .i64 (m : Int), .int .i64 400] w fun e w' => e = .returned (.bool true) ∧ Drawn0 w w' from fun w => by
    have h := within_calls m 400 w; rw [(inW_iff _ _).2 (by omega)] at h; exact h)
  have HC := Aside0.mk (show ∀ w A, Kd.C (Kd.int .i64) w A 4 [a, b, c, d] → Calls Tryd.prog 25 #[.slice A 4 4, .func (.func 26) #[] #[]] w fun e w' => e = .returned (.bool false) ∧ Below w.heap.size w w' from fun w A hr => by
    have h := contains_calls A 4 [a, b, c, d] w hr (by simp); rw [bad4, hw] at h; exact h)
  have HPS := Aside0.mk (And.intro hp (And.intro hs hm))
  clear hT hw hp hs hm
  go_enter Tryd.func11, Tryd.ntmps11
  go_wp2_with (first
    | (go_at_call 24; refine Aside0.out ?_)
    | fail)
  refine Aside0.mk ?_
  have hba := below_alloc (Below.refl w.heap.size w) (.cells #[.int .i64 a, .int .i64 b, .int .i64 c, .int .i64 d] 22)
  have hbb := blk_new w (.cells #[.int .i64 a, .int .i64 b, .int .i64 c, .int .i64 d] 22)
  obtain ⟨w0, hw0⟩ : ∃ w0, w0 = w.alloc (.cells #[.int .i64 a, .int .i64 b, .int .i64 c, .int .i64 d] 22) := ⟨_, rfl⟩
  obtain ⟨x0, hx0⟩ : ∃ x0, x0 = w.heap.size := ⟨_, rfl⟩
  rw [← hw0] at hba hbb
  rw [← hx0] at hbb
  rw [← hw0, ← hx0]
  have HBA := Aside0.mk (And.intro hba (And.intro hbb hx0))
  clear hba hbb hx0 hw0
  refine (HP.out _).mono ?_
  rintro e w1 ⟨rfl, hd⟩
  have H1 := Aside0.mk hd.below
  clear hd
  go_wp2_with (first
    | (go_at_call 24; refine Aside0.out ?_)
    | fail)
  refine Aside0.mk ?_
  refine (HS.out _).mono ?_
  rintro e w2 ⟨rfl, hd⟩
  have H2 := Aside0.mk (below_step H1.out hd.below)
  clear hd
  go_wp2_with (first
    | (go_at_call 24; refine Aside0.out ?_)
    | fail)
  refine Aside0.mk ?_
  refine (HM.out _).mono ?_
  rintro e w3 ⟨rfl, hd⟩
  have H3 := Aside0.mk (below_step H2.out hd.below)
  clear hd H1 H2
  go_wp2_with (first
    | (go_at_call 25; refine Aside0.out ?_)
    | fail)
  refine Aside0.mk ?_
  have hb3 := (H3.out.block x0 (blk_lt HBA.out.2.1)).trans HBA.out.2.1
  have hl3 := blk_lt hb3
  refine (HC.out _ _ (C_of_blk hb3 rfl ⟨rfl, by simp⟩)).mono ?_
  rintro e w4 ⟨rfl, hd⟩
  have hb4 := (hd.block x0 hl3).trans hb3
  have H4 := Aside0.mk (below_step HBA.out.1 (below_step H3.out hd))
  have hc0 := blk_cell hb4 0
  have hc1 := blk_cell hb4 1
  have hc2 := blk_cell hb4 2
  have hc3 := blk_cell hb4 3
  have HB4 := Aside0.mk hb4
  clear hd hb4 hb3 hl3
  go_wp2_with (first
    | (go_at_call 27; refine Aside0.out ?_)
    | fail)
  refine Aside0.mk ?_
  obtain ⟨CS, hCS⟩ : ∃ CS, CS = (((((Tryd.zeroCells52.setIfInBounds 0 (Value.int IntKind.i64 a)).setIfInBounds 1 (Value.int IntKind.i64 b)).setIfInBounds 2 (Value.int IntKind.i64 c)).setIfInBounds 3 (Value.int IntKind.i64 d)).setIfInBounds 4 (Value.int IntKind.i64 (m : Int))) := ⟨_, rfl⟩
  rw [← hCS]
  have hcc : CC CS (wOf a b c d) (m + 1) (fun _ => 0) 0 := by
    have hz : Tryd.zeroCells52.size = 70 := by kernel_rfl
    refine ⟨by rw [hCS]; simp [hz], fun v hv => ?_, ?_, fun s hs => absurd hs (Nat.not_lt_zero _)⟩
    · rw [hCS]
      obtain rfl | rfl | rfl | rfl : v = 0 ∨ v = 1 ∨ v = 2 ∨ v = 3 := by omega
      · simp [Array.getElem?_setIfInBounds, hz, wOf]
      · simp [Array.getElem?_setIfInBounds, hz, wOf]
      · simp [Array.getElem?_setIfInBounds, hz, wOf]
      · simp [Array.getElem?_setIfInBounds, hz, wOf]
    · rw [hCS]
      simp [Array.getElem?_setIfInBounds, hz]
  have hba := below_alloc (Below.refl w4.heap.size w4) (.cells CS 52)
  have hbb := blk_new w4 (.cells CS 52)
  obtain ⟨g, hg⟩ : ∃ g, g = w4.heap.size := ⟨_, rfl⟩
  have hgw : w.heap.size ≤ g := by rw [hg]; exact H4.out.size
  have hg0 : g ≠ 0 := by have := HT.out.lt; omega
  obtain ⟨w5, hw5⟩ : ∃ w5, w5 = w4.alloc (.cells CS 52) := ⟨_, rfl⟩
  rw [← hw5] at hba hbb
  rw [← hg] at hbb
  rw [← hw5, ← hg]
  have hb5 := below_step H4.out hba
  have hT5 := TP_of HT.out hb5
  have hbe := begin_calls hT5 hg0 hbb hcc ⟨by omega, by have := HPS.out; omega⟩ HW.out p (by have := HPS.out; omega)
  have HBE := Aside0.mk hbe
  have HG := Aside0.mk (And.intro hgw (And.intro hb5 hg0))
  clear hCS hcc hba hbb hg hgw hg0 hw5 hb5 hT5 hbe hc0 hc1 hc2 hc3 H4 HB4 H3 HBA HC HP HS HM
  refine HBE.out.mono ?_
  rintro e w6 ⟨rfl, A, F, hSP, hFG, hF⟩
  have hb6 : Below w.heap.size w w6 := HG.out.2.1.trans (hFG.below HG.out.1 HG.out.2.1.size)
  have hF6 : w.heap.size ≤ F := Nat.le_trans HG.out.2.1.size hF
  have H6 := Aside0.mk (And.intro hSP hb6)
  have HF6 := Aside0.mk hF6
  clear hSP hFG hF hb6 hF6 HBE
  go_wp2_with fail
  obtain ⟨N, hN⟩ : ∃ N, N = m + 1 := ⟨_, rfl⟩
  rw [← hN] at H6
  have HN := Aside0.mk hN
  clear hN
  go_loopw [13] (fun v13 wr => ∃ (i : Nat) (A : Nat → Nat), v13 = .int .i64 (i : Int) ∧ 1 ≤ i ∧ i ≤ 31 ∧ Aside0 (i - 1 ≤ s - 1) ∧ Aside0 (SP wr g (wOf a b c d) N A F (itR (wOf a b c d) N p (i - 1)).1 (itR (wOf a b c d) N p (i - 1)).2) ∧ Aside0 (Below w.heap.size w wr)) (fun v13 _ => 31 - (intOf v13).toNat)
  case atStart => exact ⟨1, A, by simp, by omega, by omega, ⟨by omega⟩, ⟨H6.out.1⟩, ⟨H6.out.2⟩⟩
  case round =>
    clear H6
    obtain ⟨i, A, rfl, hi1, hi2, HI, HSP, HB⟩ := hrel
    by_cases hlt : i < s
    · have hlb : decide ((i : Int) < (s : Int)) = true := decide_eq_true (by omega)
      have hst := step_calls (TP_of HT.out HB.out) HG.out.2.2 HSP.out ⟨by have := HN.out; omega, by have := HN.out; have := HPS.out; omega⟩ HW.out (p + i) (by have := HPS.out; omega)
      have hps : p ≤ 3 := HPS.out.1
      rw [Int.natCast_add] at hst
      have HST := Aside0.mk hst
      clear hst
      go_wp2_with (first
        | (go_at_call 28; refine HST.out.mono ?_
           rintro e w7 ⟨rfl, A2, hSP, hbw⟩
           have H7 := Aside0.mk (And.intro hSP (hbw w.heap.size HG.out.1 HF6.out HB.out.size))
           clear hSP hbw)
        | fail)
      go_roundw
      case rel =>
        refine ⟨i + 1, A2, by simp, by omega, by have := HPS.out; omega, ⟨by have := HPS.out; omega⟩, ⟨?_⟩, ⟨HB.out.trans H7.out.2⟩⟩
        obtain ⟨k, rfl⟩ : ∃ k, i = k + 1 := ⟨i - 1, by omega⟩
        exact H7.out.1
      case measure =>
        have hs30 : s ≤ 30 := HPS.out.2.1
        simp [intOf]; omega
    · have hlb : decide ((i : Int) < (s : Int)) = false := decide_eq_false (by omega)
      have hie : i - 1 = s - 1 := by have := HI.out; omega
      have hc69 := HSP.out.cell.2.2.2
      have HE := Aside0.mk hie
      clear hie
      go_wp2_with fail
      go_ret2
      have hf := HSP.out.fnd
      rw [HE.out, HN.out] at hf
      exact ⟨F, by rw [HN.out]; simp [sl], hf.1, hf.2, HB.out⟩
set_option maxRecDepth 100000 in
set_option maxHeartbeats 8000000 in
/-- Of wrong weights, phases, steps there is an error. -/
theorem count_bad {w : World} (a b c d p s m : Int) (h : cok a b c d p s m = false) :
    Calls Tryd.prog 11 #[.agg #[.int .i64 a, .int .i64 b, .int .i64 c, .int .i64 d], .int .i64 p, .int .i64 s, .int .i64 m] w fun e w' =>
      e = .returned (.tuple #[.slice none 0 0, .int .i64 1]) ∧ Below w.heap.size w w' := by
  obtain ⟨bp, hbp⟩ : ∃ bp, bp = inW p 3 := ⟨_, rfl⟩
  obtain ⟨bs, hbs⟩ : ∃ bs, bs = inW s 30 := ⟨_, rfl⟩
  obtain ⟨bm, hbm⟩ : ∃ bm, bm = inW m 400 := ⟨_, rfl⟩
  obtain ⟨bw, hbw⟩ : ∃ bw, bw = wok a b c d := ⟨_, rfl⟩
  have HP := Aside0.mk (show ∀ w, Calls Tryd.prog 24 #[.int .i64 p, .int .i64 3] w fun e w' => e = .returned (.bool bp) ∧ Drawn0 w w' from fun w => hbp ▸ within_calls p 3 w)
  have HS := Aside0.mk (show ∀ w, Calls Tryd.prog 24 #[.int .i64 s, .int .i64 30] w fun e w' => e = .returned (.bool bs) ∧ Drawn0 w w' from fun w => hbs ▸ within_calls s 30 w)
  have HM := Aside0.mk (show ∀ w, Calls Tryd.prog 24 #[.int .i64 m, .int .i64 400] w fun e w' => e = .returned (.bool bm) ∧ Drawn0 w w' from fun w => hbm ▸ within_calls m 400 w)
  have HC := Aside0.mk (show ∀ w A, Kd.C (Kd.int .i64) w A 4 [a, b, c, d] → Calls Tryd.prog 25 #[.slice A 4 4, .func (.func 26) #[] #[]] w fun e w' => e = .returned (.bool (!bw)) ∧ Below w.heap.size w w' from fun w A hr => by
    have h := contains_calls A 4 [a, b, c, d] w hr (by simp); rw [bad4, ← hbw] at h; exact h)
  unfold cok at h
  rw [← hbp, ← hbs, ← hbm, ← hbw] at h
  clear hbp hbs hbm hbw
  have hc : bp = false ∨ (bp = true ∧ bs = false) ∨ (bp = true ∧ bs = true ∧ bm = false) ∨ (bp = true ∧ bs = true ∧ bm = true ∧ bw = false) := by
    cases bp <;> cases bs <;> cases bm <;> cases bw <;> simp_all
  clear h
  rcases hc with rfl | ⟨rfl, rfl⟩ | ⟨rfl, rfl, rfl⟩ | ⟨rfl, rfl, rfl, rfl⟩
  · go_enter Tryd.func11, Tryd.ntmps11
    go_wp2_with (first
      | (go_at_call 24; refine Aside0.out ?_)
      | fail)
    refine Aside0.mk ?_
    have hba := below_alloc (Below.refl w.heap.size w) (.cells #[.int .i64 a, .int .i64 b, .int .i64 c, .int .i64 d] 22)
    have hbb := blk_new w (.cells #[.int .i64 a, .int .i64 b, .int .i64 c, .int .i64 d] 22)
    obtain ⟨w0, hw0⟩ : ∃ w0, w0 = w.alloc (.cells #[.int .i64 a, .int .i64 b, .int .i64 c, .int .i64 d] 22) := ⟨_, rfl⟩
    obtain ⟨x0, hx0⟩ : ∃ x0, x0 = w.heap.size := ⟨_, rfl⟩
    rw [← hw0] at hba hbb
    rw [← hx0] at hbb
    rw [← hw0, ← hx0]
    have HBA := Aside0.mk (And.intro hba (And.intro hbb hx0))
    clear hba hbb hx0 hw0
    refine (HP.out _).mono ?_
    rintro e w1 ⟨rfl, hd⟩
    have H1 := Aside0.mk hd.below
    clear hd
    go_wp2_with fail
    go_ret2
    exact ⟨by simp, below_step HBA.out.1 H1.out⟩
  · go_enter Tryd.func11, Tryd.ntmps11
    go_wp2_with (first
      | (go_at_call 24; refine Aside0.out ?_)
      | fail)
    refine Aside0.mk ?_
    have hba := below_alloc (Below.refl w.heap.size w) (.cells #[.int .i64 a, .int .i64 b, .int .i64 c, .int .i64 d] 22)
    have hbb := blk_new w (.cells #[.int .i64 a, .int .i64 b, .int .i64 c, .int .i64 d] 22)
    obtain ⟨w0, hw0⟩ : ∃ w0, w0 = w.alloc (.cells #[.int .i64 a, .int .i64 b, .int .i64 c, .int .i64 d] 22) := ⟨_, rfl⟩
    obtain ⟨x0, hx0⟩ : ∃ x0, x0 = w.heap.size := ⟨_, rfl⟩
    rw [← hw0] at hba hbb
    rw [← hx0] at hbb
    rw [← hw0, ← hx0]
    have HBA := Aside0.mk (And.intro hba (And.intro hbb hx0))
    clear hba hbb hx0 hw0
    refine (HP.out _).mono ?_
    rintro e w1 ⟨rfl, hd⟩
    have H1 := Aside0.mk hd.below
    clear hd
    go_wp2_with (first
      | (go_at_call 24; refine Aside0.out ?_)
      | fail)
    refine Aside0.mk ?_
    refine (HS.out _).mono ?_
    rintro e w2 ⟨rfl, hd⟩
    have H2 := Aside0.mk (below_step H1.out hd.below)
    clear hd
    go_wp2_with fail
    go_ret2
    exact ⟨by simp, below_step HBA.out.1 H2.out⟩
  · go_enter Tryd.func11, Tryd.ntmps11
    go_wp2_with (first
      | (go_at_call 24; refine Aside0.out ?_)
      | fail)
    refine Aside0.mk ?_
    have hba := below_alloc (Below.refl w.heap.size w) (.cells #[.int .i64 a, .int .i64 b, .int .i64 c, .int .i64 d] 22)
    have hbb := blk_new w (.cells #[.int .i64 a, .int .i64 b, .int .i64 c, .int .i64 d] 22)
    obtain ⟨w0, hw0⟩ : ∃ w0, w0 = w.alloc (.cells #[.int .i64 a, .int .i64 b, .int .i64 c, .int .i64 d] 22) := ⟨_, rfl⟩
    obtain ⟨x0, hx0⟩ : ∃ x0, x0 = w.heap.size := ⟨_, rfl⟩
    rw [← hw0] at hba hbb
    rw [← hx0] at hbb
    rw [← hw0, ← hx0]
    have HBA := Aside0.mk (And.intro hba (And.intro hbb hx0))
    clear hba hbb hx0 hw0
    refine (HP.out _).mono ?_
    rintro e w1 ⟨rfl, hd⟩
    have H1 := Aside0.mk hd.below
    clear hd
    go_wp2_with (first
      | (go_at_call 24; refine Aside0.out ?_)
      | fail)
    refine Aside0.mk ?_
    refine (HS.out _).mono ?_
    rintro e w2 ⟨rfl, hd⟩
    have H2 := Aside0.mk (below_step H1.out hd.below)
    clear hd
    go_wp2_with (first
      | (go_at_call 24; refine Aside0.out ?_)
      | fail)
    refine Aside0.mk ?_
    refine (HM.out _).mono ?_
    rintro e w3 ⟨rfl, hd⟩
    have H3 := Aside0.mk (below_step H2.out hd.below)
    clear hd
    go_wp2_with fail
    go_ret2
    exact ⟨by simp, below_step HBA.out.1 H3.out⟩
  · go_enter Tryd.func11, Tryd.ntmps11
    go_wp2_with (first
      | (go_at_call 24; refine Aside0.out ?_)
      | fail)
    refine Aside0.mk ?_
    have hba := below_alloc (Below.refl w.heap.size w) (.cells #[.int .i64 a, .int .i64 b, .int .i64 c, .int .i64 d] 22)
    have hbb := blk_new w (.cells #[.int .i64 a, .int .i64 b, .int .i64 c, .int .i64 d] 22)
    obtain ⟨w0, hw0⟩ : ∃ w0, w0 = w.alloc (.cells #[.int .i64 a, .int .i64 b, .int .i64 c, .int .i64 d] 22) := ⟨_, rfl⟩
    obtain ⟨x0, hx0⟩ : ∃ x0, x0 = w.heap.size := ⟨_, rfl⟩
    rw [← hw0] at hba hbb
    rw [← hx0] at hbb
    rw [← hw0, ← hx0]
    have HBA := Aside0.mk (And.intro hba (And.intro hbb hx0))
    clear hba hbb hx0 hw0
    refine (HP.out _).mono ?_
    rintro e w1 ⟨rfl, hd⟩
    have H1 := Aside0.mk hd.below
    clear hd
    go_wp2_with (first
      | (go_at_call 24; refine Aside0.out ?_)
      | fail)
    refine Aside0.mk ?_
    refine (HS.out _).mono ?_
    rintro e w2 ⟨rfl, hd⟩
    have H2 := Aside0.mk (below_step H1.out hd.below)
    clear hd
    go_wp2_with (first
      | (go_at_call 24; refine Aside0.out ?_)
      | fail)
    refine Aside0.mk ?_
    refine (HM.out _).mono ?_
    rintro e w3 ⟨rfl, hd⟩
    have H3 := Aside0.mk (below_step H2.out hd.below)
    clear hd
    go_wp2_with (first
      | (go_at_call 25; refine Aside0.out ?_)
      | fail)
    refine Aside0.mk ?_
    have hb3 := (H3.out.block x0 (blk_lt HBA.out.2.1)).trans HBA.out.2.1
    refine (HC.out _ _ (C_of_blk hb3 rfl ⟨rfl, by simp⟩)).mono ?_
    rintro e w4 ⟨rfl, hd⟩
    have H4 := Aside0.mk (below_step H3.out hd)
    clear hd hb3
    go_wp2_with fail
    go_ret2
    exact ⟨by simp, below_step HBA.out.1 H4.out⟩
end Go.Proofs.YtijpnlmejphfhaaDoor.P

-- YtijpnlmejphfhaaDoorPSPlain
namespace Go.Proofs.YtijpnlmejphfhaaDoor.P
open Go Go.Proofs Go.RowKit Go.Proofs.YtijpnlmejphfhaaDoorW.PrintWords Go.Proofs.YtijpnlmejphfhaaDoorW.PrintLast Go.Proofs.YtijpnlmejphfhaaDoorW.PrintMore
set_option linter.unusedVariables false
set_option linter.unusedSimpArgs false

/-- An edge's weight. -/
def en (W : Nat → Int) (s i t : Nat) : Nat := (ew W s i t).toNat
def sA (u : Nat) : Nat := 2 * (u % 32)
def sB (u : Nat) : Nat := 2 * (u % 32) + 1
/-- The ways that come to state u at a step, of weight x. -/
def inn (W : Nat → Int) (t : Nat) (P : Nat → Nat → Nat) (u x : Nat) : Nat :=
  (if en W (sA u) (u / 32) t ≤ x then P (sA u) (x - en W (sA u) (u / 32) t) else 0) + (if en W (sB u) (u / 32) t ≤ x then P (sB u) (x - en W (sB u) (u / 32) t) else 0)
def cntP (W : Nat → Int) (p : Nat) : Nat → Nat → Nat → Nat
  | 0, u, x => if u = 32 ∧ x = en W 0 1 p then 1 else 0
  | k + 1, u, x => if u = 0 then 0 else inn W (p + (k + 1)) (cntP W p k) u x
def fndP (W : Nat → Int) (p : Nat) : Nat → Nat → Nat
  | 0, _ => 0
  | k + 1, x => fndP W p k x + inn W (p + (k + 1)) (cntP W p k) 0 x
theorem acc_in (W : Nat → Int) (N t : Nat) (rows : Nat → List Int) (u : Nat) (hu : u < 64) : ∀ m, m ≤ 128 → acc W N t rows m u =
    if m ≤ 2 * sA u + u / 32 then zeros N else if m ≤ 2 * sB u + u / 32 then addI (zeros N) (rows (sA u)) (en W (sA u) (u / 32) t) N
    else addI (addI (zeros N) (rows (sA u)) (en W (sA u) (u / 32) t) N) (rows (sB u)) (en W (sB u) (u / 32) t) N
  | 0, _ => by rw [if_pos (by omega)]; rfl
  | m + 1, hm => by
    rw [acc_succ, acc_in W N t rows u hu m (by omega)]
    unfold dst
    by_cases hA : m = 2 * sA u + u / 32
    · have e1 : m / 2 = sA u := by omega
      have e2 : m % 2 = u / 32 := by omega
      have e3 : 32 * (u / 32) + sA u / 2 = u := by unfold sA; omega
      rw [e1, e2, if_pos e3.symm, if_pos (by omega), if_neg (by omega), if_pos (by unfold sA at hA; unfold sB; omega)]; rfl
    · by_cases hB : m = 2 * sB u + u / 32
      · have e1 : m / 2 = sB u := by omega
        have e2 : m % 2 = u / 32 := by omega
        have e3 : 32 * (u / 32) + sB u / 2 = u := by unfold sB; omega
        rw [e1, e2, if_pos e3.symm, if_neg (by unfold sB at hB; unfold sA; omega), if_pos (by omega), if_neg (by unfold sB at hB; unfold sA; omega), if_neg (by omega)]; rfl
      · have hne : ¬ u = 32 * (m % 2) + m / 2 / 2 := by
          intro e
          have q1 : u / 32 = m % 2 := by omega
          have q2 : u % 32 = m / 2 / 2 := by omega
          unfold sA at hA
          unfold sB at hB
          rw [q1, q2] at hA hB
          omega
        rw [if_neg hne]
        have hAB : 2 * sA u + u / 32 < 2 * sB u + u / 32 := by unfold sA sB; omega
        generalize 2 * sA u + u / 32 = α at *
        generalize 2 * sB u + u / 32 = β at *
        by_cases c1 : m ≤ α
        · rw [if_pos c1, if_pos (c := m + 1 ≤ α) (by omega)]
        · rw [if_neg c1, if_neg (c := m + 1 ≤ α) (by omega)]
          by_cases c2 : m ≤ β
          · rw [if_pos c2, if_pos (c := m + 1 ≤ β) (by omega)]
          · rw [if_neg c2, if_neg (c := m + 1 ≤ β) (by omega)]
theorem acc_all (W : Nat → Int) (N t : Nat) (rows : Nat → List Int) (u : Nat) (hu : u < 64) : acc W N t rows 128 u =
    addI (addI (zeros N) (rows (sA u)) (en W (sA u) (u / 32) t) N) (rows (sB u)) (en W (sB u) (u / 32) t) N := by
  rw [acc_in W N t rows u hu 128 (by omega), if_neg (by unfold sA; omega), if_neg (by unfold sB; omega)]
theorem zeros_get (N x : Nat) : (zeros N).getD x 0 = 0 := by
  unfold zeros
  rw [List.getD_eq_getElem?_getD, List.getElem?_replicate]
  split <;> rfl
theorem wrap_small {n : Int} (h : 0 ≤ n) (h2 : n ≤ 4611686018427387904) : wrap64 n = n := by unfold wrap64; omega
/-- What comes to a state. -/
theorem acc_get (W : Nat → Int) (N t : Nat) (rows : Nat → List Int) (P : Nat → Nat → Nat) (B : Nat) (hB : B ≤ 1152921504606846976) (hl : ∀ s, s < 64 → (rows s).length = N)
    (h : ∀ s x, s < 64 → x < N → (rows s).getD x 0 = (P s x : Int)) (hP : ∀ s x, P s x ≤ B) (u : Nat) (hu : u < 64) (x : Nat) (hx : x < N) :
    (acc W N t rows 128 u).getD x 0 = ((inn W t P u x : Nat) : Int) := by
  have hA : sA u < 64 := by unfold sA; omega
  have hBs : sB u < 64 := by unfold sB; omega
  rw [acc_all W N t rows u hu, addI_get _ _ _ _ _ (by rw [addI_length]; unfold zeros; rw [List.length_replicate]; exact hx), addI_get _ _ _ _ _ (by unfold zeros; rw [List.length_replicate]; exact hx), zeros_get]
  unfold inn
  have e1 : (if en W (sA u) (u / 32) t ≤ x ∧ x < en W (sA u) (u / 32) t + N then wrap64 (0 + (rows (sA u)).getD (x - en W (sA u) (u / 32) t) 0) else (0 : Int)) = ((if en W (sA u) (u / 32) t ≤ x then P (sA u) (x - en W (sA u) (u / 32) t) else 0 : Nat) : Int) := by
    by_cases c : en W (sA u) (u / 32) t ≤ x
    · rw [if_pos ⟨c, by omega⟩, if_pos c, h _ _ hA (by omega), Int.zero_add]
      have := hP (sA u) (x - en W (sA u) (u / 32) t)
      exact wrap_small (by omega) (by omega)
    · rw [if_neg (by omega), if_neg c]; rfl
  rw [e1]
  by_cases c : en W (sB u) (u / 32) t ≤ x
  · rw [if_pos ⟨c, by omega⟩, if_pos c, h _ _ hBs (by omega)]
    have := hP (sB u) (x - en W (sB u) (u / 32) t)
    have := hP (sA u) (x - en W (sA u) (u / 32) t)
    rw [Int.natCast_add]
    apply wrap_small
    · split <;> omega
    · split <;> omega
  · rw [if_neg (by omega), if_neg c]; simp
theorem inn_le {W : Nat → Int} {t : Nat} {P : Nat → Nat → Nat} {B : Nat} (hP : ∀ s x, P s x ≤ B) (u x : Nat) : inn W t P u x ≤ 2 * B := by
  unfold inn
  have h1 := hP (sA u) (x - en W (sA u) (u / 32) t)
  have h2 := hP (sB u) (x - en W (sB u) (u / 32) t)
  split <;> split <;> omega
theorem cntP_le (W : Nat → Int) (p : Nat) : ∀ k u x, cntP W p k u x ≤ 2 ^ k
  | 0, u, x => by unfold cntP; split <;> simp
  | k + 1, u, x => by
    unfold cntP
    split
    · exact Nat.zero_le _
    · rw [Nat.pow_succ, Nat.mul_comm]; exact inn_le (cntP_le W p k) u x
theorem fndP_le (W : Nat → Int) (p : Nat) : ∀ k x, fndP W p k x ≤ 2 ^ (k + 1)
  | 0, x => by unfold fndP; simp
  | k + 1, x => by
    unfold fndP
    have h1 := fndP_le W p k x
    have h2 := inn_le (W := W) (t := p + (k + 1)) (cntP_le W p k) 0 x
    have e : 2 ^ (k + 1 + 1) = 2 * 2 ^ (k + 1) := by rw [Nat.pow_succ, Nat.mul_comm]
    have e2 : 2 ^ (k + 1) = 2 * 2 ^ k := by rw [Nat.pow_succ, Nat.mul_comm]
    omega
theorem two_le {k : Nat} (h : k ≤ 30) : 2 ^ k ≤ 1073741824 := Nat.pow_le_pow_right (by decide) h
theorem itR_get (W : Nat → Int) (N p : Nat) : ∀ k, k ≤ 29 → (∀ u, u < 64 → ((itR W N p k).1 u).length = N ∧ ∀ x, x < N → ((itR W N p k).1 u).getD x 0 = (cntP W p k u x : Int)) ∧ (itR W N p k).2.length = N ∧ ∀ x, x < N → (itR W N p k).2.getD x 0 = (fndP W p k x : Int)
  | 0, _ => by
    refine ⟨fun u hu => ⟨?_, fun x hx => ?_⟩, List.length_replicate, fun x hx => zeros_get N x⟩
    · show (beginRows W N p u).length = N
      unfold beginRows
      split
      · rw [addI_length]; exact List.length_replicate
      · exact List.length_replicate
    · show (beginRows W N p u).getD x 0 = ((cntP W p 0 u x : Nat) : Int)
      unfold beginRows cntP
      by_cases c : u = 32
      · rw [if_pos c, addI_get _ _ _ _ _ (by unfold zeros; rw [List.length_replicate]; exact hx), zeros_get]
        have hone : ∀ j, (one N).getD j 0 = if j = 0 ∧ 0 < N then 1 else 0 := by
          intro j
          unfold one zeros
          rw [List.getD_eq_getElem?_getD, List.getElem?_set]
          by_cases cj : 0 = j
          · subst cj
            rw [if_pos rfl, List.length_replicate]
            by_cases cn : 0 < N
            · rw [if_pos cn, if_pos ⟨rfl, cn⟩]; rfl
            · rw [if_neg cn, if_neg (by omega)]; rfl
          · rw [if_neg cj, if_neg (by omega), List.getElem?_replicate]
            split <;> rfl
        rw [hone]
        show (if en W 0 1 p ≤ x ∧ x < en W 0 1 p + N then wrap64 (0 + if x - en W 0 1 p = 0 ∧ 0 < N then (1 : Int) else 0) else 0) = _
        by_cases cx : x = en W 0 1 p
        · rw [if_pos ⟨by omega, by omega⟩, if_pos ⟨by omega, by omega⟩, if_pos ⟨c, cx⟩]
          exact wrap_small (by decide) (by decide)
        · rw [if_neg (c := u = 32 ∧ x = en W 0 1 p) (fun h => cx h.2)]
          by_cases cy : en W 0 1 p ≤ x ∧ x < en W 0 1 p + N
          · rw [if_pos cy, if_neg (by omega)]
            exact wrap_small (by decide) (by decide)
          · rw [if_neg cy]; rfl
      · rw [if_neg c, if_neg (fun h => c h.1), zeros_get]; rfl
  | k + 1, hk => by
    obtain ⟨hr, hfl, hf⟩ := itR_get W N p k (by omega)
    have hpow := two_le (k := k) (by omega)
    have hacc := acc_get W N (p + (k + 1)) (itR W N p k).1 (cntP W p k) (2 ^ k) (by omega) (fun s hs => (hr s hs).1) (fun s x hs hx => (hr s hs).2 x hx) (cntP_le W p k)
    refine ⟨fun u hu => ⟨?_, fun x hx => ?_⟩, ?_, fun x hx => ?_⟩
    · show (stepRows W N (p + (k + 1)) (itR W N p k).1 u).length = N
      unfold stepRows
      split
      · exact List.length_replicate
      · exact acc_length ..
    · show (stepRows W N (p + (k + 1)) (itR W N p k).1 u).getD x 0 = ((cntP W p (k + 1) u x : Nat) : Int)
      unfold stepRows cntP
      by_cases c : u = 0
      · rw [if_pos c, if_pos c, zeros_get]; rfl
      · rw [if_neg c, if_neg c]; exact hacc u hu x hx
    · show (stepFound W N (p + (k + 1)) (itR W N p k).1 (itR W N p k).2).length = N
      unfold stepFound
      rw [addI_length, hfl]
    · show (stepFound W N (p + (k + 1)) (itR W N p k).1 (itR W N p k).2).getD x 0 = ((fndP W p (k + 1) x : Nat) : Int)
      unfold stepFound fndP
      rw [addI_get _ _ _ _ _ (by rw [hfl]; exact hx), if_pos ⟨Nat.zero_le _, by omega⟩, Nat.sub_zero, hf x hx, hacc 0 (by decide) x hx, Int.natCast_add]
      have h1 := fndP_le W p k x
      have h2 := inn_le (W := W) (t := p + (k + 1)) (cntP_le W p k) 0 x
      have e2 : 2 ^ (k + 1) = 2 * 2 ^ k := by rw [Nat.pow_succ, Nat.mul_comm]
      exact wrap_small (by omega) (by omega)
/-- The counts, place by place. -/
theorem countL_get (a b c d : Int) (p s m x : Nat) (hs : s ≤ 30) (hx : x ≤ m) : (countL a b c d p s m).getD x 0 = (fndP (wOf a b c d) p (s - 1) x : Int) :=
  (itR_get (wOf a b c d) (m + 1) p (s - 1) (by omega)).2.2 x (by omega)
theorem countL_length (a b c d : Int) (p s m : Nat) (hs : s ≤ 30) : (countL a b c d p s m).length = m + 1 :=
  (itR_get (wOf a b c d) (m + 1) p (s - 1) (by omega)).2.1
theorem countL_eq (a b c d : Int) (p s m : Nat) (hs : s ≤ 30) : countL a b c d p s m = (List.range (m + 1)).map fun x => (fndP (wOf a b c d) p (s - 1) x : Int) := by
  apply List.ext_getElem
  · rw [countL_length _ _ _ _ _ _ _ hs, List.length_map, List.length_range]
  · intro x h1 h2
    have hx : x ≤ m := by rw [countL_length _ _ _ _ _ _ _ hs] at h1; omega
    have h := countL_get a b c d p s m x hs hx
    rw [List.getD_eq_getElem?_getD, List.getElem?_eq_getElem h1] at h
    rw [List.getElem_map, List.getElem_range]
    exact h
/-- The chapter's own count: one detour of seven steps, that weighs twenty. -/
theorem counts_are : firstN (countL 1 1 1 1 0 7 30) = 20 ∧ firstK (countL 1 1 1 1 0 7 30) = 1 := by
  rw [countL_eq 1 1 1 1 0 7 30 (by decide)]
  decide +kernel
end Go.Proofs.YtijpnlmejphfhaaDoor.P

-- YtijpnlmejphfhaaDoorP32
namespace Go.Proofs.YtijpnlmejphfhaaDoor.P
open Go.RowKit Go.Proofs.YtijpnlmejphfhaaDoorW.PrintWords Go.Proofs.YtijpnlmejphfhaaDoorW.PrintLast Go.Proofs.YtijpnlmejphfhaaDoorW.PrintMore
attribute [local go_sem] max2_int min2_int max_two min_two max_three min_three max_four min_four   -- for this text's walks alone
set_option linter.unusedVariables false
set_option linter.unusedSimpArgs false

/-! ### shuttleref10_Stream: function 42 -/
def shuttleref10_Stream.f (a0 : Int) (a1 : Int) : Option (Int) := some (Int.tmod (wrap64 (a0 + (Int.tmod a1 4))) 4)
set_option maxHeartbeats 8000000 in
set_option maxRecDepth 100000 in
theorem shuttleref10_Stream.calls (a0 : Int) (a1 : Int) (r : Int) (w : World) (h : shuttleref10_Stream.f a0 a1 = some r) :
    Calls Tryd.prog 42 #[.int .i64 a0, .int .i64 a1] w fun e w' => e = .returned (.int .i64 r) ∧ Drawn0 w w' := by
  have H : (some (Int.tmod (wrap64 (a0 + (Int.tmod a1 4))) 4)) = some r := h
  clear h
  obtain rfl := Option.some.inj H
  go_enter Tryd.func42, Tryd.ntmps42
  go_wp2
  go_ret
  exact ⟨by first | rfl | (simp; done) | (simp [*]; done), by repeat (first | exact Drawn0.refl _ | apply Drawn0.step)⟩

end Go.Proofs.YtijpnlmejphfhaaDoor.P

-- YtijpnlmejphfhaaDoorP33
namespace Go.Proofs.YtijpnlmejphfhaaDoor.P
open Go.RowKit Go.Proofs.YtijpnlmejphfhaaDoorW.PrintWords Go.Proofs.YtijpnlmejphfhaaDoorW.PrintLast Go.Proofs.YtijpnlmejphfhaaDoorW.PrintMore
attribute [local go_sem] max2_int min2_int max_two min_two max_three min_three max_four min_four   -- for this text's walks alone
set_option linter.unusedVariables false
set_option linter.unusedSimpArgs false

/-! ### shuttleref10_Version: function 30 -/
def shuttleref10_Version.l0 : Nat → Int → Int → Int → Option (Int)
  | 0, _, _, _ => none
  | k + 1, x0, x1, x5 => if x5 < 4 then ((shuttleref10_Stream.f x5 x1).bind fun t167 => (if t167 = x0 then (some x5) else (shuttleref10_Version.l0 k x0 x1 (wrap64 (x5 + 1))))) else (some (-1))
def shuttleref10_Version.f (k : Nat) (a0 : Int) (a1 : Int) : Option (Int) := shuttleref10_Version.l0 k a0 a1 0
theorem shuttleref10_Version.mono_l : ∀ k, (∀ y0 y1 y2, LeO (shuttleref10_Version.l0 k y0 y1 y2) (shuttleref10_Version.l0 (k + 1) y0 y1 y2))
  | 0 => fun _ _ _ r h => by simp [shuttleref10_Version.l0] at h
  | k + 1 => by
    have ih0 := shuttleref10_Version.mono_l k
    · intro y0 y1 y2
      unfold shuttleref10_Version.l0
      repeat' first
      | (with_reducible exact ih0 _ _ _)
      | (with_reducible exact LeO.refl _)
      | (with_reducible exact LeO.none _)
      | (with_reducible refine LeO.ite ?_ ?_)
      | (with_reducible refine LeO.bind ?_ (fun _ => ?_))
      | exact ih0 _ _ _
      | exact LeO.none _
      | refine LeO.ite ?_ ?_
      | refine LeO.bind ?_ (fun _ => ?_)
theorem shuttleref10_Version.mono : ∀ a0 a1 k, LeO (shuttleref10_Version.f k a0 a1) (shuttleref10_Version.f (k + 1) a0 a1) := by
  intro a0 a1 k
  have ih0 := shuttleref10_Version.mono_l k
  unfold shuttleref10_Version.f
  repeat' first
      | (with_reducible exact ih0 _ _ _)
      | (with_reducible exact LeO.refl _)
      | (with_reducible exact LeO.none _)
      | (with_reducible refine LeO.ite ?_ ?_)
      | (with_reducible refine LeO.bind ?_ (fun _ => ?_))
      | exact ih0 _ _ _
      | exact LeO.none _
      | refine LeO.ite ?_ ?_
      | refine LeO.bind ?_ (fun _ => ?_)
set_option maxHeartbeats 8000000 in
set_option maxRecDepth 100000 in
theorem shuttleref10_Version.calls (k : Nat) (a0 : Int) (a1 : Int) (r : Int) (w : World) (h : shuttleref10_Version.f k a0 a1 = some r) :
    Calls Tryd.prog 30 #[.int .i64 a0, .int .i64 a1] w fun e w' => e = .returned (.int .i64 r) ∧ Drawn0 w w' := by
  have H : (shuttleref10_Version.l0 k a0 a1 0) = some r := h
  clear h
  have H' := Aside0.mk H
  clear H
  go_enter Tryd.func30, Tryd.ntmps30
  go_wp2
  go_loopg [5] k (fun kq v5 w' => ∃ (x5_1 : Int), v5 = .int .i64 x5_1 ∧ Aside0 (shuttleref10_Version.l0 kq a0 a1 x5_1 = some r) ∧ Aside0 (kq ≤ k) ∧ Drawn0 w w')
  case atStart => exact ⟨(0), (by first | rfl | (simp; done) | (simp [*]; done)), H', ⟨Nat.le_refl _⟩, by repeat (first | exact Drawn0.refl _ | apply Drawn0.step)⟩
  case round =>
    clear H'
    try clear p2
    obtain ⟨x5_1, rfl, HA, HK1, ⟨m1, rfl⟩⟩ := hrel
    cases gk with
    | zero => exact absurd HA.out (by simp [shuttleref10_Version.l0])
    | succ k1 =>
      have H := HA.out
      clear HA
      simp only [shuttleref10_Version.l0] at H
      by_cases c3 : x5_1 < 4
      · rw [if_pos c3] at H
        have c3b0 : decide (x5_1 < 4) = true := decide_eq_true c3
        clear c3
        replace H := Option.bind_eq_some_iff.mp H
        obtain ⟨t167, A40, H⟩ := H
        replace H : (if t167 = a0 then (some x5_1) else (shuttleref10_Version.l0 k1 a0 a1 (wrap64 (x5_1 + 1)))) = some r := H
        have A4 := Aside0.mk A40
        clear A40
        by_cases c5 : t167 = a0
        · rw [if_pos c5] at H
          have c5b0 : (t167 == a0) = true := beq_iff_eq.mpr c5
          have c5b1 : (t167 != a0) = false := bne_eq_false_iff_eq.mpr c5
          clear c5
          obtain rfl := Option.some.inj H
          go_wp2_with (first | ((with_reducible refine gate_callee (f := 42) rfl ?_); refine goesL_ (some 12) rfl rfl Tryd.func42 (by kernel_rfl) rfl #[.int .i64 x5_1, .int .i64 a1] rfl (by (try simp only [List.map_toArray, List.map_cons, List.map_nil]); first | done | rfl | (simp only [List.length_drop, List.length_take]; rfl)) ?_; (with_reducible refine (shuttleref10_Stream.calls x5_1 a1 t167 _ A4.out).mono ?_); rintro e w' ⟨rfl, ⟨nd, rfl⟩⟩; refine ⟨_, rfl, ?_⟩))
          go_ret
          exact ⟨by first | rfl | (simp; done) | (simp [*]; done), by repeat (first | exact Drawn0.refl _ | apply Drawn0.step)⟩
        · rw [if_neg c5] at H
          have c5b0 : (t167 == a0) = false := beq_eq_false_iff_ne.mpr c5
          have c5b1 : (t167 != a0) = true := bne_iff_ne.mpr c5
          have H' := Aside0.mk H
          clear H
          go_wp2_with (first | ((with_reducible refine gate_callee (f := 42) rfl ?_); refine goesL_ (some 12) rfl rfl Tryd.func42 (by kernel_rfl) rfl #[.int .i64 x5_1, .int .i64 a1] rfl (by (try simp only [List.map_toArray, List.map_cons, List.map_nil]); first | done | rfl | (simp only [List.length_drop, List.length_take]; rfl)) ?_; (with_reducible refine (shuttleref10_Stream.calls x5_1 a1 t167 _ A4.out).mono ?_); rintro e w' ⟨rfl, ⟨nd, rfl⟩⟩; refine ⟨_, rfl, ?_⟩))
          go_roundg k1
          case measure => have := HK1.out; omega
          case rel => exact ⟨(wrap64 (x5_1 + 1)), (by first | rfl | (simp; done) | (simp [*]; done)), H', ⟨by have := HK1.out; omega⟩, by repeat (first | exact Drawn0.refl _ | apply Drawn0.step)⟩
      · rw [if_neg c3] at H
        have c3b0 : decide (x5_1 < 4) = false := decide_eq_false c3
        clear c3
        obtain rfl := Option.some.inj H
        go_wp2
        go_ret
        exact ⟨by first | rfl | (simp; done) | (simp [*]; done), by repeat (first | exact Drawn0.refl _ | apply Drawn0.step)⟩

end Go.Proofs.YtijpnlmejphfhaaDoor.P

-- YtijpnlmejphfhaaDoorPSRef0
namespace Go.Proofs.YtijpnlmejphfhaaDoor.P
open Go Go.Proofs Go.RowKit Go.Proofs.YtijpnlmejphfhaaDoorW.PrintWords Go.Proofs.YtijpnlmejphfhaaDoorW.PrintLast Go.Proofs.YtijpnlmejphfhaaDoorW.PrintMore
set_option linter.unusedVariables false
set_option linter.unusedSimpArgs false

theorem upz_ {α : Type} {F : Nat → Option α} (hm : ∀ k, LeO (F k) (F (k + 1))) {k k' : Nat} {r : α} (h : F k = some r) (hk : k ≤ k') : F k' = some r := by
  obtain ⟨d, rfl⟩ : ∃ d, k' = k + d := ⟨k' - k, by omega⟩
  clear hk
  induction d with
  | zero => exact h
  | succ d ih => exact hm (k + d) r ih
def version4z (s t : Nat) : Bool := decide (shuttleref10_Version.f 9 (s : Int) (t : Int) = some ((ver s t : Nat) : Int))
theorem version_allz : (List.range 4).all (fun s => (List.range 40).all fun t => version4z s t) = true := by decide +kernel
theorem rversionz_f (s t : Nat) (hs : s < 4) (ht : t < 40) (k : Nat) (hk : 9 ≤ k) : shuttleref10_Version.f k (s : Int) (t : Int) = some ((ver s t : Nat) : Int) := by
  have h1 := List.all_eq_true.1 version_allz s (List.mem_range.2 hs)
  have h2 := of_decide_eq_true (List.all_eq_true.1 h1 t (List.mem_range.2 ht))
  exact upz_ (F := fun k => shuttleref10_Version.f k (s : Int) (t : Int)) (fun k => shuttleref10_Version.mono _ _ k) h2 hk
theorem bwz_ {x y z : Int} (hx : x = 0 ∨ x = 1) (hy : 0 ≤ y ∧ y ≤ 7) (hz : 0 ≤ z + x * y ∧ z + x * y ≤ 1000) : wrap64 (z + wrap64 (wrap64 x * y)) = z + x * y := by
  have e2 : wrap64 x = x := by rcases hx with e | e <;> rw [e] <;> exact wrap_small (by decide) (by decide)
  have e3 : wrap64 (x * y) = x * y := by rcases hx with e | e <;> rw [e] <;> exact wrap_small (by omega) (by omega)
  rw [e2, e3]; exact wrap_small hz.1 (by omega)
end Go.Proofs.YtijpnlmejphfhaaDoor.P

-- YtijpnlmejphfhaaDoorP36
namespace Go.Proofs.YtijpnlmejphfhaaDoor.P
open Go.RowKit Go.Proofs.YtijpnlmejphfhaaDoorW.PrintWords Go.Proofs.YtijpnlmejphfhaaDoorW.PrintLast Go.Proofs.YtijpnlmejphfhaaDoorW.PrintMore
attribute [local go_sem] max2_int min2_int max_two min_two max_three min_three max_four min_four   -- for this text's walks alone
set_option linter.unusedVariables false
set_option linter.unusedSimpArgs false

/-! ### shuttleref06_List: function 43 -/
def shuttleref06_List.l0 : Nat → Int → Int → List Int → Int → Option (List Int)
  | 0, _, _, _, _ => none
  | k + 1, x0, x1, x5, x6 => if x6 < 6 then (if 0 ≤ x6 then (if x5.length < 140737488355328 then (shuttleref06_List.l0 k x0 x1 (x5 ++ [(Go.bits .and .i64 (shr .i64 x0 x6) 1) % 256]) (wrap64 (x6 + 1))) else (none)) else (none)) else (if x5.length < 140737488355328 then (some (x5 ++ [x1])) else (none))
def shuttleref06_List.f (k : Nat) (a0 : Int) (a1 : Int) : Option (List Int) := shuttleref06_List.l0 k a0 a1 ([] : List Int) 0
theorem shuttleref06_List.mono_l : ∀ k, (∀ y0 y1 y2 y3, LeO (shuttleref06_List.l0 k y0 y1 y2 y3) (shuttleref06_List.l0 (k + 1) y0 y1 y2 y3))
  | 0 => fun _ _ _ _ r h => by simp [shuttleref06_List.l0] at h
  | k + 1 => by
    have ih0 := shuttleref06_List.mono_l k
    · intro y0 y1 y2 y3
      unfold shuttleref06_List.l0
      repeat' first
      | (with_reducible exact ih0 _ _ _ _)
      | (with_reducible exact LeO.refl _)
      | (with_reducible exact LeO.none _)
      | (with_reducible refine LeO.ite ?_ ?_)
      | (with_reducible refine LeO.bind ?_ (fun _ => ?_))
      | exact ih0 _ _ _ _
      | exact LeO.none _
      | refine LeO.ite ?_ ?_
      | refine LeO.bind ?_ (fun _ => ?_)
theorem shuttleref06_List.mono : ∀ a0 a1 k, LeO (shuttleref06_List.f k a0 a1) (shuttleref06_List.f (k + 1) a0 a1) := by
  intro a0 a1 k
  have ih0 := shuttleref06_List.mono_l k
  unfold shuttleref06_List.f
  repeat' first
      | (with_reducible exact ih0 _ _ _ _)
      | (with_reducible exact LeO.refl _)
      | (with_reducible exact LeO.none _)
      | (with_reducible refine LeO.ite ?_ ?_)
      | (with_reducible refine LeO.bind ?_ (fun _ => ?_))
      | exact ih0 _ _ _ _
      | exact LeO.none _
      | refine LeO.ite ?_ ?_
      | refine LeO.bind ?_ (fun _ => ?_)
set_option maxHeartbeats 8000000 in
set_option maxRecDepth 100000 in
theorem shuttleref06_List.calls (k : Nat) (a0 : Int) (a1 : Int) (r : List Int) (w : World) (h : shuttleref06_List.f k a0 a1 = some r) :
    Calls Tryd.prog 43 #[.int .i64 a0, .int .u8 a1] w fun e w' => ∃ v0_ : Value, e = .returned (v0_) ∧ Kd.R (Kd.int .u8) 5 w' w.heap.size (fun _ => True) v0_ r ∧ Below w.heap.size w w' := by
  have HB := Aside0.mk (Below.refl w.heap.size w)
  have H : (shuttleref06_List.l0 k a0 a1 ([] : List Int) 0) = some r := h
  clear h
  have H' := Aside0.mk H
  clear H
  go_enter Tryd.func43, Tryd.ntmps43
  go_wp2
  go_loopg [5, 6] k (fun kq v5 v6 w' => ∃ (x5_1 : List Int) (x6_1 : Int), v6 = .int .i64 x6_1 ∧ Aside0 (shuttleref06_List.l0 kq a0 a1 x5_1 x6_1 = some r) ∧ Aside0 (kq ≤ k) ∧ Aside0 (Kd.R (Kd.int .u8) 5 w' w.heap.size (fun _ => True) v5 x5_1) ∧ Aside0 (Below w.heap.size w w'))
  case atStart => exact ⟨(([] : List Int)), (0), (by first | rfl | (simp; done) | (simp [*]; done)), H', ⟨Nat.le_refl _⟩, ⟨by first | exact Kd.R_nil _ _ _ _ _ | exact Kd.N_nil _ _ _ _ _ | exact Kd.V_nil _ _ _ _ _ | exact Kd.Q_nil _ _ _ _ _ | exact Kd.S_nil _ _ _ _ _⟩, ⟨by repeat (first | (with_reducible first | exact HB.out | apply below_alloc | apply pw_below_drewN | apply below_drew1) | exact HB.out)⟩⟩
  case round =>
    clear H'
    try clear p2
    obtain ⟨x5_1, x6_1, rfl, HA, HK1, HO_5, HB⟩ := hrel
    cases gk with
    | zero => exact absurd HA.out (by simp [shuttleref06_List.l0])
    | succ k1 =>
      have H := HA.out
      clear HA
      simp only [shuttleref06_List.l0] at H
      by_cases c3 : x6_1 < 6
      · rw [if_pos c3] at H
        have c3b0 : decide (x6_1 < 6) = true := decide_eq_true c3
        clear c3
        by_cases c4 : 0 ≤ x6_1
        · rw [if_pos c4] at H
          have c4b0 := eq_true c4
          have c4b1 : decide (0 ≤ x6_1) = true := decide_eq_true c4
          clear c4
          obtain ⟨ji5, hji5⟩ : ∃ j_ : Int, (shr .i64 a0 x6_1) = j_ := ⟨_, rfl⟩
          replace H : (if x5_1.length < 140737488355328 then (shuttleref06_List.l0 k1 a0 a1 (x5_1 ++ [(Go.bits .and .i64 (ji5) 1) % 256]) (wrap64 (x6_1 + 1))) else (none)) = some r := by first | (rw [hji5] at H; exact H) | (simp only [hji5] at H ⊢; exact H)
          have hji5_ : (a0 / 2 ^ min x6_1.toNat 64) = ji5 := hji5
          have hji5z : x6_1 ≤ 64 → (a0 / 2 ^ x6_1.toNat) = ji5 := shr_small hji5
          by_cases c6 : x5_1.length < 140737488355328
          · rw [if_pos c6] at H
            have LMc6 := Aside0.mk c6
            clear c6
            obtain ⟨y187, hy187⟩ : ∃ y_ : List Int, y_ = (x5_1 ++ [(Go.bits .and .i64 (ji5) 1) % 256]) := ⟨_, rfl⟩
            replace H : (shuttleref06_List.l0 k1 a0 a1 y187 (wrap64 (x6_1 + 1))) = some r := by first | (rw [hy187]; with_reducible exact H) | (have H2_ := (Option.bind_some _ _).symm.trans H; rw [hy187]; with_reducible exact H2_) | (have H2_ := (Option.bind_some _ _).symm.trans H; with_reducible exact H2_) | with_reducible exact H | (rw [hy187]; exact H) | exact H
            have Ny187 := Aside0.mk hy187
            clear hy187
            have H' := Aside0.mk H
            clear H
            go_wp2_with (first | ((with_reducible refine gate_builtin (b := .append) (xs := #[.tmp 11, .tmp 17]) rfl ?_); at_builtin; refine Kd.R_append (Kd.int .u8) (w0 := w) w.heap.size rfl (.tmp 11) (.tmp 17) 39 5 (.int .u8 0) 1 rfl Tryd.underlying39 info5 rfl (by decide) (by omega) u5 x5_1 ((Go.bits .and .i64 (ji5) 1) % 256) [.int .u8 ((Go.bits .and .i64 (ji5) 1) % 256)] (fun _ => True) (fun _ => False) rfl rfl ?aP (fun _ hk => hk.elim) ?aF ?aO ?aB ?aS ?aL ?_; (case aP => exact rfl); (case aB => exact (by repeat (first | (with_reducible first | exact HB.out | apply below_alloc | apply pw_below_drewN | apply below_drew1) | exact HB.out))); (case aF => exact (fun _ _ => trivial)); (case aO => exact (by (with_reducible repeat (first | apply Kd.R_alloc | apply Kd.R_drewN | apply Kd.R_drew)); exact HO_5.out)); (case aS => exact (below_size (by repeat (first | (with_reducible first | exact HB.out | apply below_alloc | apply pw_below_drewN | apply below_drew1) | exact HB.out)))); (case aL => have := LMc6.out; omega); intro v188 w7 ho hb hg hat; rw [← Ny187.out] at ho; have n0_ := Aside0.mk (hb); have n1_ := Aside0.mk (ho); clear HB; clear HO_5; have HB := n0_; have HO189 := n1_; clear n0_ n1_; clear ho hb hg hat))
            go_roundg k1
            case measure => have := HK1.out; omega
            case rel => exact ⟨(y187), (wrap64 (x6_1 + 1)), (by first | rfl | (simp; done) | (simp [*]; done)), H', ⟨by have := HK1.out; omega⟩, ⟨by (with_reducible repeat (first | apply Kd.R_alloc | apply Kd.R_drewN | apply Kd.R_drew)); exact HO189.out⟩, ⟨by repeat (first | (with_reducible first | exact HB.out | apply below_alloc | apply pw_below_drewN | apply below_drew1) | exact HB.out)⟩⟩
          · rw [if_neg c6] at H
            exact absurd H (by simp)
        · rw [if_neg c4] at H
          exact absurd H (by simp)
      · rw [if_neg c3] at H
        have c3b0 : decide (x6_1 < 6) = false := decide_eq_false c3
        clear c3
        by_cases c8 : x5_1.length < 140737488355328
        · rw [if_pos c8] at H
          have LMc8 := Aside0.mk c8
          clear c8
          obtain ⟨y190, hy190⟩ : ∃ y_ : List Int, y_ = (x5_1 ++ [a1]) := ⟨_, rfl⟩
          replace H : (some y190) = some r := by first | (rw [hy190]; with_reducible exact H) | (have H2_ := (Option.bind_some _ _).symm.trans H; rw [hy190]; with_reducible exact H2_) | (have H2_ := (Option.bind_some _ _).symm.trans H; with_reducible exact H2_) | with_reducible exact H | (rw [hy190]; exact H) | exact H
          have Ny190 := Aside0.mk hy190
          clear hy190
          obtain rfl := Option.some.inj H
          go_wp2_with (first | ((with_reducible refine gate_builtin (b := .append) (xs := #[.tmp 19, .tmp 21]) rfl ?_); at_builtin; refine Kd.R_append (Kd.int .u8) (w0 := w) w.heap.size rfl (.tmp 19) (.tmp 21) 39 5 (.int .u8 0) 1 rfl Tryd.underlying39 info5 rfl (by decide) (by omega) u5 x5_1 a1 [.int .u8 a1] (fun _ => True) (fun _ => False) rfl rfl ?aP (fun _ hk => hk.elim) ?aF ?aO ?aB ?aS ?aL ?_; (case aP => exact rfl); (case aB => exact (by repeat (first | (with_reducible first | exact HB.out | apply below_alloc | apply pw_below_drewN | apply below_drew1) | exact HB.out))); (case aF => exact (fun _ _ => trivial)); (case aO => exact (by (with_reducible repeat (first | apply Kd.R_alloc | apply Kd.R_drewN | apply Kd.R_drew)); exact HO_5.out)); (case aS => exact (below_size (by repeat (first | (with_reducible first | exact HB.out | apply below_alloc | apply pw_below_drewN | apply below_drew1) | exact HB.out)))); (case aL => have := LMc8.out; omega); intro v191 w9 ho hb hg hat; rw [← Ny190.out] at ho; have n0_ := Aside0.mk (hb); have n1_ := Aside0.mk (ho); clear HB; clear HO_5; have HB := n0_; have HO192 := n1_; clear n0_ n1_; clear ho hb hg hat))
          go_ret
          exact ⟨_, by first | rfl | (simp [errW_none, errW_some] <;> rfl) | (simp [*, errW_none, errW_some] <;> rfl), by (with_reducible repeat (first | apply Kd.R_alloc | apply Kd.R_drewN | apply Kd.R_drew)); exact HO192.out, by repeat (first | (with_reducible first | exact HB.out | apply below_alloc | apply pw_below_drewN | apply below_drew1) | exact HB.out)⟩
        · rw [if_neg c8] at H
          exact absurd H (by simp)

end Go.Proofs.YtijpnlmejphfhaaDoor.P

-- YtijpnlmejphfhaaDoorP37
namespace Go.Proofs.YtijpnlmejphfhaaDoor.P
open Go.RowKit Go.Proofs.YtijpnlmejphfhaaDoorW.PrintWords Go.Proofs.YtijpnlmejphfhaaDoorW.PrintLast Go.Proofs.YtijpnlmejphfhaaDoorW.PrintMore
attribute [local go_sem] max2_int min2_int max_two min_two max_three min_three max_four min_four   -- for this text's walks alone
set_option linter.unusedVariables false
set_option linter.unusedSimpArgs false

/-! ### shuttleref07_Step: function 31 -/
def shuttleref07_Step.l0 : Nat → List Int → Int → Int → Int → Int → Int → Int → Int → Int → Option (Int × Int × Int × Int × Int × Int × Int)
  | 0, _, _, _, _, _, _, _, _, _ => none
  | k + 1, x6, x7, x195000, x195001, x195002, x195003, x195004, x195005, x195006 => if x7 < 4 then ((shuttleref06_Bit.f x6 6 x7).bind fun t198 => (if x7 = 0 then (shuttleref07_Step.l0 k x6 (0 + 1) x195000 x195001 x195002 t198 x195004 x195005 x195006) else (if x7 = 1 then (shuttleref07_Step.l0 k x6 (1 + 1) x195000 x195001 x195002 x195003 t198 x195005 x195006) else (if x7 = 2 then (shuttleref07_Step.l0 k x6 (2 + 1) x195000 x195001 x195002 x195003 x195004 t198 x195006) else (if x7 = 3 then (shuttleref07_Step.l0 k x6 (3 + 1) x195000 x195001 x195002 x195003 x195004 x195005 t198) else (none)))))) else (some (x195000, x195001, x195002, x195003, x195004, x195005, x195006))
def shuttleref07_Step.f (k : Nat) (a0 : Int) (a1 : Int) : Option (Int × Int × Int × Int × Int × Int × Int) := (shuttleref06_List.f k a0 a1).bind fun t195 => (shuttleref07_Step.l0 k t195 0 a0 (wrap64 ((wrap64 (Int.tdiv a0 2)) + (wrap64 (32 * (wrap64 (a1)))))) a1 0 0 0 0)
theorem shuttleref07_Step.mono_l : ∀ k, (∀ y0 y1 y2 y3 y4 y5 y6 y7 y8, LeO (shuttleref07_Step.l0 k y0 y1 y2 y3 y4 y5 y6 y7 y8) (shuttleref07_Step.l0 (k + 1) y0 y1 y2 y3 y4 y5 y6 y7 y8))
  | 0 => fun _ _ _ _ _ _ _ _ _ r h => by simp [shuttleref07_Step.l0] at h
  | k + 1 => by
    have ih0 := shuttleref07_Step.mono_l k
    · intro y0 y1 y2 y3 y4 y5 y6 y7 y8
      unfold shuttleref07_Step.l0
      repeat' first
      | (with_reducible exact ih0 _ _ _ _ _ _ _ _ _)
      | (with_reducible exact shuttleref06_List.mono _ _ _)
      | (with_reducible exact LeO.refl _)
      | (with_reducible exact LeO.none _)
      | (with_reducible refine LeO.ite ?_ ?_)
      | (with_reducible refine LeO.bind ?_ (fun _ => ?_))
      | exact ih0 _ _ _ _ _ _ _ _ _
      | exact shuttleref06_List.mono _ _ _
      | exact LeO.none _
      | refine LeO.ite ?_ ?_
      | refine LeO.bind ?_ (fun _ => ?_)
theorem shuttleref07_Step.mono : ∀ a0 a1 k, LeO (shuttleref07_Step.f k a0 a1) (shuttleref07_Step.f (k + 1) a0 a1) := by
  intro a0 a1 k
  have ih0 := shuttleref07_Step.mono_l k
  unfold shuttleref07_Step.f
  repeat' first
      | (with_reducible exact ih0 _ _ _ _ _ _ _ _ _)
      | (with_reducible exact shuttleref06_List.mono _ _ _)
      | (with_reducible exact LeO.refl _)
      | (with_reducible exact LeO.none _)
      | (with_reducible refine LeO.ite ?_ ?_)
      | (with_reducible refine LeO.bind ?_ (fun _ => ?_))
      | exact ih0 _ _ _ _ _ _ _ _ _
      | exact shuttleref06_List.mono _ _ _
      | exact LeO.none _
      | refine LeO.ite ?_ ?_
      | refine LeO.bind ?_ (fun _ => ?_)
set_option maxHeartbeats 8000000 in
set_option maxRecDepth 100000 in
theorem shuttleref07_Step.calls (k : Nat) (a0 : Int) (a1 : Int) (r1 : Int) (r2 : Int) (r3 : Int) (r4 : Int) (r5 : Int) (r6 : Int) (r7 : Int) (w : World) (h : shuttleref07_Step.f k a0 a1 = some (r1, r2, r3, r4, r5, r6, r7)) :
    Calls Tryd.prog 31 #[.int .i64 a0, .int .u8 a1] w fun e w' => e = .returned (.agg #[.int .i64 r1, .int .i64 r2, .int .u8 r3, .int .u8 r4, .int .u8 r5, .int .u8 r6, .int .u8 r7]) ∧ Below w.heap.size w w' := by
  have hu58 := Tryd.underlying58
  have HB := Aside0.mk (Below.refl w.heap.size w)
  have H : ((shuttleref06_List.f k a0 a1).bind fun t195 => (shuttleref07_Step.l0 k t195 0 a0 (wrap64 ((wrap64 (Int.tdiv a0 2)) + (wrap64 (32 * (wrap64 (a1)))))) a1 0 0 0 0)) = some (r1, r2, r3, r4, r5, r6, r7) := h
  clear h
  replace H := Option.bind_eq_some_iff.mp H
  obtain ⟨t195, A30, H⟩ := H
  replace H : (shuttleref07_Step.l0 k t195 0 a0 (wrap64 ((wrap64 (Int.tdiv a0 2)) + (wrap64 (32 * (wrap64 (a1)))))) a1 0 0 0 0) = some (r1, r2, r3, r4, r5, r6, r7) := H
  have A3 := Aside0.mk A30
  clear A30
  have H' := Aside0.mk H
  clear H
  go_enter Tryd.func31, Tryd.ntmps31
  go_wp2_with (first | ((with_reducible refine gate_dst (N := 4) rfl ?_); refine box_event ?hg (N := 4) ?hd (cs := #[.int .i64 0, .int .i64 0, .int .u8 0, .int .u8 0, .int .u8 0, .int .u8 0, .int .u8 0]) (t := 58) ?hr ?_; (case hd => rfl); (case hg => rfl); (case hr => first | (go_simp; done) | (go_simp; rfl)); intro gb193 hg w4 hbox hb; have n0_ := Aside0.mk (below_step (by repeat (first | (with_reducible first | exact HB.out | apply below_alloc | apply pw_below_drewN | apply below_drew1) | exact HB.out)) hb); have n1_ := Aside0.mk (hbox); have n2_ := Aside0.mk ((by rw [hg]; exact (below_size (by repeat (first | (with_reducible first | exact HB.out | apply below_alloc | apply pw_below_drewN | apply below_drew1) | exact HB.out))) : w.heap.size ≤ gb193)); have n3_ := Aside0.mk ((by rw [hg]; exact (below_size (by repeat (first | (with_reducible first | exact HB.out | apply below_alloc | apply pw_below_drewN | apply below_drew1) | exact HB.out))) : w.heap.size ≤ gb193)); clear HB; have HB := n0_; have BK193 := n1_; have GW193 := n2_; have GE193 := n3_; clear n0_ n1_ n2_ n3_; clear hb hbox hg) | ((with_reducible refine gate_dst (N := 5) rfl ?_); refine box_event ?hg (N := 5) ?hd (cs := #[.int .i64 0, .int .i64 0, .int .u8 0, .int .u8 0, .int .u8 0, .int .u8 0, .int .u8 0]) (t := 58) ?hr ?_; (case hd => rfl); (case hg => rfl); (case hr => first | (go_simp; done) | (go_simp; rfl)); intro gb194 hg w5 hbox hb; have n0_ := Aside0.mk (blk_below (g := gb193) (o := .cells #[.int .i64 0, .int .i64 0, .int .u8 0, .int .u8 0, .int .u8 0, .int .u8 0, .int .u8 0] 58 (0, 0)) (by (with_reducible repeat (first | refine blk_drewN ?_ _ | refine blk_drew ?_ | refine blk_alloc ?_ _)); exact BK193.out) hb); have n1_ := Aside0.mk (below_step (by repeat (first | (with_reducible first | exact HB.out | apply below_alloc | apply pw_below_drewN | apply below_drew1 | refine below_set ?_ GE193.out) | exact HB.out)) hb); have n2_ := Aside0.mk (hbox); have n3_ := Aside0.mk ((by rw [hg]; exact (below_size (by repeat (first | (with_reducible first | exact HB.out | apply below_alloc | apply pw_below_drewN | apply below_drew1 | refine below_set ?_ GE193.out) | exact HB.out))) : w.heap.size ≤ gb194)); have n4_ := Aside0.mk ((by rw [hg]; exact (below_size (by repeat (first | (with_reducible first | exact HB.out | apply below_alloc | apply pw_below_drewN | apply below_drew1 | refine below_set ?_ GE193.out) | exact HB.out))) : w.heap.size ≤ gb194)); have n5_ := Aside0.mk ((by rw [hg]; exact Nat.ne_of_lt (blk_lt (g := gb193) (o := .cells #[.int .i64 0, .int .i64 0, .int .u8 0, .int .u8 0, .int .u8 0, .int .u8 0, .int .u8 0] 58 (0, 0)) (by (with_reducible repeat (first | refine blk_drewN ?_ _ | refine blk_drew ?_ | refine blk_alloc ?_ _)); exact BK193.out)) : gb193 ≠ gb194)); have n6_ := Aside0.mk ((by rw [hg]; exact Nat.ne_of_gt (blk_lt (g := gb193) (o := .cells #[.int .i64 0, .int .i64 0, .int .u8 0, .int .u8 0, .int .u8 0, .int .u8 0, .int .u8 0] 58 (0, 0)) (by (with_reducible repeat (first | refine blk_drewN ?_ _ | refine blk_drew ?_ | refine blk_alloc ?_ _)); exact BK193.out)) : gb194 ≠ gb193)); clear BK193; clear HB; have BK193 := n0_; have HB := n1_; have BK194 := n2_; have GW194 := n3_; have GE194 := n4_; have NB193_194 := n5_; have NB194_193 := n6_; clear n0_ n1_ n2_ n3_ n4_ n5_ n6_; clear hb hbox hg; have hnb6 := NB194_193.out; have hnc6 := NB193_194.out; have hcz7_0 : w5.cell? ⟨gb194, 0, none⟩ = some (.int .i64 0) := (blk_cell BK194.out 0).trans rfl; have hcz7_1 : w5.cell? ⟨gb194, 1, none⟩ = some (.int .i64 0) := (blk_cell BK194.out 1).trans rfl; have hcz7_2 : w5.cell? ⟨gb194, 2, none⟩ = some (.int .u8 0) := (blk_cell BK194.out 2).trans rfl; have hcz7_3 : w5.cell? ⟨gb194, 3, none⟩ = some (.int .u8 0) := (blk_cell BK194.out 3).trans rfl; have hcz7_4 : w5.cell? ⟨gb194, 4, none⟩ = some (.int .u8 0) := (blk_cell BK194.out 4).trans rfl; have hcz7_5 : w5.cell? ⟨gb194, 5, none⟩ = some (.int .u8 0) := (blk_cell BK194.out 5).trans rfl; have hcz7_6 : w5.cell? ⟨gb194, 6, none⟩ = some (.int .u8 0) := (blk_cell BK194.out 6).trans rfl; have hfz7_0 := blk_frozen BK194.out 0; have hfz7_1 := blk_frozen BK194.out 1; have hfz7_2 := blk_frozen BK194.out 2; have hfz7_3 := blk_frozen BK194.out 3; have hfz7_4 := blk_frozen BK194.out 4; have hfz7_5 := blk_frozen BK194.out 5; have hfz7_6 := blk_frozen BK194.out 6) | ((with_reducible refine gate_callee (f := 43) rfl ?_); refine goesL_ (some 19) rfl rfl Tryd.func43 (by kernel_rfl) rfl #[.int .i64 a0, .int .u8 a1] rfl (by (try simp only [List.map_toArray, List.map_cons, List.map_nil]); first | done | rfl | (simp only [List.length_drop, List.length_take]; rfl)) ?_; (with_reducible refine (shuttleref06_List.calls k a0 a1 t195 _ A3.out).mono ?_); rintro e w8 ⟨v196, rfl, ho0, hb⟩; refine ⟨_, rfl, ?_⟩; have n0_ := Aside0.mk (Kd.R_lower ho0 (below_size (by repeat (first | (with_reducible first | exact HB.out | apply below_alloc | apply pw_below_drewN | apply below_drew1 | refine below_set ?_ GE193.out | refine below_set ?_ GE194.out) | exact HB.out)))); have n1_ := Aside0.mk (blk_below (g := gb193) (o := .cells #[.int .i64 0, .int .i64 0, .int .u8 0, .int .u8 0, .int .u8 0, .int .u8 0, .int .u8 0] 58 (0, 0)) (by (with_reducible repeat (first | refine blk_drewN ?_ _ | refine blk_drew ?_ | refine blk_alloc ?_ _)); refine blk_far ?_ NB193_194.out _; (with_reducible repeat (first | refine blk_drewN ?_ _ | refine blk_drew ?_ | refine blk_alloc ?_ _)); refine blk_far ?_ NB193_194.out _; (with_reducible repeat (first | refine blk_drewN ?_ _ | refine blk_drew ?_ | refine blk_alloc ?_ _)); refine blk_far ?_ NB193_194.out _; (with_reducible repeat (first | refine blk_drewN ?_ _ | refine blk_drew ?_ | refine blk_alloc ?_ _)); refine blk_far ?_ NB193_194.out _; (with_reducible repeat (first | refine blk_drewN ?_ _ | refine blk_drew ?_ | refine blk_alloc ?_ _)); refine blk_far ?_ NB193_194.out _; (with_reducible repeat (first | refine blk_drewN ?_ _ | refine blk_drew ?_ | refine blk_alloc ?_ _)); refine blk_far ?_ NB193_194.out _; (with_reducible repeat (first | refine blk_drewN ?_ _ | refine blk_drew ?_ | refine blk_alloc ?_ _)); refine blk_far ?_ NB193_194.out _; (with_reducible repeat (first | refine blk_drewN ?_ _ | refine blk_drew ?_ | refine blk_alloc ?_ _)); exact BK193.out) hb); have n2_ := Aside0.mk (blk_below (g := gb194) (o := .cells #[.int .i64 a0, .int .i64 (wrap64 ((wrap64 (Int.tdiv a0 2)) + (wrap64 (32 * (wrap64 (a1)))))), .int .u8 a1, .int .u8 0, .int .u8 0, .int .u8 0, .int .u8 0] 58 (0, 0)) (by (with_reducible repeat (first | refine blk_drewN ?_ _ | refine blk_drew ?_ | refine blk_alloc ?_ _)); refine blk_put (cs := #[.int .i64 a0, .int .i64 (wrap64 ((wrap64 (Int.tdiv a0 2)) + (wrap64 (32 * (wrap64 (a1)))))), .int .u8 a1, .int .u8 0, .int .u8 0, .int .u8 0, .int .u8 0]) ?_ 6 _ rfl; (with_reducible repeat (first | refine blk_drewN ?_ _ | refine blk_drew ?_ | refine blk_alloc ?_ _)); refine blk_put (cs := #[.int .i64 a0, .int .i64 (wrap64 ((wrap64 (Int.tdiv a0 2)) + (wrap64 (32 * (wrap64 (a1)))))), .int .u8 a1, .int .u8 0, .int .u8 0, .int .u8 0, .int .u8 0]) ?_ 5 _ rfl; (with_reducible repeat (first | refine blk_drewN ?_ _ | refine blk_drew ?_ | refine blk_alloc ?_ _)); refine blk_put (cs := #[.int .i64 a0, .int .i64 (wrap64 ((wrap64 (Int.tdiv a0 2)) + (wrap64 (32 * (wrap64 (a1)))))), .int .u8 a1, .int .u8 0, .int .u8 0, .int .u8 0, .int .u8 0]) ?_ 4 _ rfl; (with_reducible repeat (first | refine blk_drewN ?_ _ | refine blk_drew ?_ | refine blk_alloc ?_ _)); refine blk_put (cs := #[.int .i64 a0, .int .i64 (wrap64 ((wrap64 (Int.tdiv a0 2)) + (wrap64 (32 * (wrap64 (a1)))))), .int .u8 a1, .int .u8 0, .int .u8 0, .int .u8 0, .int .u8 0]) ?_ 3 _ rfl; (with_reducible repeat (first | refine blk_drewN ?_ _ | refine blk_drew ?_ | refine blk_alloc ?_ _)); refine blk_put (cs := #[.int .i64 a0, .int .i64 (wrap64 ((wrap64 (Int.tdiv a0 2)) + (wrap64 (32 * (wrap64 (a1)))))), .int .u8 0, .int .u8 0, .int .u8 0, .int .u8 0, .int .u8 0]) ?_ 2 _ rfl; (with_reducible repeat (first | refine blk_drewN ?_ _ | refine blk_drew ?_ | refine blk_alloc ?_ _)); refine blk_put (cs := #[.int .i64 a0, .int .i64 0, .int .u8 0, .int .u8 0, .int .u8 0, .int .u8 0, .int .u8 0]) ?_ 1 _ rfl; (with_reducible repeat (first | refine blk_drewN ?_ _ | refine blk_drew ?_ | refine blk_alloc ?_ _)); refine blk_put (cs := #[.int .i64 0, .int .i64 0, .int .u8 0, .int .u8 0, .int .u8 0, .int .u8 0, .int .u8 0]) ?_ 0 _ rfl; (with_reducible repeat (first | refine blk_drewN ?_ _ | refine blk_drew ?_ | refine blk_alloc ?_ _)); exact BK194.out) hb); have n3_ := Aside0.mk (below_step (by repeat (first | (with_reducible first | exact HB.out | apply below_alloc | apply pw_below_drewN | apply below_drew1 | refine below_set ?_ GE193.out | refine below_set ?_ GE194.out) | exact HB.out)) hb); clear BK193; clear BK194; clear HB; have HO197 := n0_; have BK193 := n1_; have BK194 := n2_; have HB := n3_; clear n0_ n1_ n2_ n3_; (try clear hb); (try clear hb2); (try clear hk); (try clear hi); (try clear ho0)))
  go_loopg [7] k (fun kq v7 w' => ∃ (x7_1 : Int) (x195003_1 : Int) (x195004_1 : Int) (x195005_1 : Int) (x195006_1 : Int), v7 = .int .i64 x7_1 ∧ Aside0 (shuttleref07_Step.l0 kq t195 x7_1 a0 (wrap64 ((wrap64 (Int.tdiv a0 2)) + (wrap64 (32 * (wrap64 (a1)))))) a1 x195003_1 x195004_1 x195005_1 x195006_1 = some (r1, r2, r3, r4, r5, r6, r7)) ∧ Aside0 (kq ≤ k) ∧ Aside0 (Kd.R (Kd.int .u8) 5 w' w.heap.size (fun _ => True) v196 t195) ∧ Aside0 (w'.heap[gb193]? = some (.cells #[.int .i64 0, .int .i64 0, .int .u8 0, .int .u8 0, .int .u8 0, .int .u8 0, .int .u8 0] 58 (0, 0))) ∧ Aside0 (w'.heap[gb194]? = some (.cells #[.int .i64 a0, .int .i64 (wrap64 ((wrap64 (Int.tdiv a0 2)) + (wrap64 (32 * (wrap64 (a1)))))), .int .u8 a1, .int .u8 x195003_1, .int .u8 x195004_1, .int .u8 x195005_1, .int .u8 x195006_1] 58 (0, 0))) ∧ Aside0 (Below w.heap.size w w'))
  case atStart => exact ⟨(0), (0), (0), (0), (0), (by first | rfl | (simp; done) | (simp [*]; done)), H', ⟨Nat.le_refl _⟩, ⟨by (with_reducible repeat (first | apply Kd.R_alloc | apply Kd.R_drewN | apply Kd.R_drew)); exact HO197.out⟩, ⟨by (with_reducible repeat (first | refine blk_drewN ?_ _ | refine blk_drew ?_ | refine blk_alloc ?_ _)); exact BK193.out⟩, ⟨by (with_reducible repeat (first | refine blk_drewN ?_ _ | refine blk_drew ?_ | refine blk_alloc ?_ _)); exact BK194.out⟩, ⟨by repeat (first | (with_reducible first | exact HB.out | apply below_alloc | apply pw_below_drewN | apply below_drew1 | refine below_set ?_ GE193.out | refine below_set ?_ GE194.out) | exact HB.out)⟩⟩
  case round =>
    clear H'
    try clear p2
    try clear c3
    try clear c4
    try clear c6
    try clear p6
    try clear hcz7_0
    try clear hcz7_1
    try clear hcz7_2
    try clear hcz7_3
    try clear hcz7_4
    try clear hcz7_5
    try clear hcz7_6
    try clear hfz7_0
    try clear hfz7_1
    try clear hfz7_2
    try clear hfz7_3
    try clear hfz7_4
    try clear hfz7_5
    try clear hfz7_6
    obtain ⟨x7_1, x195003_1, x195004_1, x195005_1, x195006_1, rfl, HA, HK1, HO_6, BK193, BK194, HB⟩ := hrel
    cases gk with
    | zero => exact absurd HA.out (by simp [shuttleref07_Step.l0])
    | succ k1 =>
      have H := HA.out
      clear HA
      simp only [shuttleref07_Step.l0] at H
      by_cases c9 : x7_1 < 4
      · rw [if_pos c9] at H
        have c9b0 : decide (x7_1 < 4) = true := decide_eq_true c9
        clear c9
        replace H := Option.bind_eq_some_iff.mp H
        obtain ⟨t198, A100, H⟩ := H
        replace H : (if x7_1 = 0 then (shuttleref07_Step.l0 k1 t195 (0 + 1) a0 (wrap64 ((wrap64 (Int.tdiv a0 2)) + (wrap64 (32 * (wrap64 (a1)))))) a1 t198 x195004_1 x195005_1 x195006_1) else (if x7_1 = 1 then (shuttleref07_Step.l0 k1 t195 (1 + 1) a0 (wrap64 ((wrap64 (Int.tdiv a0 2)) + (wrap64 (32 * (wrap64 (a1)))))) a1 x195003_1 t198 x195005_1 x195006_1) else (if x7_1 = 2 then (shuttleref07_Step.l0 k1 t195 (2 + 1) a0 (wrap64 ((wrap64 (Int.tdiv a0 2)) + (wrap64 (32 * (wrap64 (a1)))))) a1 x195003_1 x195004_1 t198 x195006_1) else (if x7_1 = 3 then (shuttleref07_Step.l0 k1 t195 (3 + 1) a0 (wrap64 ((wrap64 (Int.tdiv a0 2)) + (wrap64 (32 * (wrap64 (a1)))))) a1 x195003_1 x195004_1 x195005_1 t198) else (none))))) = some (r1, r2, r3, r4, r5, r6, r7) := H
        have A10 := Aside0.mk A100
        clear A100
        by_cases c11 : x7_1 = 0
        · rw [if_pos c11] at H
          subst c11
          have H' := Aside0.mk H
          clear H
          obtain ⟨Ao12, co12, eo12⟩ := Kd.R_slice HO_6.out
          subst eo12
          go_wp2_with (first | ((with_reducible refine gate_callee (f := 37) rfl ?_); refine goesL_ (some 27) rfl rfl Tryd.func37 (by kernel_rfl) rfl #[.slice Ao12 t195.length co12, .int .i64 6, .int .i64 0] rfl (by (try simp only [List.map_toArray, List.map_cons, List.map_nil]); first | done | rfl | (simp only [List.length_drop, List.length_take]; rfl)) ?_; (with_reducible refine (shuttleref06_Bit.calls _ _ t195 6 0 t198 _ ?side1 ?side2 A10.out).mono ?_); (case side1 => repeat (first | exact (Kd.R_reads' HO_6.out).2.2 | (with_reducible refine Kd.C_alloc ?_ _) | (with_reducible refine Kd.C_drewN ?_ _) | (with_reducible refine Kd.C_drew ?_))); (case side2 => exact (Kd.R_reads' HO_6.out).2.1); rintro e w13 ⟨rfl, hb⟩; refine ⟨_, rfl, ?_⟩; have n0_ := Aside0.mk (Kd.R_below (by (with_reducible repeat (first | apply Kd.R_alloc | apply Kd.R_drewN | apply Kd.R_drew)); exact HO_6.out) hb); have n1_ := Aside0.mk (blk_below (g := gb193) (o := .cells #[.int .i64 0, .int .i64 0, .int .u8 0, .int .u8 0, .int .u8 0, .int .u8 0, .int .u8 0] 58 (0, 0)) (by (with_reducible repeat (first | refine blk_drewN ?_ _ | refine blk_drew ?_ | refine blk_alloc ?_ _)); exact BK193.out) hb); have n2_ := Aside0.mk (blk_below (g := gb194) (o := .cells #[.int .i64 a0, .int .i64 (wrap64 ((wrap64 (Int.tdiv a0 2)) + (wrap64 (32 * (wrap64 (a1)))))), .int .u8 a1, .int .u8 x195003_1, .int .u8 x195004_1, .int .u8 x195005_1, .int .u8 x195006_1] 58 (0, 0)) (by (with_reducible repeat (first | refine blk_drewN ?_ _ | refine blk_drew ?_ | refine blk_alloc ?_ _)); exact BK194.out) hb); have n3_ := Aside0.mk (below_step (by repeat (first | (with_reducible first | exact HB.out | apply below_alloc | apply pw_below_drewN | apply below_drew1 | refine below_set ?_ GE193.out | refine below_set ?_ GE194.out) | exact HB.out)) hb); clear HO_6; clear BK193; clear BK194; clear HB; have HO_6 := n0_; have BK193 := n1_; have BK194 := n2_; have HB := n3_; clear n0_ n1_ n2_ n3_; (try clear hb); (try clear hb2); (try clear hk); (try clear hi); have hnb14 := NB194_193.out; have hnc14 := NB193_194.out; have hcz15_0 : w13.cell? ⟨gb194, 0, none⟩ = some (.int .i64 a0) := (blk_cell BK194.out 0).trans rfl; have hcz15_1 : w13.cell? ⟨gb194, 1, none⟩ = some (.int .i64 (wrap64 ((wrap64 (Int.tdiv a0 2)) + (wrap64 (32 * (wrap64 (a1))))))) := (blk_cell BK194.out 1).trans rfl; have hcz15_2 : w13.cell? ⟨gb194, 2, none⟩ = some (.int .u8 a1) := (blk_cell BK194.out 2).trans rfl; have hcz15_3 : w13.cell? ⟨gb194, 3, none⟩ = some (.int .u8 x195003_1) := (blk_cell BK194.out 3).trans rfl; have hcz15_4 : w13.cell? ⟨gb194, 4, none⟩ = some (.int .u8 x195004_1) := (blk_cell BK194.out 4).trans rfl; have hcz15_5 : w13.cell? ⟨gb194, 5, none⟩ = some (.int .u8 x195005_1) := (blk_cell BK194.out 5).trans rfl; have hcz15_6 : w13.cell? ⟨gb194, 6, none⟩ = some (.int .u8 x195006_1) := (blk_cell BK194.out 6).trans rfl; have hfz15_0 := blk_frozen BK194.out 0; have hfz15_1 := blk_frozen BK194.out 1; have hfz15_2 := blk_frozen BK194.out 2; have hfz15_3 := blk_frozen BK194.out 3; have hfz15_4 := blk_frozen BK194.out 4; have hfz15_5 := blk_frozen BK194.out 5; have hfz15_6 := blk_frozen BK194.out 6))
          go_roundg k1
          case measure => have := HK1.out; omega
          case rel => exact ⟨(0 + 1), (t198), (x195004_1), (x195005_1), (x195006_1), (by first | rfl | (simp; done) | (simp [*]; done)), H', ⟨by have := HK1.out; omega⟩, ⟨by (with_reducible repeat (first | apply Kd.R_alloc | apply Kd.R_drewN | apply Kd.R_drew)); exact Kd.R_mono (Kd.R_far (p := ⟨gb194, 3, none⟩) (Kd.R_types HO_6.out BK194.out (by decide)) (fun _ hk => hk.2) (.int .u8 t198)) (fun _ hk => trivial)⟩, ⟨by (with_reducible repeat (first | refine blk_drewN ?_ _ | refine blk_drew ?_ | refine blk_alloc ?_ _)); refine blk_far ?_ NB193_194.out _; (with_reducible repeat (first | refine blk_drewN ?_ _ | refine blk_drew ?_ | refine blk_alloc ?_ _)); exact BK193.out⟩, ⟨by (with_reducible repeat (first | refine blk_drewN ?_ _ | refine blk_drew ?_ | refine blk_alloc ?_ _)); refine blk_put (cs := #[.int .i64 a0, .int .i64 (wrap64 ((wrap64 (Int.tdiv a0 2)) + (wrap64 (32 * (wrap64 (a1)))))), .int .u8 a1, .int .u8 x195003_1, .int .u8 x195004_1, .int .u8 x195005_1, .int .u8 x195006_1]) ?_ 3 _ rfl; (with_reducible repeat (first | refine blk_drewN ?_ _ | refine blk_drew ?_ | refine blk_alloc ?_ _)); exact BK194.out⟩, ⟨by repeat (first | (with_reducible first | exact HB.out | apply below_alloc | apply pw_below_drewN | apply below_drew1 | refine below_set ?_ GE193.out | refine below_set ?_ GE194.out) | exact HB.out)⟩⟩
        · rw [if_neg c11] at H
          clear c11
          by_cases c16 : x7_1 = 1
          · rw [if_pos c16] at H
            subst c16
            have H' := Aside0.mk H
            clear H
            obtain ⟨Ao17, co17, eo17⟩ := Kd.R_slice HO_6.out
            subst eo17
            go_wp2_with (first | ((with_reducible refine gate_callee (f := 37) rfl ?_); refine goesL_ (some 27) rfl rfl Tryd.func37 (by kernel_rfl) rfl #[.slice Ao17 t195.length co17, .int .i64 6, .int .i64 1] rfl (by (try simp only [List.map_toArray, List.map_cons, List.map_nil]); first | done | rfl | (simp only [List.length_drop, List.length_take]; rfl)) ?_; (with_reducible refine (shuttleref06_Bit.calls _ _ t195 6 1 t198 _ ?side1 ?side2 A10.out).mono ?_); (case side1 => repeat (first | exact (Kd.R_reads' HO_6.out).2.2 | (with_reducible refine Kd.C_alloc ?_ _) | (with_reducible refine Kd.C_drewN ?_ _) | (with_reducible refine Kd.C_drew ?_))); (case side2 => exact (Kd.R_reads' HO_6.out).2.1); rintro e w18 ⟨rfl, hb⟩; refine ⟨_, rfl, ?_⟩; have n0_ := Aside0.mk (Kd.R_below (by (with_reducible repeat (first | apply Kd.R_alloc | apply Kd.R_drewN | apply Kd.R_drew)); exact HO_6.out) hb); have n1_ := Aside0.mk (blk_below (g := gb193) (o := .cells #[.int .i64 0, .int .i64 0, .int .u8 0, .int .u8 0, .int .u8 0, .int .u8 0, .int .u8 0] 58 (0, 0)) (by (with_reducible repeat (first | refine blk_drewN ?_ _ | refine blk_drew ?_ | refine blk_alloc ?_ _)); exact BK193.out) hb); have n2_ := Aside0.mk (blk_below (g := gb194) (o := .cells #[.int .i64 a0, .int .i64 (wrap64 ((wrap64 (Int.tdiv a0 2)) + (wrap64 (32 * (wrap64 (a1)))))), .int .u8 a1, .int .u8 x195003_1, .int .u8 x195004_1, .int .u8 x195005_1, .int .u8 x195006_1] 58 (0, 0)) (by (with_reducible repeat (first | refine blk_drewN ?_ _ | refine blk_drew ?_ | refine blk_alloc ?_ _)); exact BK194.out) hb); have n3_ := Aside0.mk (below_step (by repeat (first | (with_reducible first | exact HB.out | apply below_alloc | apply pw_below_drewN | apply below_drew1 | refine below_set ?_ GE193.out | refine below_set ?_ GE194.out) | exact HB.out)) hb); clear HO_6; clear BK193; clear BK194; clear HB; have HO_6 := n0_; have BK193 := n1_; have BK194 := n2_; have HB := n3_; clear n0_ n1_ n2_ n3_; (try clear hb); (try clear hb2); (try clear hk); (try clear hi); have hnb19 := NB194_193.out; have hnc19 := NB193_194.out; have hcz20_0 : w18.cell? ⟨gb194, 0, none⟩ = some (.int .i64 a0) := (blk_cell BK194.out 0).trans rfl; have hcz20_1 : w18.cell? ⟨gb194, 1, none⟩ = some (.int .i64 (wrap64 ((wrap64 (Int.tdiv a0 2)) + (wrap64 (32 * (wrap64 (a1))))))) := (blk_cell BK194.out 1).trans rfl; have hcz20_2 : w18.cell? ⟨gb194, 2, none⟩ = some (.int .u8 a1) := (blk_cell BK194.out 2).trans rfl; have hcz20_3 : w18.cell? ⟨gb194, 3, none⟩ = some (.int .u8 x195003_1) := (blk_cell BK194.out 3).trans rfl; have hcz20_4 : w18.cell? ⟨gb194, 4, none⟩ = some (.int .u8 x195004_1) := (blk_cell BK194.out 4).trans rfl; have hcz20_5 : w18.cell? ⟨gb194, 5, none⟩ = some (.int .u8 x195005_1) := (blk_cell BK194.out 5).trans rfl; have hcz20_6 : w18.cell? ⟨gb194, 6, none⟩ = some (.int .u8 x195006_1) := (blk_cell BK194.out 6).trans rfl; have hfz20_0 := blk_frozen BK194.out 0; have hfz20_1 := blk_frozen BK194.out 1; have hfz20_2 := blk_frozen BK194.out 2; have hfz20_3 := blk_frozen BK194.out 3; have hfz20_4 := blk_frozen BK194.out 4; have hfz20_5 := blk_frozen BK194.out 5; have hfz20_6 := blk_frozen BK194.out 6))
            go_roundg k1
            case measure => have := HK1.out; omega
            case rel => exact ⟨(1 + 1), (x195003_1), (t198), (x195005_1), (x195006_1), (by first | rfl | (simp; done) | (simp [*]; done)), H', ⟨by have := HK1.out; omega⟩, ⟨by (with_reducible repeat (first | apply Kd.R_alloc | apply Kd.R_drewN | apply Kd.R_drew)); exact Kd.R_mono (Kd.R_far (p := ⟨gb194, 4, none⟩) (Kd.R_types HO_6.out BK194.out (by decide)) (fun _ hk => hk.2) (.int .u8 t198)) (fun _ hk => trivial)⟩, ⟨by (with_reducible repeat (first | refine blk_drewN ?_ _ | refine blk_drew ?_ | refine blk_alloc ?_ _)); refine blk_far ?_ NB193_194.out _; (with_reducible repeat (first | refine blk_drewN ?_ _ | refine blk_drew ?_ | refine blk_alloc ?_ _)); exact BK193.out⟩, ⟨by (with_reducible repeat (first | refine blk_drewN ?_ _ | refine blk_drew ?_ | refine blk_alloc ?_ _)); refine blk_put (cs := #[.int .i64 a0, .int .i64 (wrap64 ((wrap64 (Int.tdiv a0 2)) + (wrap64 (32 * (wrap64 (a1)))))), .int .u8 a1, .int .u8 x195003_1, .int .u8 x195004_1, .int .u8 x195005_1, .int .u8 x195006_1]) ?_ 4 _ rfl; (with_reducible repeat (first | refine blk_drewN ?_ _ | refine blk_drew ?_ | refine blk_alloc ?_ _)); exact BK194.out⟩, ⟨by repeat (first | (with_reducible first | exact HB.out | apply below_alloc | apply pw_below_drewN | apply below_drew1 | refine below_set ?_ GE193.out | refine below_set ?_ GE194.out) | exact HB.out)⟩⟩
          · rw [if_neg c16] at H
            clear c16
            by_cases c21 : x7_1 = 2
            · rw [if_pos c21] at H
              subst c21
              have H' := Aside0.mk H
              clear H
              obtain ⟨Ao22, co22, eo22⟩ := Kd.R_slice HO_6.out
              subst eo22
              go_wp2_with (first | ((with_reducible refine gate_callee (f := 37) rfl ?_); refine goesL_ (some 27) rfl rfl Tryd.func37 (by kernel_rfl) rfl #[.slice Ao22 t195.length co22, .int .i64 6, .int .i64 2] rfl (by (try simp only [List.map_toArray, List.map_cons, List.map_nil]); first | done | rfl | (simp only [List.length_drop, List.length_take]; rfl)) ?_; (with_reducible refine (shuttleref06_Bit.calls _ _ t195 6 2 t198 _ ?side1 ?side2 A10.out).mono ?_); (case side1 => repeat (first | exact (Kd.R_reads' HO_6.out).2.2 | (with_reducible refine Kd.C_alloc ?_ _) | (with_reducible refine Kd.C_drewN ?_ _) | (with_reducible refine Kd.C_drew ?_))); (case side2 => exact (Kd.R_reads' HO_6.out).2.1); rintro e w23 ⟨rfl, hb⟩; refine ⟨_, rfl, ?_⟩; have n0_ := Aside0.mk (Kd.R_below (by (with_reducible repeat (first | apply Kd.R_alloc | apply Kd.R_drewN | apply Kd.R_drew)); exact HO_6.out) hb); have n1_ := Aside0.mk (blk_below (g := gb193) (o := .cells #[.int .i64 0, .int .i64 0, .int .u8 0, .int .u8 0, .int .u8 0, .int .u8 0, .int .u8 0] 58 (0, 0)) (by (with_reducible repeat (first | refine blk_drewN ?_ _ | refine blk_drew ?_ | refine blk_alloc ?_ _)); exact BK193.out) hb); have n2_ := Aside0.mk (blk_below (g := gb194) (o := .cells #[.int .i64 a0, .int .i64 (wrap64 ((wrap64 (Int.tdiv a0 2)) + (wrap64 (32 * (wrap64 (a1)))))), .int .u8 a1, .int .u8 x195003_1, .int .u8 x195004_1, .int .u8 x195005_1, .int .u8 x195006_1] 58 (0, 0)) (by (with_reducible repeat (first | refine blk_drewN ?_ _ | refine blk_drew ?_ | refine blk_alloc ?_ _)); exact BK194.out) hb); have n3_ := Aside0.mk (below_step (by repeat (first | (with_reducible first | exact HB.out | apply below_alloc | apply pw_below_drewN | apply below_drew1 | refine below_set ?_ GE193.out | refine below_set ?_ GE194.out) | exact HB.out)) hb); clear HO_6; clear BK193; clear BK194; clear HB; have HO_6 := n0_; have BK193 := n1_; have BK194 := n2_; have HB := n3_; clear n0_ n1_ n2_ n3_; (try clear hb); (try clear hb2); (try clear hk); (try clear hi); have hnb24 := NB194_193.out; have hnc24 := NB193_194.out; have hcz25_0 : w23.cell? ⟨gb194, 0, none⟩ = some (.int .i64 a0) := (blk_cell BK194.out 0).trans rfl; have hcz25_1 : w23.cell? ⟨gb194, 1, none⟩ = some (.int .i64 (wrap64 ((wrap64 (Int.tdiv a0 2)) + (wrap64 (32 * (wrap64 (a1))))))) := (blk_cell BK194.out 1).trans rfl; have hcz25_2 : w23.cell? ⟨gb194, 2, none⟩ = some (.int .u8 a1) := (blk_cell BK194.out 2).trans rfl; have hcz25_3 : w23.cell? ⟨gb194, 3, none⟩ = some (.int .u8 x195003_1) := (blk_cell BK194.out 3).trans rfl; have hcz25_4 : w23.cell? ⟨gb194, 4, none⟩ = some (.int .u8 x195004_1) := (blk_cell BK194.out 4).trans rfl; have hcz25_5 : w23.cell? ⟨gb194, 5, none⟩ = some (.int .u8 x195005_1) := (blk_cell BK194.out 5).trans rfl; have hcz25_6 : w23.cell? ⟨gb194, 6, none⟩ = some (.int .u8 x195006_1) := (blk_cell BK194.out 6).trans rfl; have hfz25_0 := blk_frozen BK194.out 0; have hfz25_1 := blk_frozen BK194.out 1; have hfz25_2 := blk_frozen BK194.out 2; have hfz25_3 := blk_frozen BK194.out 3; have hfz25_4 := blk_frozen BK194.out 4; have hfz25_5 := blk_frozen BK194.out 5; have hfz25_6 := blk_frozen BK194.out 6))
              go_roundg k1
              case measure => have := HK1.out; omega
              case rel => exact ⟨(2 + 1), (x195003_1), (x195004_1), (t198), (x195006_1), (by first | rfl | (simp; done) | (simp [*]; done)), H', ⟨by have := HK1.out; omega⟩, ⟨by (with_reducible repeat (first | apply Kd.R_alloc | apply Kd.R_drewN | apply Kd.R_drew)); exact Kd.R_mono (Kd.R_far (p := ⟨gb194, 5, none⟩) (Kd.R_types HO_6.out BK194.out (by decide)) (fun _ hk => hk.2) (.int .u8 t198)) (fun _ hk => trivial)⟩, ⟨by (with_reducible repeat (first | refine blk_drewN ?_ _ | refine blk_drew ?_ | refine blk_alloc ?_ _)); refine blk_far ?_ NB193_194.out _; (with_reducible repeat (first | refine blk_drewN ?_ _ | refine blk_drew ?_ | refine blk_alloc ?_ _)); exact BK193.out⟩, ⟨by (with_reducible repeat (first | refine blk_drewN ?_ _ | refine blk_drew ?_ | refine blk_alloc ?_ _)); refine blk_put (cs := #[.int .i64 a0, .int .i64 (wrap64 ((wrap64 (Int.tdiv a0 2)) + (wrap64 (32 * (wrap64 (a1)))))), .int .u8 a1, .int .u8 x195003_1, .int .u8 x195004_1, .int .u8 x195005_1, .int .u8 x195006_1]) ?_ 5 _ rfl; (with_reducible repeat (first | refine blk_drewN ?_ _ | refine blk_drew ?_ | refine blk_alloc ?_ _)); exact BK194.out⟩, ⟨by repeat (first | (with_reducible first | exact HB.out | apply below_alloc | apply pw_below_drewN | apply below_drew1 | refine below_set ?_ GE193.out | refine below_set ?_ GE194.out) | exact HB.out)⟩⟩
            · rw [if_neg c21] at H
              clear c21
              by_cases c26 : x7_1 = 3
              · rw [if_pos c26] at H
                subst c26
                have H' := Aside0.mk H
                clear H
                obtain ⟨Ao27, co27, eo27⟩ := Kd.R_slice HO_6.out
                subst eo27
                go_wp2_with (first | ((with_reducible refine gate_callee (f := 37) rfl ?_); refine goesL_ (some 27) rfl rfl Tryd.func37 (by kernel_rfl) rfl #[.slice Ao27 t195.length co27, .int .i64 6, .int .i64 3] rfl (by (try simp only [List.map_toArray, List.map_cons, List.map_nil]); first | done | rfl | (simp only [List.length_drop, List.length_take]; rfl)) ?_; (with_reducible refine (shuttleref06_Bit.calls _ _ t195 6 3 t198 _ ?side1 ?side2 A10.out).mono ?_); (case side1 => repeat (first | exact (Kd.R_reads' HO_6.out).2.2 | (with_reducible refine Kd.C_alloc ?_ _) | (with_reducible refine Kd.C_drewN ?_ _) | (with_reducible refine Kd.C_drew ?_))); (case side2 => exact (Kd.R_reads' HO_6.out).2.1); rintro e w28 ⟨rfl, hb⟩; refine ⟨_, rfl, ?_⟩; have n0_ := Aside0.mk (Kd.R_below (by (with_reducible repeat (first | apply Kd.R_alloc | apply Kd.R_drewN | apply Kd.R_drew)); exact HO_6.out) hb); have n1_ := Aside0.mk (blk_below (g := gb193) (o := .cells #[.int .i64 0, .int .i64 0, .int .u8 0, .int .u8 0, .int .u8 0, .int .u8 0, .int .u8 0] 58 (0, 0)) (by (with_reducible repeat (first | refine blk_drewN ?_ _ | refine blk_drew ?_ | refine blk_alloc ?_ _)); exact BK193.out) hb); have n2_ := Aside0.mk (blk_below (g := gb194) (o := .cells #[.int .i64 a0, .int .i64 (wrap64 ((wrap64 (Int.tdiv a0 2)) + (wrap64 (32 * (wrap64 (a1)))))), .int .u8 a1, .int .u8 x195003_1, .int .u8 x195004_1, .int .u8 x195005_1, .int .u8 x195006_1] 58 (0, 0)) (by (with_reducible repeat (first | refine blk_drewN ?_ _ | refine blk_drew ?_ | refine blk_alloc ?_ _)); exact BK194.out) hb); have n3_ := Aside0.mk (below_step (by repeat (first | (with_reducible first | exact HB.out | apply below_alloc | apply pw_below_drewN | apply below_drew1 | refine below_set ?_ GE193.out | refine below_set ?_ GE194.out) | exact HB.out)) hb); clear HO_6; clear BK193; clear BK194; clear HB; have HO_6 := n0_; have BK193 := n1_; have BK194 := n2_; have HB := n3_; clear n0_ n1_ n2_ n3_; (try clear hb); (try clear hb2); (try clear hk); (try clear hi); have hnb29 := NB194_193.out; have hnc29 := NB193_194.out; have hcz30_0 : w28.cell? ⟨gb194, 0, none⟩ = some (.int .i64 a0) := (blk_cell BK194.out 0).trans rfl; have hcz30_1 : w28.cell? ⟨gb194, 1, none⟩ = some (.int .i64 (wrap64 ((wrap64 (Int.tdiv a0 2)) + (wrap64 (32 * (wrap64 (a1))))))) := (blk_cell BK194.out 1).trans rfl; have hcz30_2 : w28.cell? ⟨gb194, 2, none⟩ = some (.int .u8 a1) := (blk_cell BK194.out 2).trans rfl; have hcz30_3 : w28.cell? ⟨gb194, 3, none⟩ = some (.int .u8 x195003_1) := (blk_cell BK194.out 3).trans rfl; have hcz30_4 : w28.cell? ⟨gb194, 4, none⟩ = some (.int .u8 x195004_1) := (blk_cell BK194.out 4).trans rfl; have hcz30_5 : w28.cell? ⟨gb194, 5, none⟩ = some (.int .u8 x195005_1) := (blk_cell BK194.out 5).trans rfl; have hcz30_6 : w28.cell? ⟨gb194, 6, none⟩ = some (.int .u8 x195006_1) := (blk_cell BK194.out 6).trans rfl; have hfz30_0 := blk_frozen BK194.out 0; have hfz30_1 := blk_frozen BK194.out 1; have hfz30_2 := blk_frozen BK194.out 2; have hfz30_3 := blk_frozen BK194.out 3; have hfz30_4 := blk_frozen BK194.out 4; have hfz30_5 := blk_frozen BK194.out 5; have hfz30_6 := blk_frozen BK194.out 6))
                go_roundg k1
                case measure => have := HK1.out; omega
                case rel => exact ⟨(3 + 1), (x195003_1), (x195004_1), (x195005_1), (t198), (by first | rfl | (simp; done) | (simp [*]; done)), H', ⟨by have := HK1.out; omega⟩, ⟨by (with_reducible repeat (first | apply Kd.R_alloc | apply Kd.R_drewN | apply Kd.R_drew)); exact Kd.R_mono (Kd.R_far (p := ⟨gb194, 6, none⟩) (Kd.R_types HO_6.out BK194.out (by decide)) (fun _ hk => hk.2) (.int .u8 t198)) (fun _ hk => trivial)⟩, ⟨by (with_reducible repeat (first | refine blk_drewN ?_ _ | refine blk_drew ?_ | refine blk_alloc ?_ _)); refine blk_far ?_ NB193_194.out _; (with_reducible repeat (first | refine blk_drewN ?_ _ | refine blk_drew ?_ | refine blk_alloc ?_ _)); exact BK193.out⟩, ⟨by (with_reducible repeat (first | refine blk_drewN ?_ _ | refine blk_drew ?_ | refine blk_alloc ?_ _)); refine blk_put (cs := #[.int .i64 a0, .int .i64 (wrap64 ((wrap64 (Int.tdiv a0 2)) + (wrap64 (32 * (wrap64 (a1)))))), .int .u8 a1, .int .u8 x195003_1, .int .u8 x195004_1, .int .u8 x195005_1, .int .u8 x195006_1]) ?_ 6 _ rfl; (with_reducible repeat (first | refine blk_drewN ?_ _ | refine blk_drew ?_ | refine blk_alloc ?_ _)); exact BK194.out⟩, ⟨by repeat (first | (with_reducible first | exact HB.out | apply below_alloc | apply pw_below_drewN | apply below_drew1 | refine below_set ?_ GE193.out | refine below_set ?_ GE194.out) | exact HB.out)⟩⟩
              · rw [if_neg c26] at H
                clear c26
                exact absurd H (by simp)
      · rw [if_neg c9] at H
        have c9b0 : decide (x7_1 < 4) = false := decide_eq_false c9
        clear c9
        simp only [Option.some.injEq, Prod.mk.injEq] at H
        obtain ⟨rfl, rfl, rfl, rfl, rfl, rfl, rfl⟩ := H
        have hnb31 := NB194_193.out
        have hnc31 := NB193_194.out
        have hcz32_0 : wr.cell? ⟨gb194, 0, none⟩ = some (.int .i64 a0) := (blk_cell BK194.out 0).trans rfl
        have hcz32_1 : wr.cell? ⟨gb194, 1, none⟩ = some (.int .i64 (wrap64 ((wrap64 (Int.tdiv a0 2)) + (wrap64 (32 * (wrap64 (a1))))))) := (blk_cell BK194.out 1).trans rfl
        have hcz32_2 : wr.cell? ⟨gb194, 2, none⟩ = some (.int .u8 a1) := (blk_cell BK194.out 2).trans rfl
        have hcz32_3 : wr.cell? ⟨gb194, 3, none⟩ = some (.int .u8 x195003_1) := (blk_cell BK194.out 3).trans rfl
        have hcz32_4 : wr.cell? ⟨gb194, 4, none⟩ = some (.int .u8 x195004_1) := (blk_cell BK194.out 4).trans rfl
        have hcz32_5 : wr.cell? ⟨gb194, 5, none⟩ = some (.int .u8 x195005_1) := (blk_cell BK194.out 5).trans rfl
        have hcz32_6 : wr.cell? ⟨gb194, 6, none⟩ = some (.int .u8 x195006_1) := (blk_cell BK194.out 6).trans rfl
        have hfz32_0 := blk_frozen BK194.out 0
        have hfz32_1 := blk_frozen BK194.out 1
        have hfz32_2 := blk_frozen BK194.out 2
        have hfz32_3 := blk_frozen BK194.out 3
        have hfz32_4 := blk_frozen BK194.out 4
        have hfz32_5 := blk_frozen BK194.out 5
        have hfz32_6 := blk_frozen BK194.out 6
        have hcz33_0 : wr.cell? ⟨gb193, 0, none⟩ = some (.int .i64 0) := (blk_cell BK193.out 0).trans rfl
        have hcz33_1 : wr.cell? ⟨gb193, 1, none⟩ = some (.int .i64 0) := (blk_cell BK193.out 1).trans rfl
        have hcz33_2 : wr.cell? ⟨gb193, 2, none⟩ = some (.int .u8 0) := (blk_cell BK193.out 2).trans rfl
        have hcz33_3 : wr.cell? ⟨gb193, 3, none⟩ = some (.int .u8 0) := (blk_cell BK193.out 3).trans rfl
        have hcz33_4 : wr.cell? ⟨gb193, 4, none⟩ = some (.int .u8 0) := (blk_cell BK193.out 4).trans rfl
        have hcz33_5 : wr.cell? ⟨gb193, 5, none⟩ = some (.int .u8 0) := (blk_cell BK193.out 5).trans rfl
        have hcz33_6 : wr.cell? ⟨gb193, 6, none⟩ = some (.int .u8 0) := (blk_cell BK193.out 6).trans rfl
        have hfz33_0 := blk_frozen BK193.out 0
        have hfz33_1 := blk_frozen BK193.out 1
        have hfz33_2 := blk_frozen BK193.out 2
        have hfz33_3 := blk_frozen BK193.out 3
        have hfz33_4 := blk_frozen BK193.out 4
        have hfz33_5 := blk_frozen BK193.out 5
        have hfz33_6 := blk_frozen BK193.out 6
        go_wp2
        refine bodyPost_ret (results_cell_row rfl _ _ gb193 58 #[.int .i64 a0, .int .i64 (wrap64 ((wrap64 (Int.tdiv a0 2)) + (wrap64 (32 * (wrap64 (a1)))))), .int .u8 a1, .int .u8 x195003_1, .int .u8 x195004_1, .int .u8 x195005_1, .int .u8 x195006_1] (0, 0) _ rfl (by (with_reducible repeat (first | refine blk_drewN ?_ _ | refine blk_drew ?_ | refine blk_alloc ?_ _)); refine blk_put (cs := #[.int .i64 a0, .int .i64 (wrap64 ((wrap64 (Int.tdiv a0 2)) + (wrap64 (32 * (wrap64 (a1)))))), .int .u8 a1, .int .u8 x195003_1, .int .u8 x195004_1, .int .u8 x195005_1, .int .u8 0]) ?_ 6 _ rfl; (with_reducible repeat (first | refine blk_drewN ?_ _ | refine blk_drew ?_ | refine blk_alloc ?_ _)); refine blk_put (cs := #[.int .i64 a0, .int .i64 (wrap64 ((wrap64 (Int.tdiv a0 2)) + (wrap64 (32 * (wrap64 (a1)))))), .int .u8 a1, .int .u8 x195003_1, .int .u8 x195004_1, .int .u8 0, .int .u8 0]) ?_ 5 _ rfl; (with_reducible repeat (first | refine blk_drewN ?_ _ | refine blk_drew ?_ | refine blk_alloc ?_ _)); refine blk_put (cs := #[.int .i64 a0, .int .i64 (wrap64 ((wrap64 (Int.tdiv a0 2)) + (wrap64 (32 * (wrap64 (a1)))))), .int .u8 a1, .int .u8 x195003_1, .int .u8 0, .int .u8 0, .int .u8 0]) ?_ 4 _ rfl; (with_reducible repeat (first | refine blk_drewN ?_ _ | refine blk_drew ?_ | refine blk_alloc ?_ _)); refine blk_put (cs := #[.int .i64 a0, .int .i64 (wrap64 ((wrap64 (Int.tdiv a0 2)) + (wrap64 (32 * (wrap64 (a1)))))), .int .u8 a1, .int .u8 0, .int .u8 0, .int .u8 0, .int .u8 0]) ?_ 3 _ rfl; (with_reducible repeat (first | refine blk_drewN ?_ _ | refine blk_drew ?_ | refine blk_alloc ?_ _)); refine blk_put (cs := #[.int .i64 a0, .int .i64 (wrap64 ((wrap64 (Int.tdiv a0 2)) + (wrap64 (32 * (wrap64 (a1)))))), .int .u8 0, .int .u8 0, .int .u8 0, .int .u8 0, .int .u8 0]) ?_ 2 _ rfl; (with_reducible repeat (first | refine blk_drewN ?_ _ | refine blk_drew ?_ | refine blk_alloc ?_ _)); refine blk_put (cs := #[.int .i64 a0, .int .i64 0, .int .u8 0, .int .u8 0, .int .u8 0, .int .u8 0, .int .u8 0]) ?_ 1 _ rfl; (with_reducible repeat (first | refine blk_drewN ?_ _ | refine blk_drew ?_ | refine blk_alloc ?_ _)); refine blk_put (cs := #[.int .i64 0, .int .i64 0, .int .u8 0, .int .u8 0, .int .u8 0, .int .u8 0, .int .u8 0]) ?_ 0 _ rfl; (with_reducible repeat (first | refine blk_drewN ?_ _ | refine blk_drew ?_ | refine blk_alloc ?_ _)); exact BK193.out) Tryd.underlying58 rfl (by kernel_rfl)) rfl ?_
        exact ⟨by first | rfl | (simp [errW_none, errW_some] <;> rfl) | (simp [*, errW_none, errW_some] <;> rfl), by repeat (first | (with_reducible first | exact HB.out | apply below_alloc | apply pw_below_drewN | apply below_drew1 | refine below_set ?_ GE193.out | refine below_set ?_ GE194.out) | exact HB.out)⟩

end Go.Proofs.YtijpnlmejphfhaaDoor.P
