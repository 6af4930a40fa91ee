-- Made by xprint.py (an own driver round the kit's print.py), with contracts of this session's own. Lean checks it.
import Derived.Test.YtmajbcglpcagoaaB0
import Derived.Test.YtmajbcglpcagoaaB6
import Derived.Test.YtmajbcglpcagoaaBChunk
namespace Go.Proofs.Ytmajbcglpcagoaa.B
open Go.RowKit Go.Proofs.YtmajbcglpcagoaaW.PrintWords Go.Proofs.YtmajbcglpcagoaaW.PrintLast Go.Proofs.YtmajbcglpcagoaaW.PrintMore
attribute [local go_sem] max2_int min2_int max_two min_two max_three min_three max_four min_four   -- for this text's walks alone
set_option linter.unusedVariables false
set_option linter.unusedSimpArgs false

/-! ### bits_Bytes: function 31 -/
open Go Go.Proofs Go.Shelf
attribute [local go_sem] Oper.semAt_some

def byOf (l : List Int) (x : Nat) : Nat → Int
  | 0 => 0
  | k + 1 => Go.bits .or .u8 (byOf l x k) (shl .u8 (l.getD (8 * x + k) 0) (7 - (k : Int)))
def byte (l : List Int) (x : Nat) : Int := byOf l x (min 8 (l.length - 8 * x))
def bits_Bytes.f (k : Nat) (l0 : List Int) : Option (List Int × Int) := (bits_Right.f k l0).bind fun t => if t = true then (if l0.length < 140737488355328 then some ((List.range ((l0.length + 7) / 8)).map (byte l0), 0) else none) else some ([], 5)
theorem bits_Bytes.mono : ∀ a0 k, LeO (bits_Bytes.f k a0) (bits_Bytes.f (k + 1) a0) := by
  intro a0 k
  unfold bits_Bytes.f
  exact LeO.bind (bits_Right.mono a0 k) (fun _ => LeO.refl _)

theorem bytes_info : (Try.prog.info? 5).map (fun i => (i.zero, i.size, i.bytes)) = some (some (.int .u8 0), 1, 1) := by kernel_rfl
def keepsK (Bs Bn n₀ : Nat) (A B : World) : Prop := Below n₀ A B ∧ B.heap[Bs]? = A.heap[Bs]? ∧ B.heap[Bn]? = A.heap[Bn]?
theorem keepsK_t {Bs Bn n₀ : Nat} {A B C : World} (h : keepsK Bs Bn n₀ A B) (k : keepsK Bs Bn n₀ B C) : keepsK Bs Bn n₀ A C := ⟨h.1.trans k.1, k.2.1.trans h.2.1, k.2.2.trans h.2.2⟩
theorem keepsK_b {Bs Bn n₀ : Nat} {w : World} (hn : n₀ ≤ w.heap.size) (hs : Bs < w.heap.size) (hn' : Bn < w.heap.size) (W : World) (l : Nat) (o o' : Obj) (hl : w.heap.size ≤ l) (h : W.heap[l]? = some o) (h1 : o.isCells = false) (h2 : o.isWalk = false) : keepsK Bs Bn n₀ W (W.putObj l o') := by
  have hlt := (Array.getElem?_eq_some_iff.1 h).1
  exact ⟨belowK_b hn W l o o' hl h h1 h2, (grownBy_putObj' W l o').block Bs (by omega) (fun e => by cases e; omega), (grownBy_putObj' W l o').block Bn (by omega) (fun e => by cases e; omega)⟩
theorem keepsK_cell {Bs Bn n₀ : Nat} {A B : World} (h : keepsK Bs Bn n₀ A B) : B.cell? ⟨Bs, 0, none⟩ = A.cell? ⟨Bs, 0, none⟩ ∧ B.cell? ⟨Bn, 0, none⟩ = A.cell? ⟨Bn, 0, none⟩ := by
  unfold World.cell?
  exact ⟨by simp only [h.2.1], by simp only [h.2.2]⟩
theorem abides_drew {α : Type} {B : Nat} {J : List α → World → Prop} (h : AbidesFrom B J) (pre : List α) (W : World) (hj : J pre W) : J pre W.drew :=
  h pre W W.drew none hj ⟨rfl, rfl, rfl, Nat.le_refl _, fun _ _ _ => rfl⟩ (fun _ e => by cases e)
theorem reps_u8 (w : World) (base : Nat) (ok : Nat → Prop) : ∀ ps : List Int, Reps ((Kd.int .u8).M w base ok) 1 ps (ps.map (Value.int .u8))
  | [] => Reps.none _ _
  | p :: ps => Reps.one rfl (reps_u8 w base ok ps)
theorem chunk_stops (F : Fence) (n : Nat) (h7 : F.fn 40) (hro : F.round = none) (hn : 1 ≤ n) (Bs Bn n₀ : Nat) (A : Option Addr) (ad : Addr) (len cap : Nat) (hA : 0 < len → A = some ad) (hlen : len < 140737488355328) (hcap : len ≤ cap) (w : World)
    (hs : Bs < w.heap.size) (hb : Bn < w.heap.size)
    (hcs : w.cell? ⟨Bs, 0, none⟩ = some (.slice A len cap)) (hcn : w.cell? ⟨Bn, 0, none⟩ = some (.int .i64 8)) :
    SeqStopsK F n Try.prog 40 #[.pointer (some ⟨Bs, 0, none⟩), .pointer (some ⟨Bn, 0, none⟩)] (fun x : Part len => #[partV ad len x]) (keepsK Bs Bn n₀) (fun ys => ys.map (·.1) = List.range ((len + 7) / 8)) (fun _ => True) len w := fun l J Jx W hW hJ _ hY h0 => by
  have hcs' := (hW.cell (p := ⟨Bs, 0, none⟩) hs).trans hcs
  have hcn' := (hW.cell (p := ⟨Bn, 0, none⟩) hb).trans hcn
  by_cases h : 0 < len
  · obtain rfl := hA h
    refine (chunk1_in F n h7 hro hn l Bs Bn ad len cap hlen hcap (keepsK Bs Bn n₀) (fun X Y k e => (keepsK_cell k).1.trans e) (fun X Y k e => (keepsK_cell k).2.trans e) J Jx hY (abides_drew hJ) W hcs' hcn' h0).mono ?_
    rintro e W' ⟨he, ⟨ys, hys, hj⟩ | ⟨pre, hj⟩⟩
    · exact ⟨he, .inl ⟨ys, hys, hj⟩⟩
    · exact ⟨he, .inr ⟨pre, trivial, hj⟩⟩
  · obtain rfl : len = 0 := by omega
    exact (chunk1_nil_in F n h7 hro l Bs Bn A cap (J []) W hcs' h0).mono fun e W' ⟨he, hj⟩ => ⟨he, .inl ⟨[], rfl, hj⟩⟩

set_option maxRecDepth 100000 in
set_option maxHeartbeats 4000000 in
theorem bits_Bytes.calls (k : Nat) (A0 : Option Addr) (c0 : Nat) (l0 : List Int) (r1 : List Int) (r2 : Int) (w : World) (hr0 : Kd.C (Kd.int .u8) w A0 l0.length l0) (hc0 : l0.length ≤ c0) (h : bits_Bytes.f k l0 = some (r1, r2)) :
    Calls Try.prog 31 #[.slice A0 l0.length c0] w fun e w' => ∃ v0_ : Value, e = .returned (.tuple #[v0_, .int .i64 r2]) ∧ Kd.R (Kd.int .u8) 5 w' w.heap.size (fun _ => True) v0_ r1 ∧ Below w.heap.size w w' := by
  unfold bits_Bytes.f at h
  obtain ⟨t, ht, h⟩ := Option.bind_eq_some_iff.mp h
  refine (callsIn_wide (n := 5)).1 ?_
  have hro : Fence.wide.round = none := rfl
  refine callsIn_of_wp_marks Try.func31 rfl trivial ?_ hro
  simp only [Try.ntmps31, List.size_toArray, List.length_cons, List.length_nil, Nat.reduceAdd, Nat.reduceSub, Array.replicate_succ, Array.replicate_zero, List.push_toArray, List.append_toArray, List.nil_append, List.cons_append]
  have hR := (callsIn_wide (n := 4)).2 (bits_Right.calls k A0 c0 l0 t w hr0 hc0 ht)
  cases t with
  | false =>
    rw [if_neg (by decide)] at h
    cases h
    gi_wp2_with (first | (gi_at_call 26; refine hR.mono ?_; rintro e w' ⟨rfl, ⟨m, rfl⟩⟩) | (refine ⟨trivial, ?_⟩; gi_at_call 26; refine hR.mono ?_; rintro e w' ⟨rfl, ⟨m, rfl⟩⟩))
    exact ⟨_, results_tmp2 rfl _ _ _, _, rfl, Kd.R_nil _ _ _ _ _, pw_below_drewN (Below.refl _ _) m⟩
  | true =>
    rw [if_pos rfl] at h
    by_cases hl : l0.length < 140737488355328
    · rw [if_pos hl] at h
      cases h
      gi_wp2_with (first | (gi_at_call 26; refine hR.mono ?_; rintro e w' ⟨rfl, ⟨m, rfl⟩⟩) | (refine ⟨trivial, ?_⟩; gi_at_call 26; refine hR.mono ?_; rintro e w' ⟨rfl, ⟨m, rfl⟩⟩))
      obtain ⟨w1, hw1⟩ : ∃ w1, w.drewN m = w1 := ⟨_, rfl⟩
      have hB1 : Below w.heap.size w w1 := by rw [← hw1]; exact pw_below_drewN (Below.refl _ _) m
      have hs1 : w1.heap.size = w.heap.size := by rw [← hw1]; rfl
      have hC1 := Kd.C_below hr0 hB1
      simp only [hw1, ← hs1]
      refine ⟨trivial, (chunk_in Fence.wide 4 trivial hro _ _ _ _).mono ?_⟩
      rintro e w2' ⟨rfl, rfl⟩
      gi_wp2
      obtain ⟨ad, hA⟩ : ∃ ad, 0 < l0.length → A0 = some ad := by
        by_cases hp : 0 < l0.length
        · obtain ⟨ad, ha, _⟩ := hC1.2.2 hp; exact ⟨ad, fun _ => ha⟩
        · exact ⟨⟨0, 0, none⟩, fun h => absurd h hp⟩
      have bO := Boxed.new w1 22 (.slice none 0 0)
      have bS := Boxed.new (w1.alloc (.cells #[.slice none 0 0] 22)) 22 (.slice A0 l0.length c0)
      have bN := Boxed.new ((w1.alloc (.cells #[.slice none 0 0] 22)).alloc (.cells #[.slice A0 l0.length c0] 22)) 3 (.int .i64 8)
      simp only [World.size_alloc] at bS bN
      have hB2 : Below w1.heap.size w1 (((w1.alloc (.cells #[.slice none 0 0] 22)).alloc (.cells #[.slice A0 l0.length c0] 22)).alloc (.cells #[.int .i64 8] 3)) :=
        (((Below.refl _ w1).alloc (Nat.le_refl _) _).alloc (by simp) _).alloc (by first | (simp; done) | (simp; omega)) _
      obtain ⟨i0, hi, hz0, hz1, hz2⟩ := info_parts bytes_info
      rw [← hs1]
      have HS := Aside0.mk hs1
      clear hs1
      refine wpIn_rangeFunc_ownG hro (by omega) (gf := 40) (lb := #[.pointer (some ⟨w1.heap.size + 1, 0, none⟩), .pointer (some ⟨w1.heap.size + 1 + 1, 0, none⟩)]) rfl trivial (enters_of Try.func40 (by kernel_rfl) rfl)
        (chunk_stops Fence.wide 4 trivial hro (by omega) (w1.heap.size + 1) (w1.heap.size + 1 + 1) w1.heap.size A0 ad l0.length c0 hA hl hc0 _ (by first | (simp; done) | (simp; omega)) (by simp) (bS.alloc _).cell bN.cell) keepsK_t (keepsK_b (by first | (simp; done) | (simp; omega)) (by first | (simp; done) | (simp; omega)) (by simp)) (Below.refl _ _) (fun _ => rfl)
        (fun pre W => (∃ v, Boxed W w1.heap.size 22 v ∧ W.ownsRow w1.heap.size 5 1 v pre.length (pre.map fun x => Value.int .u8 (byte l0 x.1)) ∧ True) ∧ Boxed W (w1.heap.size + 1) 22 (.slice A0 l0.length c0) ∧ Boxed W (w1.heap.size + 1 + 1) 3 (.int .i64 8) ∧ Below w1.heap.size w1 W)
        (fun _ _ _ => False)
        (OwnFrom.and (Own.from (holdsRow_own w1.heap.size w1.heap.size 22 5 1 (fun pre : List (Part l0.length) => pre.length) (fun pre : List (Part l0.length) => pre.map fun x => Value.int .u8 (byte l0 x.1)) (fun (pre : List (Part l0.length)) v => True)) _)
          (OwnFrom.and (Own.from (boxed_own _ _ (fun _ => _)) _) (OwnFrom.and (Own.from (boxed_own _ _ (fun _ => _)) _) (ownFrom_below (Nat.le_refl _) (by simp; omega)))))
        (fun _ _ _ _ _ hs _ _ => hs)
        ⟨⟨_, (bO.alloc _).alloc _, World.ownsRow_nil _ _ _ _, trivial⟩, bS.alloc _, bN, hB2⟩
        (fun x => { tmps := #[.slice A0 l0.length c0, undef, .slice none 0 0, .int .i64 0, .pointer (some ⟨w1.heap.size, 0, none⟩), partV ad l0.length x, undef, undef, undef, .slice A0 l0.length c0, .bool true, .bool false, .slice A0 l0.length c0,
          .func (.func 40) #[] #[.pointer (some ⟨w1.heap.size + 1, 0, none⟩), .pointer (some ⟨w1.heap.size + 1 + 1, 0, none⟩)], partV ad l0.length x, undef, undef, undef, undef, undef, undef, undef, undef, undef, undef, undef, undef, undef, undef, undef, undef, undef, undef, undef], defers := [] }) ?assign ?body ?done ?stop
      case assign =>
        intro l x W K hK
        gi_wp2
        exact hK
      case body =>
        rintro l pre x W ⟨⟨v, hv, hrow, _⟩, hbs, hbn, hB⟩ hlt
        have hcC := Kd.C_below hC1 hB
        obtain ⟨j, hj⟩ : ∃ j : Nat, min 8 (l0.length - 8 * x.1) = j := ⟨_, rfl⟩
        have hxl := x.2
        have hcell : ∀ i, i < j → W.cell? ((ad.add (8 * x.1)).add i) = some (.int .u8 (l0.getD (8 * x.1 + i) 0)) := by
          intro i hi
          have hlt8 : 8 * x.1 + i < l0.length := by omega
          obtain ⟨ad', ea, hcs⟩ := hcC.2.2 (by omega)
          obtain rfl : ad' = ad := by
            have := hA (by omega)
            rw [ea] at this
            exact Option.some.inj this
          obtain ⟨c, h1, h2, h3⟩ := hcs (8 * x.1 + i) _ (List.getElem?_eq_getElem hlt8)
          have h2' : c = [Value.int .u8 l0[8 * x.1 + i]] := h2
          subst h2'
          have h4 := h3 0 _ rfl
          rw [Addr.add_add, List.getD_eq_getElem?_getD, List.getElem?_eq_getElem hlt8]
          simpa [Kd.int, Kd.scalar] using h4
        simp only [partV, hj]
        gi_wp2
        gi_loop [6, 17] (fun c i => ∃ q : Nat, q ≤ j ∧ c = .int .u8 (byOf l0 x.1 q) ∧ i = .int .i64 q) (fun _ i => j - (intOf i).toNat)
        case atStart => exact ⟨0, by omega, rfl, rfl⟩
        case round =>
          obtain ⟨q, hq, rfl, rfl⟩ := hrel
          by_cases hqj : q < j
          · have hcq := hcell q hqj
            gi_wp2
            have hsh : shl .u8 (l0.getD (8 * x.1 + q) 0) (7 - (q : Int)) = l0[8 * x.1 + q]?.getD 0 * 2 ^ (7 - q) % 256 := by
              unfold shl
              rw [show min (7 - (q : Int)).toNat IntKind.u8.bits = 7 - q from by show min _ 8 = _; omega, List.getD_eq_getElem?_getD]
              rfl
            refine ⟨⟨q + 1, by omega, ?_, by simp⟩, by simp [intOf]; omega⟩
            show _ = Value.int .u8 (Go.bits .or .u8 _ (shl _ _ _))
            rw [hsh]
          · obtain rfl : q = j := by omega
            have hc := hv.cell
            have hbyte : byte l0 x.1 = byOf l0 x.1 q := by unfold byte; rw [hj]
            gi_wp2_with (gi_at_builtin; refine wpListIn_append_own _ rfl _ _ 22 rfl w1.heap.size 5 i0 (.int .u8 0) 1 1 Try.underlying22 hi hz0 hz1 hz2 rfl (by decide) _ _ _ rfl (hrow.alloc _) ⟨W.heap.size, 0, none⟩ 1 1 [.int .u8 (byOf l0 x.1 q)] rfl rfl (cell_one_new _ _ _) (by simp [Value.oneCell']) (by unfold maxLen; omega) (by omega) (by have := hB.size; simp; omega) ?_; intro v' w2 hown' hgrow _; obtain ⟨g', cap', rfl⟩ := ownsRow_succ hown'; obtain ⟨hv1, hv2, hr2, hk2, hb2⟩ := hv.appended (by decide) hrow hB.size (Nat.le_refl _) hown' hgrow; have hc1 := hv1.cell; have hf1 := hv1.frozen)
            have hbs' := ((hbs.alloc _).kept hgrow (hbs.not_row (by decide) hrow)).other (B' := w1.heap.size) (by omega)
            have hbn' := ((hbn.alloc _).kept hgrow (hbn.not_row (by decide) hrow)).other (B' := w1.heap.size) (by omega)
            exact ⟨hk2.from _, ⟨hb2, (hbs' _).trans hbs.symm, (hbn' _).trans hbn.symm⟩, ⟨_, hv2, by simpa [hbyte] using hr2⟩, hbs' _, hbn' _, hB.trans hb2⟩
      case done =>
        rintro D ys W hD hS ⟨⟨v, hv, hrow, _⟩, hbs, hbn, hB⟩ hK
        have hc := hv.cell
        gi_wp2
        refine ⟨by simp, .inl ⟨_, _, rfl, run_takeDeferred hK, ?_⟩⟩
        have hb' := hB.trans (belowK_b (w := w1) (Nat.le_refl _) W D _ (.deferred none) (by simp at hD; omega) hK rfl rfl)
        refine ⟨_, results_tmp2 rfl _ _ _, v, rfl, ⟨fun _ _ => trivial, _, ?_, reps_u8 _ _ _ ((List.range ((l0.length + 7) / 8)).map (byte l0))⟩, ?_⟩
        · have ho := ownsRow_putObj hrow (.deferred none) hK rfl
          rw [show (ys.map fun x => Value.int .u8 (byte l0 x.1)) = ((List.range ((l0.length + 7) / 8)).map (byte l0)).map (Value.int .u8) from by rw [← hS]; simp,
            show ys.length = ((List.range ((l0.length + 7) / 8)).map (byte l0)).length from by rw [← hS]; simp] at ho
          rw [HS.out] at ho
          exact ho
        · rw [HS.out] at hb'
          exact hB1.trans hb'
      case stop =>
        rintro D c pre W _ _ h _
        exact h.elim
    · rw [if_neg hl] at h; cases h

end Go.Proofs.Ytmajbcglpcagoaa.B
