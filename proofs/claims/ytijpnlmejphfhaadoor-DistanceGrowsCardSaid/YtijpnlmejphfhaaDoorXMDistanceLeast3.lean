/- Texts of this seat, one behind the other (merge.py): the walks of the functions that the law DistanceLeast uses, and plain words on what they come to. No condition. -/
import Derived.WideKeyArr
import Derived.WideKeyElems2
import Derived.ChangeSame
import Derived.Test.YtijpnlmejphfhaaDoorXMDistanceLeast2
-- YtijpnlmejphfhaaDoorPDDij
namespace Go.Proofs.YtijpnlmejphfhaaDoor.P
open Go Go.Proofs Go.RowKit Go.Proofs.YtijpnlmejphfhaaDoorW.PrintWords Go.Proofs.YtijpnlmejphfhaaDoorW.PrintLast Go.Proofs.YtijpnlmejphfhaaDoorW.PrintMore
set_option linter.unusedVariables false
set_option linter.unusedSimpArgs false

/-- A way put to the heap, unless its place is done. -/
def AddP (L L' : List Wy) (ps : List (Int × Int)) (x : Wy) : Prop := if (x.1, x.2.1) ∈ ps then L' = L else L'.Perm (L ++ [x])
/-- A place is done by then, or a way to it is left that is short enough. -/
def Cov (L : List Wy) (ps : List (Int × Int)) (D : Int × Int → Nat) (q : Int × Int) (b : Int) : Prop := (q ∈ ps ∧ (D q : Int) ≤ b) ∨ ∃ x, x ∈ L ∧ (x.1, x.2.1) = q ∧ x.2.2 ≤ b
structure DJ (W : Nat → Int) (L : List Wy) (ps : List (Int × Int)) (D : Int × Int → Nat) : Prop where
  way : ∀ x, x ∈ L → ∃ s t n : Nat, x = ((s : Int), (t : Int), (n : Int)) ∧ Way W s t n
  far : ∀ x, x ∈ L → x.2.2 ≤ 28 * ((ps.length : Int) + 1)
  fst : ∀ t, t < 4 → Cov L ps D (32, (nx t : Int)) (en W 0 1 t)
  edg : ∀ s t i : Nat, i < 2 → ((s : Int), (t : Int)) ∈ ps → Cov L ps D ((dst s i : Int), (nx t : Int)) ((D ((s : Int), (t : Int)) : Int) + en W s i t)
  mono : ∀ p, p ∈ ps → ∀ x, x ∈ L → (D p : Int) ≤ x.2.2
  nz : ∀ p, p ∈ ps → p.1 ≠ 0
  rng : ∀ p, p ∈ ps → ∃ s t : Nat, p = ((s : Int), (t : Int)) ∧ s < 64 ∧ t < 4
  nodup : ps.Nodup
  cnt : L.length + 3 * (256 - ps.length) ≤ 772
theorem cov_perm {L L' : List Wy} {ps : List (Int × Int)} {D : Int × Int → Nat} {q : Int × Int} {b : Int} (h : Cov L ps D q b) (hp : ∀ x, x ∈ L → x ∈ L') : Cov L' ps D q b := by
  rcases h with h | ⟨x, hx, h⟩
  · exact .inl h
  · exact .inr ⟨x, hp x hx, h⟩
theorem DJ.le {W : Nat → Int} {L : List Wy} {ps : List (Int × Int)} {D : Int × Int → Nat} (h : DJ W L ps D) : ps.length ≤ 256 := by
  have hs : ∀ p, p ∈ ps → p ∈ (List.range 64).flatMap fun s => (List.range 4).map fun t => (((s : Nat) : Int), ((t : Nat) : Int)) := by
    intro p hp
    obtain ⟨s, t, rfl, hs, ht⟩ := h.rng p hp
    exact List.mem_flatMap.2 ⟨s, List.mem_range.2 hs, List.mem_map.2 ⟨t, List.mem_range.2 ht, rfl⟩⟩
  have h1 := h.nodup.length_le_of_subset (l₂ := (List.range 64).flatMap fun s => (List.range 4).map fun t => (((s : Nat) : Int), ((t : Nat) : Int))) (fun p hp => hs p hp)
  have h2 : ((List.range 64).flatMap fun s => (List.range 4).map fun t => (((s : Nat) : Int), ((t : Nat) : Int))).length = 256 := by decide +kernel
  omega
/-- Every way's end is done, or a way that is left is shorter. -/
theorem DJ.cover {W : Nat → Int} {L : List Wy} {ps : List (Int × Int)} {D : Int × Int → Nat} (h : DJ W L ps D) {s t x : Nat} (hw : Way W s t x) : (((s : Int), (t : Int)) ∈ ps ∧ D ((s : Int), (t : Int)) ≤ x) ∨ ∃ y, y ∈ L ∧ y.2.2 ≤ (x : Int) := by
  induction hw with
  | first t ht =>
    rcases h.fst t ht with ⟨h1, h2⟩ | ⟨y, h1, _, h3⟩
    · exact .inl ⟨h1, by exact_mod_cast h2⟩
    · exact .inr ⟨y, h1, h3⟩
  | next s t x i hw hs hi ih =>
    rcases ih with ⟨h1, h2⟩ | ⟨y, h1, h2⟩
    · rcases h.edg s t i hi h1 with ⟨h3, h4⟩ | ⟨y, h3, _, h5⟩
      · exact .inl ⟨h3, by have : D ((dst s i : Int), (nx t : Int)) ≤ D ((s : Int), (t : Int)) + en W s i t := by exact_mod_cast h4
                           omega⟩
      · exact .inr ⟨y, h3, by rw [Int.natCast_add]; omega⟩
    · exact .inr ⟨y, h1, by rw [Int.natCast_add]; omega⟩
/-- The heap is never empty. -/
theorem DJ.some {W : Nat → Int} (hW : ∀ v, v < 4 → 0 ≤ W v ∧ W v ≤ 7) {L : List Wy} {ps : List (Int × Int)} {D : Int × Int → Nat} (h : DJ W L ps D) : 0 < L.length := by
  obtain ⟨t, x, hw, _⟩ := some_way W hW
  rcases h.cover hw with ⟨h1, _⟩ | ⟨y, h1, _⟩
  · exact absurd rfl (h.nz _ h1)
  · exact List.length_pos_of_mem h1
/-- The first at state 0 is the least. -/
theorem DJ.least {W : Nat → Int} {L : List Wy} {ps : List (Int × Int)} {D : Int × Int → Nat} (h : DJ W L ps D) {s t n : Nat} (hx : ((s : Int), (t : Int), (n : Int)) ∈ L) (hm : ∀ y, y ∈ L → (n : Int) ≤ y.2.2) (hs : s = 0) : IsLeast W n := by
  subst hs
  obtain ⟨s', t', n', e, hw⟩ := h.way _ hx
  have e1 : s' = 0 := by have := congrArg Prod.fst e; simp at this; omega
  have e2 : n' = n := by have := congrArg (fun z : Wy => z.2.2) e; simp at this; omega
  subst e1; subst e2
  refine ⟨⟨t', hw⟩, fun t2 x hw2 => ?_⟩
  rcases h.cover hw2 with ⟨h1, _⟩ | ⟨y, h1, h2⟩
  · exact absurd rfl (h.nz _ h1)
  · have := hm y h1
    omega
/-- A place that is done already. -/
theorem DJ.again {W : Nat → Int} {L L1 : List Wy} {ps : List (Int × Int)} {D : Int × Int → Nat} {x : Wy} (h : DJ W L ps D) (hp : (x :: L1).Perm L) (hd : (x.1, x.2.1) ∈ ps) : DJ W L1 ps D := by
  have hx : x ∈ L := hp.mem_iff.1 List.mem_cons_self
  have hsub : ∀ y, y ∈ L1 → y ∈ L := fun y hy => hp.mem_iff.1 (List.mem_cons_of_mem _ hy)
  have hc : ∀ q b, Cov L ps D q b → Cov L1 ps D q b := by
    intro q b hq
    rcases hq with hq | ⟨y, hy, h1, h2⟩
    · exact .inl hq
    · rcases List.mem_cons.1 (hp.mem_iff.2 hy) with e | e
      · subst e
        exact .inl ⟨h1 ▸ hd, Int.le_trans (h.mono q (h1 ▸ hd) y hx) h2⟩
      · exact .inr ⟨y, e, h1, h2⟩
  have hl := hp.length_eq
  rw [List.length_cons] at hl
  exact ⟨fun y hy => h.way y (hsub y hy), fun y hy => h.far y (hsub y hy), fun t ht => hc _ _ (h.fst t ht), fun s t i hi hm => hc _ _ (h.edg s t i hi hm), fun p hp' y hy => h.mono p hp' y (hsub y hy), h.nz, h.rng, h.nodup, by have := h.cnt; omega⟩
theorem add_sub {L L' : List Wy} {ps : List (Int × Int)} {x : Wy} (h : AddP L L' ps x) : (∀ y, y ∈ L → y ∈ L') ∧ (∀ y, y ∈ L' → y ∈ L ∨ (y = x ∧ (x.1, x.2.1) ∉ ps)) ∧ L'.length ≤ L.length + 1 ∧ ((x.1, x.2.1) ∈ ps ∨ x ∈ L') := by
  unfold AddP at h
  split at h
  · rename_i hin
    subst h
    exact ⟨fun _ hy => hy, fun _ hy => .inl hy, by omega, .inl hin⟩
  · rename_i hin
    refine ⟨fun y hy => h.mem_iff.2 (List.mem_append_left _ hy), fun y hy => ?_, by rw [h.length_eq, List.length_append]; simp, .inr (h.mem_iff.2 (by simp))⟩
    rcases List.mem_append.1 (h.mem_iff.1 hy) with e | e
    · exact .inl e
    · exact .inr ⟨by simpa using e, hin⟩
/-- A place that is new: its edges are looked at. -/
theorem DJ.next {W : Nat → Int} (hW : ∀ v, v < 4 → 0 ≤ W v ∧ W v ≤ 7) {L L1 L2 L3 : List Wy} {ps : List (Int × Int)} {D : Int × Int → Nat} {s t n : Nat} (h : DJ W L ps D) (hp : (((s : Int), (t : Int), (n : Int)) :: L1).Perm L)
    (hm : ∀ y, y ∈ L → (n : Int) ≤ y.2.2) (hs : s ≠ 0) (hd : ((s : Int), (t : Int)) ∉ ps)
    (h2 : AddP L1 L2 (ps ++ [((s : Int), (t : Int))]) ((dst s 0 : Int), (nx t : Int), (n : Int) + en W s 0 t)) (h3 : AddP L2 L3 (ps ++ [((s : Int), (t : Int))]) ((dst s 1 : Int), (nx t : Int), (n : Int) + en W s 1 t)) :
    DJ W L3 (ps ++ [((s : Int), (t : Int))]) (fun p => if p = ((s : Int), (t : Int)) then n else D p) := by
  have hx : ((s : Int), (t : Int), (n : Int)) ∈ L := hp.mem_iff.1 List.mem_cons_self
  obtain ⟨s', t', n', e, hw⟩ := h.way _ hx
  have e1 : s' = s := by have := congrArg Prod.fst e; simp at this; omega
  have e2 : t' = t := by have := congrArg (fun z : Wy => z.2.1) e; simp at this; omega
  have e3 : n' = n := by have := congrArg (fun z : Wy => z.2.2) e; simp at this; omega
  subst e1; subst e2; subst e3
  have hw0 := Way.next s' t' n' 0 hw hs (by decide)
  have hw1 := Way.next s' t' n' 1 hw hs (by decide)
  have hlt := hw.lt
  have l0 := en_le hW s' 0 t'
  have l1 := en_le hW s' 1 t'
  obtain ⟨a1, a2, a3, a4⟩ := add_sub h2
  obtain ⟨b1, b2, b3, b4⟩ := add_sub h3
  have hsub : ∀ y, y ∈ L1 → y ∈ L := fun y hy => hp.mem_iff.1 (List.mem_cons_of_mem _ hy)
  have hall : ∀ y, y ∈ L3 → y ∈ L ∨ y = ((dst s' 0 : Int), (nx t' : Int), (n' : Int) + en W s' 0 t') ∨ y = ((dst s' 1 : Int), (nx t' : Int), (n' : Int) + en W s' 1 t') := by
    intro y hy
    rcases b2 y hy with e | ⟨e, _⟩
    · rcases a2 y e with e | ⟨e, _⟩
      · exact .inl (hsub y e)
      · exact .inr (.inl e)
    · exact .inr (.inr e)
  have hnew : ((s' : Int), (t' : Int)) ∈ ps ++ [((s' : Int), (t' : Int))] := by simp
  have hxf := h.far _ hx
  have hxf : (n' : Int) ≤ 28 * ((ps.length : Int) + 1) := hxf
  have hDle : ∀ p, p ∈ ps ++ [((s' : Int), (t' : Int))] → (((if p = ((s' : Int), (t' : Int)) then n' else D p) : Nat) : Int) ≤ n' := by
    intro p hp'
    by_cases e : p = ((s' : Int), (t' : Int))
    · rw [if_pos e]; omega
    · rw [if_neg e]
      rcases List.mem_append.1 hp' with e2 | e2
      · exact h.mono p e2 _ hx
      · exact absurd (by simpa using e2) e
  have hc : ∀ q b, Cov L ps D q b → Cov L3 (ps ++ [((s' : Int), (t' : Int))]) (fun p => if p = ((s' : Int), (t' : Int)) then n' else D p) q b := by
    intro q b hq
    rcases hq with ⟨h4, h5⟩ | ⟨y, hy, h4, h5⟩
    · refine .inl ⟨List.mem_append_left _ h4, ?_⟩
      show (((if q = ((s' : Int), (t' : Int)) then n' else D q) : Nat) : Int) ≤ b
      rw [if_neg (fun e => hd (by rw [← e]; exact h4))]; exact h5
    · rcases List.mem_cons.1 (hp.mem_iff.2 hy) with e | e
      · subst e
        refine .inl ⟨by rw [← h4]; exact hnew, ?_⟩
        show (((if q = ((s' : Int), (t' : Int)) then n' else D q) : Nat) : Int) ≤ b
        rw [if_pos h4.symm]; exact h5
      · exact .inr ⟨y, b1 y (a1 y e), h4, h5⟩
  have hl := hp.length_eq
  rw [List.length_cons] at hl
  have hple := h.le
  have hlen : (ps ++ [((s' : Int), (t' : Int))]).length = ps.length + 1 := by simp
  have hnd : (ps ++ [((s' : Int), (t' : Int))]).Nodup := by
    rw [List.nodup_append]
    refine ⟨h.nodup, by simp, fun x hx y hy e => ?_⟩
    rw [List.mem_singleton] at hy
    exact hd (by rw [← hy, ← e]; exact hx)
  have hrng : ∀ p, p ∈ ps ++ [((s' : Int), (t' : Int))] → ∃ s t : Nat, p = ((s : Int), (t : Int)) ∧ s < 64 ∧ t < 4 := by
    intro p hp'
    rcases List.mem_append.1 hp' with e | e
    · exact h.rng p e
    · exact ⟨s', t', by simpa using e, hlt.1, hlt.2⟩
  have hcnt := h.cnt
  have hlt256 : ps.length < 256 := by
    have hs : ∀ p, p ∈ ps ++ [((s' : Int), (t' : Int))] → p ∈ (List.range 64).flatMap fun s => (List.range 4).map fun t => (((s : Nat) : Int), ((t : Nat) : Int)) := by
      intro p hp
      obtain ⟨s, t, rfl, hs, ht⟩ := hrng p hp
      exact List.mem_flatMap.2 ⟨s, List.mem_range.2 hs, List.mem_map.2 ⟨t, List.mem_range.2 ht, rfl⟩⟩
    have q1 := hnd.length_le_of_subset (l₂ := (List.range 64).flatMap fun s => (List.range 4).map fun t => (((s : Nat) : Int), ((t : Nat) : Int))) (fun p hp => hs p hp)
    have q2 : ((List.range 64).flatMap fun s => (List.range 4).map fun t => (((s : Nat) : Int), ((t : Nat) : Int))).length = 256 := by decide +kernel
    omega
  refine ⟨fun y hy => ?_, fun y hy => ?_, fun t ht => hc _ _ (h.fst t ht), fun s t i hi hm' => ?_, fun p hp' y hy => ?_, fun p hp' => ?_, hrng, hnd, by omega⟩
  · rcases hall y hy with e | rfl | rfl
    · exact h.way y e
    · exact ⟨_, _, _, by rw [Int.natCast_add], hw0⟩
    · exact ⟨_, _, _, by rw [Int.natCast_add], hw1⟩
  · rw [hlen, Int.natCast_add]
    rcases hall y hy with e | rfl | rfl
    · have := h.far y e; omega
    · show (n' : Int) + en W s' 0 t' ≤ _; omega
    · show (n' : Int) + en W s' 1 t' ≤ _; omega
  · by_cases e : ((s : Int), (t : Int)) = ((s' : Int), (t' : Int))
    · have e1 : s = s' := by have := congrArg Prod.fst e; simp at this; omega
      have e2 : t = t' := by have := congrArg Prod.snd e; simp at this; omega
      subst e1; subst e2
      have hb : ∀ i, i < 2 → ((dst s i : Int), (nx t : Int)) ∈ ps ++ [((s : Int), (t : Int))] ∨ ((dst s i : Int), (nx t : Int), (n' : Int) + en W s i t) ∈ L3 := by
        intro i hi
        obtain rfl | rfl : i = 0 ∨ i = 1 := by omega
        · rcases a4 with q | q
          · exact .inl q
          · exact .inr (b1 _ q)
        · exact b4
      rcases hb i hi with q | q
      · exact .inl ⟨q, Int.le_trans (hDle _ q) (by show (n' : Int) ≤ (((if ((s : Int), (t : Int)) = ((s : Int), (t : Int)) then n' else D ((s : Int), (t : Int))) : Nat) : Int) + en W s i t; rw [if_pos rfl]; omega)⟩
      · exact .inr ⟨_, q, rfl, by show (n' : Int) + en W s i t ≤ (((if ((s : Int), (t : Int)) = ((s : Int), (t : Int)) then n' else D ((s : Int), (t : Int))) : Nat) : Int) + en W s i t; rw [if_pos rfl]; omega⟩
    · have hm2 : ((s : Int), (t : Int)) ∈ ps := by
        rcases List.mem_append.1 hm' with q | q
        · exact q
        · exact absurd (by simpa using q) e
      have := hc _ _ (h.edg s t i hi hm2)
      show Cov L3 _ _ _ ((((if ((s : Int), (t : Int)) = ((s' : Int), (t' : Int)) then n' else D ((s : Int), (t : Int))) : Nat) : Int) + en W s i t)
      rw [if_neg e]
      exact this
  · refine Int.le_trans (hDle p hp') ?_
    rcases hall y hy with e | rfl | rfl
    · exact hm y e
    · show (n' : Int) ≤ (n' : Int) + en W s' 0 t'; omega
    · show (n' : Int) ≤ (n' : Int) + en W s' 1 t'; omega
  · rcases List.mem_append.1 hp' with q | q
    · exact h.nz p q
    · rw [List.mem_singleton] at q
      subst q
      show (s' : Int) ≠ 0
      omega
end Go.Proofs.YtijpnlmejphfhaaDoor.P

-- YtijpnlmejphfhaaDoorPDAdd
namespace Go.Proofs.YtijpnlmejphfhaaDoor.P
open Go Go.Proofs Go.RowKit Go.Proofs.YtijpnlmejphfhaaDoorW.PrintWords Go.Proofs.YtijpnlmejphfhaaDoorW.PrintLast Go.Proofs.YtijpnlmejphfhaaDoorW.PrintMore
set_option linter.unusedVariables false
set_option linter.unusedSimpArgs false

/-- The search at block g: its heap of ways, its map of places (block m). -/
structure DS (w : World) (n₀ g m : Nat) (a b c d : Int) (v : Value) (L : List Wy) (ps : List (Int × Int)) : Prop where
  hs : HS w n₀ g a b c d (.map (some m)) v L
  map : MapIs w m ps
  mlow : n₀ ≤ m
  heap : HeapN L L.length
variable {w w' : World} {n₀ g m : Nat} {a b c d : Int} {v v' : Value} {L L' : List Wy} {ps ps' : List (Int × Int)}
theorem DS.mlt (h : DS w n₀ g m a b c d v L ps) : m < w.heap.size := by
  obtain ⟨es, cl, hb, _⟩ := h.map
  exact blk_lt hb
theorem MapIs.of_block (h : MapIs w m ps) (hb : w'.heap[m]? = w.heap[m]?) : MapIs w' m ps := by
  obtain ⟨es, cl, h1, h2⟩ := h
  exact ⟨es, cl, hb.trans h1, h2⟩
theorem DS.below (h : DS w n₀ g m a b c d v L ps) (hb : Below w.heap.size w w') : DS w' n₀ g m a b c d v L ps :=
  ⟨h.hs.below hb, h.map.of_block (hb.block m h.mlt), h.mlow, h.heap⟩
theorem DS.mne (h : DS w n₀ g m a b c d v L ps) : m ≠ g ∧ some m ≠ v.ownBlock := by
  obtain ⟨es, cl, hb, _⟩ := h.map
  refine ⟨fun e => ?_, fun e => ?_⟩
  · have := h.hs.blk
    rw [← e, hb] at this
    cases this
  · obtain ⟨inner, ho⟩ := Kd.R_own h.hs.row
    obtain ⟨cells, hc⟩ := own_typed ho m e.symm
    rw [hb] at hc
    cases hc
theorem DS.cells (h : DS w n₀ g m a b c d v L ps) : ∀ q, q < 4 → w.cell? ⟨g, q, none⟩ = some (.int .i64 (wOf a b c d q)) := by
  intro q hq
  obtain rfl | rfl | rfl | rfl : q = 0 ∨ q = 1 ∨ q = 2 ∨ q = 3 := by omega
  · exact blk_cell h.hs.blk 0
  · exact blk_cell h.hs.blk 1
  · exact blk_cell h.hs.blk 2
  · exact blk_cell h.hs.blk 3
theorem nx_l (t : Nat) : (nx t : Int) < 4 := by have := nx_lt t; omega
theorem nat4 {t : Nat} (h : t < 4) : (t : Int) < 4 := by omega
def add2.T : Bool × List (List Nat × List Nat) := (true, [([], []), ([0], [0]), ([1], [1]), ([2], [2]), ([], []), ([3, 4], [3, 4]), ([5], [5])])
def add2.B : List Nat := [0, 1, 3, 7, 0, 31, 63]
theorem add2.tab : rtab .any (opsOf Tryd.f44 2) = add2.T := by kernel_rfl
theorem add2.bits : waitsOk add2.T.2 add2.B = true := by kernel_rfl
def add3.T : Bool × List (List Nat × List Nat) := (true, [([], []), ([0], [0]), ([1], [1]), ([2], [2]), ([], []), ([], []), ([], []), ([], []), ([], []), ([6, 7, 8], [6, 7, 8]), ([5, 9], [5, 9]), ([4, 10], [4, 10]), ([11], [11]), ([3, 12, 9], [3, 12])])
def add3.B : List Nat := [0, 1, 3, 7, 0, 0, 0, 0, 0, 448, 992, 2032, 4080, 8191]
theorem add3.tab : rtab .any (opsOf Tryd.f44 3) = add3.T := by kernel_rfl
theorem add3.bits : waitsOk add3.T.2 add3.B = true := by kernel_rfl
set_option maxRecDepth 100000 in
set_option maxHeartbeats 8000000 in
theorem add_way {s i t : Nat} (h : DS w n₀ g m a b c d v L ps) (hn : n₀ ≤ w.heap.size) (hW : ∀ q, q < 4 → 0 ≤ wOf a b c d q ∧ wOf a b c d q ≤ 7) (fr dt ii : Int) (ht : t < 4) (far : Int) (hf : 0 ≤ far ∧ far ≤ 100000000) (hl : L.length < 2000) :
    Calls Tryd.prog 44 #[.pointer (some ⟨g, 0, none⟩), .agg #[.int .i64 fr, .int .i64 dt, .int .u8 ii, .int .u8 (ob s i 0), .int .u8 (ob s i 1), .int .u8 (ob s i 2), .int .u8 (ob s i 3)], .int .i64 (t : Int), .int .i64 far] w fun e w' =>
      e = .returned (.tuple #[]) ∧ ∃ v' L', DS w' n₀ g m a b c d v' L' ps ∧ Fr g v w w' ∧ Newer w v v' ∧ AddP L L' ps (dt, (nx t : Int), far + ew (wOf a b c d) s i t) := by
  have HD := Aside0.mk h
  have HW := Aside0.mk hW
  have HN := Aside0.mk hn
  have HF := Aside0.mk hf
  have HLL := Aside0.mk hl
  obtain ⟨o0, ho0⟩ : ∃ o0, o0 = ob s i 0 := ⟨_, rfl⟩
  obtain ⟨o1, ho1⟩ : ∃ o1, o1 = ob s i 1 := ⟨_, rfl⟩
  obtain ⟨o2, ho2⟩ : ∃ o2, o2 = ob s i 2 := ⟨_, rfl⟩
  obtain ⟨o3, ho3⟩ : ∃ o3, o3 = ob s i 3 := ⟨_, rfl⟩
  rw [← ho0, ← ho1, ← ho2, ← ho3]
  have HO := Aside0.mk (And.intro ho0 (And.intro ho1 (And.intro ho2 ho3)))
  have hu1 := nx_e t
  have hu2 := nx_t t
  have hu4 := nx_w t ht
  have hu3 := nx_l t
  obtain ⟨u, hu⟩ : ∃ u, u = nx t := ⟨_, rfl⟩
  rw [← hu] at hu1 hu2 hu3 hu4 ⊢
  have ht4 := nat4 ht
  clear h hn hW hf hl ho0 ho1 ho2 ho3 hu
  go_enter Tryd.func44, Tryd.ntmps44
  go_wp2_with fail
  have hba := below_alloc (Below.refl w.heap.size w) (.cells #[.int .i64 fr, .int .i64 dt, .int .u8 ii, .int .u8 o0, .int .u8 o1, .int .u8 o2, .int .u8 o3] 77)
  have hbb := blk_new w (.cells #[.int .i64 fr, .int .i64 dt, .int .u8 ii, .int .u8 o0, .int .u8 o1, .int .u8 o2, .int .u8 o3] 77)
  obtain ⟨w1, hw1⟩ : ∃ w1, w1 = w.alloc (.cells #[.int .i64 fr, .int .i64 dt, .int .u8 ii, .int .u8 o0, .int .u8 o1, .int .u8 o2, .int .u8 o3] 77) := ⟨_, rfl⟩
  have hz1 : w1.heap.size = w.heap.size + 1 := by rw [hw1, World.size_alloc]
  rw [← hw1] at hba hbb
  rw [← hw1, ← hz1]
  have hba2 := below_alloc (Below.refl w1.heap.size w1) (.cells #[.int .i64 dt, .int .i64 (u : Int)] 86)
  have hbb2 := blk_new w1 (.cells #[.int .i64 dt, .int .i64 (u : Int)] 86)
  obtain ⟨w2, hw2⟩ : ∃ w2, w2 = w1.alloc (.cells #[.int .i64 dt, .int .i64 (u : Int)] 86) := ⟨_, rfl⟩
  obtain ⟨E, hE⟩ : ∃ E, E = w.heap.size := ⟨_, rfl⟩
  obtain ⟨T, hT⟩ : ∃ T, T = w1.heap.size := ⟨_, rfl⟩
  have hEl : E < w1.heap.size := by rw [hE, hz1]; exact Nat.lt_succ_self _
  rw [← hw2] at hba2 hbb2
  rw [← hE] at hbb
  rw [← hT] at hbb2
  rw [← hw2, ← hE, ← hT]
  have HE := Aside0.mk (show w2.drew.heap[E]? = some (.cells #[.int .i64 fr, .int .i64 dt, .int .u8 ii, .int .u8 o0, .int .u8 o1, .int .u8 o2, .int .u8 o3] 77 (0, 0)) from (hba2.block E hEl).trans hbb)
  have HT := Aside0.mk (show w2.drew.heap[T]? = some (.cells #[.int .i64 dt, .int .i64 (u : Int)] 86 (0, 0)) from hbb2)
  have HB := Aside0.mk (show Below w.heap.size w w2.drew from below_drew1 (below_step hba hba2))
  have HD2 := Aside0.mk (HD.out.below HB.out)
  have HS := Aside0.mk (show w2.drew.cell? ⟨g, 5, none⟩ = some (.map (some m)) ∧ w2.drew.cell? ⟨T, 0, none⟩ = some (.int .i64 dt) ∧ w2.drew.cell? ⟨T, 1, none⟩ = some (.int .i64 (u : Int)) ∧ MapIs w2.drew m ps from
    ⟨blk_cell HD2.out.hs.blk 5, blk_cell HT.out 0, blk_cell HT.out 1, HD2.out.map⟩)
  clear hba hbb hw1 hz1 hba2 hbb2 hw2 hE hT hEl
  refine start_ (n := 7) (S := (fun w' => w'.cell? ⟨g, 5, none⟩ = some (.map (some m)) ∧ w'.cell? ⟨T, 0, none⟩ = some (.int .i64 dt) ∧ w'.cell? ⟨T, 1, none⟩ = some (.int .i64 (u : Int)) ∧ MapIs w' m ps)) (ds := []) #[false, false, false, false, false, false, false] (by kernel_rfl) rfl rfl HS.out (fun hHeld => ?_)
  refine with_tabW add2.tab add2.bits (fun HT_ HW_ => ?_)
  refine pure_ (i := 0) (N := some 15) (v := ?_) (a' := ?_) #[true, false, false, false, false, false, false] rfl rfl (any_of HT_.out (by kernel_rfl)) (fun _ _ _ h => h) (Or.inl ⟨by rfl, ?_⟩) ?_ ?_
  rotate_left
  · intro w'
    go_simp
    with_reducible rfl
  rotate_left
  · simp only [Act.put, List.setIfInBounds_toArray, List.set_cons_zero, List.set_cons_succ, i64_w, i32_w]
    rfl
  refine pure_ (i := 1) (N := some 16) (v := ?_) (a' := ?_) #[true, true, false, false, false, false, false] rfl rfl (any_of HT_.out (by kernel_rfl)) (fun _ _ _ h => h) (Or.inl ⟨by rfl, ?_⟩) ?_ ?_
  rotate_left
  · intro w'
    go_simp
    with_reducible rfl
  rotate_left
  · simp only [Act.put, List.setIfInBounds_toArray, List.set_cons_zero, List.set_cons_succ, i64_w, i32_w]
    rfl
  refine pure_ (i := 2) (N := some 17) (v := ?_) (a' := ?_) #[true, true, true, false, false, false, false] rfl rfl (any_of HT_.out (by kernel_rfl)) (fun _ _ _ h => h) (Or.inl ⟨by rfl, ?_⟩) ?_ ?_
  rotate_left
  · intro w'
    go_simp
    with_reducible rfl
  rotate_left
  · simp only [Act.put, List.setIfInBounds_toArray, List.set_cons_zero, List.set_cons_succ, i64_w, i32_w]
    rfl
  refine take_ (i := 3) (N := some 18) (v := ?_) (a' := ?_) #[true, true, true, true, false, false, false] rfl rfl (take_ofW HT_.out HW_.out (by kernel_rfl)) (fun _ _ _ h => h) (Or.inl ⟨by rfl, ?_⟩) hHeld ?_ ?_
  rotate_left
  · rintro w' ⟨s0, s1, s2, s3⟩
    go_simp
    with_reducible rfl
  rotate_left
  · simp only [Act.put, List.setIfInBounds_toArray, List.set_cons_zero, List.set_cons_succ, i64_w, i32_w]
    rfl
  refine take_ (i := 4) (N := some 19) (v := ?_) (a' := ?_) #[true, true, true, true, true, false, false] rfl rfl (take_ofW HT_.out HW_.out (by kernel_rfl)) (fun _ _ _ h => h) (Or.inl ⟨by rfl, ?_⟩) hHeld ?_ ?_
  rotate_left
  · rintro w' ⟨s0, s1, s2, s3⟩
    go_simp
    with_reducible rfl
  rotate_left
  · simp only [Act.put, List.setIfInBounds_toArray, List.set_cons_zero, List.set_cons_succ, i64_w, i32_w]
    rfl
  refine take_ (i := 5) (N := some 20) (v := ?_) (a' := ?_) #[true, true, true, true, true, true, false] rfl rfl (take_ofW HT_.out HW_.out (by kernel_rfl)) (fun _ _ _ h => h) (Or.inl ⟨by rfl, ?_⟩) hHeld ?_ ?_
  rotate_left
  · rintro w' ⟨s0, s1, s2, s3⟩
    have hl := look_run s3 dt (u : Int); unfold plK at hl; go_simp; with_reducible rfl
  rotate_left
  · simp only [Act.put, List.setIfInBounds_toArray, List.set_cons_zero, List.set_cons_succ, i64_w, i32_w]
    rfl
  refine pure_ (i := 6) (N := some 21) (v := ?_) (a' := ?_) #[true, true, true, true, true, true, true] rfl rfl (any_of HT_.out (by kernel_rfl)) (fun _ _ _ h => h) (Or.inl ⟨by rfl, ?_⟩) ?_ ?_
  rotate_left
  · intro w'
    go_simp
    with_reducible rfl
  rotate_left
  · simp only [Act.put, List.setIfInBounds_toArray, List.set_cons_zero, List.set_cons_succ, i64_w, i32_w]
    rfl
  refine done_ (done_of HT_.out (by kernel_rfl)) ?_
  clear hHeld
  by_cases hin : (dt, (u : Int)) ∈ ps
  · rw [decide_eq_true hin]
    have HIN := Aside0.mk hin
    clear hin
    go_wp2_with fail
    refine bodyPost_end (results_none rfl _ _ _) rfl ?_
    exact ⟨by simp, v, L, HD2.out, Fr.of_below HB.out, Newer.refl _ _, by unfold AddP; rw [if_pos HIN.out]⟩
  · rw [decide_eq_false hin]
    have HIN := Aside0.mk hin
    clear hin HS
    go_wp2_with fail
    have hwe := dweigh_calls (w := w2.drew.drew) (g := g) (W := wOf a b c d) (HD2.out.below (below_drew1 (Below.refl _ _))).hs.lt (HD2.out.below (below_drew1 (Below.refl _ _))).cells HW.out fr dt ii o0 o1 o2 o3 (by rw [HO.out.1, HO.out.2.1, HO.out.2.2.1, HO.out.2.2.2]; exact o4_ob s i) t (by omega)
    have hewe : wsum (wOf a b c d) (o4 o0 o1 o2 o3) t 4 = ew (wOf a b c d) s i t := by rw [HO.out.1, HO.out.2.1, HO.out.2.2.1, HO.out.2.2.2]; rfl
    rw [hewe] at hwe
    have hxb := ew_in HW.out s i t
    obtain ⟨x, hx⟩ : ∃ x, x = ew (wOf a b c d) s i t := ⟨_, rfl⟩
    rw [← hx] at hwe hxb
    have hwf : wrap64 (far + x) = far + x := wrap_small (by have := HF.out; omega) (by have := HF.out; omega)
    have HX := Aside0.mk hx
    have HWE := Aside0.mk hwe
    have hD3 := HD2.out.below (below_drew1 (Below.refl w2.drew.heap.size w2.drew))
    have hE3 : w2.drew.drew.heap[E]? = some (.cells #[.int .i64 fr, .int .i64 dt, .int .u8 ii, .int .u8 o0, .int .u8 o1, .int .u8 o2, .int .u8 o3] 77 (0, 0)) := HE.out
    have hT3 : w2.drew.drew.heap[T]? = some (.cells #[.int .i64 dt, .int .i64 (u : Int)] 86 (0, 0)) := HT.out
    have HD3 := Aside0.mk hD3
    have HBK := Aside0.mk (And.intro hE3 hT3)
    have HB3 := Aside0.mk (below_drew1 HB.out)
    have HS3 := Aside0.mk (show w2.drew.drew.cell? ⟨T, 0, none⟩ = some (.int .i64 dt) ∧ w2.drew.drew.cell? ⟨T, 1, none⟩ = some (.int .i64 (u : Int)) ∧ w2.drew.drew.cell? ⟨E, 0, none⟩ = some (.int .i64 fr) ∧ w2.drew.drew.cell? ⟨E, 1, none⟩ = some (.int .i64 dt) ∧ w2.drew.drew.cell? ⟨E, 2, none⟩ = some (.int .u8 ii) ∧ w2.drew.drew.cell? ⟨E, 3, none⟩ = some (.int .u8 o0) ∧ w2.drew.drew.cell? ⟨E, 4, none⟩ = some (.int .u8 o1) ∧ w2.drew.drew.cell? ⟨E, 5, none⟩ = some (.int .u8 o2) ∧ w2.drew.drew.cell? ⟨E, 6, none⟩ = some (.int .u8 o3) from
      ⟨blk_cell hT3 0, blk_cell hT3 1, blk_cell hE3 0, blk_cell hE3 1, blk_cell hE3 2, blk_cell hE3 3, blk_cell hE3 4, blk_cell hE3 5, blk_cell hE3 6⟩)
    clear hwe hewe hxb hx hD3 hE3 hT3
    refine start_ (n := 14) (S := (fun w' => w'.cell? ⟨T, 0, none⟩ = some (.int .i64 dt) ∧ w'.cell? ⟨T, 1, none⟩ = some (.int .i64 (u : Int)) ∧ w'.cell? ⟨E, 0, none⟩ = some (.int .i64 fr) ∧ w'.cell? ⟨E, 1, none⟩ = some (.int .i64 dt) ∧ w'.cell? ⟨E, 2, none⟩ = some (.int .u8 ii) ∧ w'.cell? ⟨E, 3, none⟩ = some (.int .u8 o0) ∧ w'.cell? ⟨E, 4, none⟩ = some (.int .u8 o1) ∧ w'.cell? ⟨E, 5, none⟩ = some (.int .u8 o2) ∧ w'.cell? ⟨E, 6, none⟩ = some (.int .u8 o3))) (ds := [13]) #[false, false, false, false, false, false, false, false, false, false, false, false, false, false] (by kernel_rfl) rfl rfl HS3.out (fun hHeld => ?_)
    refine with_tabW add3.tab add3.bits (fun HT_ HW_ => ?_)
    refine pure_ (i := 0) (N := some 22) (v := ?_) (a' := ?_) #[true, false, false, false, false, false, false, false, false, false, false, false, false, false] rfl rfl (any_of HT_.out (by kernel_rfl)) (fun _ _ _ h => h) (Or.inl ⟨by rfl, ?_⟩) ?_ ?_
    rotate_left
    · intro w'
      go_simp
      with_reducible rfl
    rotate_left
    · simp only [Act.put, List.setIfInBounds_toArray, List.set_cons_zero, List.set_cons_succ, i64_w, i32_w]
      rfl
    refine pure_ (i := 1) (N := some 23) (v := ?_) (a' := ?_) #[true, true, false, false, false, false, false, false, false, false, false, false, false, false] rfl rfl (any_of HT_.out (by kernel_rfl)) (fun _ _ _ h => h) (Or.inl ⟨by rfl, ?_⟩) ?_ ?_
    rotate_left
    · intro w'
      go_simp
      with_reducible rfl
    rotate_left
    · simp only [Act.put, List.setIfInBounds_toArray, List.set_cons_zero, List.set_cons_succ, i64_w, i32_w]
      rfl
    refine pure_ (i := 2) (N := some 24) (v := ?_) (a' := ?_) #[true, true, true, false, false, false, false, false, false, false, false, false, false, false] rfl rfl (any_of HT_.out (by kernel_rfl)) (fun _ _ _ h => h) (Or.inl ⟨by rfl, ?_⟩) ?_ ?_
    rotate_left
    · intro w'
      go_simp
      with_reducible rfl
    rotate_left
    · simp only [Act.put, List.setIfInBounds_toArray, List.set_cons_zero, List.set_cons_succ, i64_w, i32_w]
      rfl
    refine pure_ (i := 3) (N := some 25) (v := ?_) (a' := ?_) #[true, true, true, true, false, false, false, false, false, false, false, false, false, false] rfl rfl (any_of HT_.out (by kernel_rfl)) (fun _ _ _ h => h) (Or.inl ⟨by rfl, ?_⟩) ?_ ?_
    rotate_left
    · intro w'
      go_simp
      with_reducible rfl
    rotate_left
    · simp only [Act.put, List.setIfInBounds_toArray, List.set_cons_zero, List.set_cons_succ, i64_w, i32_w]
      rfl
    refine take_ (i := 4) (N := some 26) (v := ?_) (a' := ?_) #[true, true, true, true, true, false, false, false, false, false, false, false, false, false] rfl rfl (take_ofW HT_.out HW_.out (by kernel_rfl)) (fun _ _ _ h => h) (Or.inl ⟨by rfl, ?_⟩) hHeld ?_ ?_
    rotate_left
    · rintro w' ⟨s0, s1, s2, s3, s4, s5, s6, s7, s8⟩
      go_simp
      with_reducible rfl
    rotate_left
    · simp only [Act.put, List.setIfInBounds_toArray, List.set_cons_zero, List.set_cons_succ, i64_w, i32_w]
      rfl
    refine pure_ (i := 5) (N := some 27) (v := ?_) (a' := ?_) #[true, true, true, true, true, true, false, false, false, false, false, false, false, false] rfl rfl (any_of HT_.out (by kernel_rfl)) (fun _ _ _ h => h) (Or.inl ⟨by rfl, ?_⟩) ?_ ?_
    rotate_left
    · intro w'
      go_simp
      with_reducible rfl
    rotate_left
    · simp only [Act.put, List.setIfInBounds_toArray, List.set_cons_zero, List.set_cons_succ, i64_w, i32_w]
      rfl
    refine pure_ (i := 6) (N := some 28) (v := ?_) (a' := ?_) #[true, true, true, true, true, true, true, false, false, false, false, false, false, false] rfl rfl (any_of HT_.out (by kernel_rfl)) (fun _ _ _ h => h) (Or.inl ⟨by rfl, ?_⟩) ?_ ?_
    rotate_left
    · intro w'
      go_simp
      with_reducible rfl
    rotate_left
    · simp only [Act.put, List.setIfInBounds_toArray, List.set_cons_zero, List.set_cons_succ, i64_w, i32_w]
      rfl
    refine take_ (i := 7) (N := some 29) (v := ?_) (a' := ?_) #[true, true, true, true, true, true, true, true, false, false, false, false, false, false] rfl rfl (take_ofW HT_.out HW_.out (by kernel_rfl)) (fun _ _ _ h => h) (Or.inl ⟨by rfl, ?_⟩) hHeld ?_ ?_
    rotate_left
    · rintro w' ⟨s0, s1, s2, s3, s4, s5, s6, s7, s8⟩
      go_simp
      with_reducible rfl
    rotate_left
    · simp only [Act.put, List.setIfInBounds_toArray, List.set_cons_zero, List.set_cons_succ, i64_w, i32_w]
      rfl
    refine pure_ (i := 8) (N := some 30) (v := ?_) (a' := ?_) #[true, true, true, true, true, true, true, true, true, false, false, false, false, false] rfl rfl (any_of HT_.out (by kernel_rfl)) (fun _ _ _ h => h) (Or.inl ⟨by rfl, ?_⟩) ?_ ?_
    rotate_left
    · intro w'
      go_simp
      with_reducible rfl
    rotate_left
    · simp only [Act.put, List.setIfInBounds_toArray, List.set_cons_zero, List.set_cons_succ, i64_w, i32_w]
      rfl
    refine one_ (i := 9) (N := some 31) #[true, true, true, true, true, true, true, true, true, true, false, false, false, false] rfl rfl (one_of HT_.out (by kernel_rfl)) (by decide) (fun K hK => ?_)
    refine goes_ Tryd.func50 (by kernel_rfl) rfl #[.pointer (some ⟨g, 0, none⟩), .agg #[.int .i64 fr, .int .i64 dt, .int .u8 ii, .int .u8 o0, .int .u8 o1, .int .u8 o2, .int .u8 o3], .int .i64 ↑t] (by rfl) rfl rfl (by (try simp only [List.map_toArray, List.map_cons, List.map_nil]); first | done | rfl | (go_simp; done) | simp [Act.eval]) ?_
    refine HWE.out.mono ?_
    rintro e w4 ⟨rfl, hb4⟩
    have hE4 := (hb4.block E (blk_lt HBK.out.1)).trans HBK.out.1
    have hT4 := (hb4.block T (blk_lt HBK.out.2)).trans HBK.out.2
    have HD4 := Aside0.mk (HD3.out.below hb4)
    have HB4 := Aside0.mk (below_step HB3.out hb4)
    have HS4 := Aside0.mk (show w4.cell? ⟨T, 0, none⟩ = some (.int .i64 dt) ∧ w4.cell? ⟨T, 1, none⟩ = some (.int .i64 (u : Int)) ∧ w4.cell? ⟨E, 0, none⟩ = some (.int .i64 fr) ∧ w4.cell? ⟨E, 1, none⟩ = some (.int .i64 dt) ∧ w4.cell? ⟨E, 2, none⟩ = some (.int .u8 ii) ∧ w4.cell? ⟨E, 3, none⟩ = some (.int .u8 o0) ∧ w4.cell? ⟨E, 4, none⟩ = some (.int .u8 o1) ∧ w4.cell? ⟨E, 5, none⟩ = some (.int .u8 o2) ∧ w4.cell? ⟨E, 6, none⟩ = some (.int .u8 o3) from
      ⟨blk_cell hT4 0, blk_cell hT4 1, blk_cell hE4 0, blk_cell hE4 1, blk_cell hE4 2, blk_cell hE4 3, blk_cell hE4 4, blk_cell hE4 5, blk_cell hE4 6⟩)
    clear hb4 hE4 hT4
    refine ⟨_, rfl, ?_⟩
    refine hK.out _ _ HS4.out (fun hHeld => ?_)
    clear hK K
    refine norm_ (a' := ?_) ?_ ?_
    rotate_left
    · show Act.put _ (some 31) _ = _
      simp only [Act.put, List.setIfInBounds_toArray, List.set_cons_zero, List.set_cons_succ, i64_w, i32_w]
      rfl
    refine pure_ (i := 10) (N := some 32) (v := ?_) (a' := ?_) #[true, true, true, true, true, true, true, true, true, true, true, false, false, false] rfl rfl (any_of HT_.out (by kernel_rfl)) (fun _ _ _ h => h) (Or.inl ⟨by rfl, ?_⟩) ?_ ?_
    rotate_left
    · intro w'
      go_simp
      with_reducible rfl
    rotate_left
    · simp only [Act.put, List.setIfInBounds_toArray, List.set_cons_zero, List.set_cons_succ, i64_w, i32_w]
      rfl
    refine pure_ (i := 11) (N := some 33) (v := ?_) (a' := ?_) #[true, true, true, true, true, true, true, true, true, true, true, true, false, false] rfl rfl (any_of HT_.out (by kernel_rfl)) (fun _ _ _ h => h) (Or.inl ⟨by rfl, ?_⟩) ?_ ?_
    rotate_left
    · intro w'
      go_simp
      with_reducible rfl
    rotate_left
    · simp only [Act.put, List.setIfInBounds_toArray, List.set_cons_zero, List.set_cons_succ, i64_w, i32_w]
      rfl
    refine pure_ (i := 12) (N := some 34) (v := ?_) (a' := ?_) #[true, true, true, true, true, true, true, true, true, true, true, true, true, false] rfl rfl (any_of HT_.out (by kernel_rfl)) (fun _ _ _ h => h) (Or.inl ⟨by rfl, ?_⟩) ?_ ?_
    rotate_left
    · intro w'
      go_simp
      with_reducible rfl
    rotate_left
    · simp only [Act.put, List.setIfInBounds_toArray, List.set_cons_zero, List.set_cons_succ, i64_w, i32_w]
      rfl
    refine last_ (i := 13) (N := some 35) #[true, true, true, true, true, true, true, true, true, true, true, true, true, true] rfl rfl (one_of HT_.out (by kernel_rfl)) (by decide) (fun K hK => ?_)
    refine goes_ Tryd.func49 (by kernel_rfl) rfl #[.iface 91 (.pointer (some ⟨g, 4, none⟩)), .iface 88 (.agg #[.int .i64 dt, .int .i64 ↑u, .int .i64 (far + x)])] (by rfl) rfl rfl (by (try simp only [List.map_toArray, List.map_cons, List.map_nil]); first | done | rfl | (go_simp; done) | simp [Act.eval]) ?_
    refine (hpush_calls HD4.out.hs HD4.out.heap dt (u : Int) (far + x) HLL.out).mono ?_
    rintro e w5 ⟨rfl, v5, L5, hH5, hF5, hN5, hP5, hh5⟩
    have H5 := Aside0.mk (And.intro hH5 (And.intro hF5 (And.intro hN5 (And.intro hP5 hh5))))
    clear hH5 hF5 hN5 hP5 hh5
    refine ⟨_, rfl, ?_⟩
    refine hK.out _ _ ?_
    clear hK K
    refine norm_ (a' := ?_) ?_ ?_
    rotate_left
    · show Act.put _ (some 35) _ = _
      simp only [Act.put, List.setIfInBounds_toArray, List.set_cons_zero, List.set_cons_succ, i64_w, i32_w]
      rfl
    refine done_ (done_of HT_.out (by kernel_rfl)) ?_
    go_wp2
    refine bodyPost_end (results_none rfl _ _ _) rfl ?_
    obtain ⟨hH5, hF5, hN5, hP5, hh5⟩ := H5.out
    have hm5 := hF5.block m HD4.out.mlt HD4.out.mne.1 HD4.out.mne.2
    exact ⟨by simp, v5, L5, ⟨hH5, HD4.out.map.of_block hm5, HD4.out.mlow, hh5⟩, (Fr.of_below HB4.out).seq hF5, (Newer.refl w v).trans HB4.out.size hN5, by unfold AddP; rw [if_neg HIN.out, ← HX.out]; exact hP5⟩
end Go.Proofs.YtijpnlmejphfhaaDoor.P

-- YtijpnlmejphfhaaDoorPDBegin
namespace Go.Proofs.YtijpnlmejphfhaaDoor.P
open Go Go.Proofs Go.RowKit Go.Proofs.YtijpnlmejphfhaaDoorW.PrintWords Go.Proofs.YtijpnlmejphfhaaDoorW.PrintLast Go.Proofs.YtijpnlmejphfhaaDoorW.PrintMore
set_option linter.unusedVariables false
set_option linter.unusedSimpArgs false

variable {w w' : World} {n₀ g m : Nat} {a b c d : Int} {v v' : Value} {L L' : List Wy} {ps ps' : List (Int × Int)}
theorem DS.fr (h : DS w n₀ g m a b c d v L ps) (hf : Fr g v w w') (hn : n₀ ≤ w.heap.size) : Below n₀ w w' := hf.below hn h.hs.low (fun q hq => (h.hs.own q hq).1)
/-- The first edges, up to step j. -/
def firstW (W : Nat → Int) (j : Nat) : List Wy := (List.range j).map fun t => ((32 : Int), (nx t : Int), (en W 0 1 t : Int))
theorem firstW_succ (W : Nat → Int) (j : Nat) : firstW W (j + 1) = firstW W j ++ [((32 : Int), (nx j : Int), (en W 0 1 j : Int))] := by unfold firstW; rw [List.range_succ, List.map_append]; rfl
/-- What the search begins with. -/
theorem DJ.start {W : Nat → Int} (hW : ∀ v, v < 4 → 0 ≤ W v ∧ W v ≤ 7) (h : L.Perm (firstW W 4)) : DJ W L [] (fun _ => 0) := by
  have hm : ∀ x, x ∈ L ↔ ∃ t, t < 4 ∧ ((32 : Int), (nx t : Int), (en W 0 1 t : Int)) = x := by
    intro x
    rw [h.mem_iff]
    unfold firstW
    simp only [List.mem_map, List.mem_range]
  have hl := h.length_eq
  have h4 : (firstW W 4).length = 4 := by simp [firstW]
  refine ⟨fun x hx => ?_, fun x hx => ?_, fun t ht => ?_, fun _ _ _ _ h => by simp at h, fun _ h => by simp at h, fun _ h => by simp at h, fun _ h => by simp at h, List.nodup_nil, by simp only [List.length_nil]; omega⟩
  · obtain ⟨t, ht, rfl⟩ := (hm x).1 hx
    exact ⟨32, nx t, en W 0 1 t, rfl, .first t ht⟩
  · obtain ⟨t, ht, rfl⟩ := (hm x).1 hx
    have := en_le hW 0 1 t
    show (en W 0 1 t : Int) ≤ 28 * (((0 : Nat) : Int) + 1)
    omega
  · exact .inr ⟨_, (hm _).2 ⟨t, ht, rfl⟩, rfl, Int.le_refl _⟩
set_option maxRecDepth 100000 in
set_option maxHeartbeats 8000000 in
theorem dbegin_calls (hT : TP w) (h : DS w n₀ g m a b c d v [] []) (hn : n₀ ≤ w.heap.size) (hW : ∀ q, q < 4 → 0 ≤ wOf a b c d q ∧ wOf a b c d q ≤ 7) :
    Calls Tryd.prog 35 #[.pointer (some ⟨g, 0, none⟩)] w fun e w' =>
      e = .returned (.int .i64 0) ∧ ∃ v' L', DS w' n₀ g m a b c d v' L' [] ∧ Below n₀ w w' ∧ DJ (wOf a b c d) L' [] (fun _ => 0) := by
  have HT := Aside0.mk hT
  have HD := Aside0.mk h
  have HW := Aside0.mk hW
  have HN := Aside0.mk hn
  have hfr := trellis_From.calls 0 _ _ _ _ _ _ _ _ _ _ _ _ _ _ _ w from_0 hT
  obtain ⟨p0, hp0⟩ : ∃ p0, p0 = ob 0 0 0 := ⟨_, rfl⟩
  obtain ⟨p1, hp1⟩ : ∃ p1, p1 = ob 0 0 1 := ⟨_, rfl⟩
  obtain ⟨p2, hp2⟩ : ∃ p2, p2 = ob 0 0 2 := ⟨_, rfl⟩
  obtain ⟨p3, hp3⟩ : ∃ p3, p3 = ob 0 0 3 := ⟨_, rfl⟩
  obtain ⟨q0, hq0⟩ : ∃ q0, q0 = ob 0 1 0 := ⟨_, rfl⟩
  obtain ⟨q1, hq1⟩ : ∃ q1, q1 = ob 0 1 1 := ⟨_, rfl⟩
  obtain ⟨q2, hq2⟩ : ∃ q2, q2 = ob 0 1 2 := ⟨_, rfl⟩
  obtain ⟨q3, hq3⟩ : ∃ q3, q3 = ob 0 1 3 := ⟨_, rfl⟩
  rw [← hp0, ← hp1, ← hp2, ← hp3, ← hq0, ← hq1, ← hq2, ← hq3] at hfr
  have HQ := Aside0.mk (And.intro hq0 (And.intro hq1 (And.intro hq2 hq3)))
  have HFR := Aside0.mk hfr
  clear hT h hW hn hp0 hp1 hp2 hp3 hq0 hq1 hq2 hq3 hfr
  go_enter Tryd.func35, Tryd.ntmps35
  go_wp2_with (first
    | (go_at_call 39; refine Aside0.out ?_)
    | fail)
  refine Aside0.mk ?_
  refine HFR.out.mono ?_
  rintro e w1 ⟨rfl, hb1⟩
  have HB1 := Aside0.mk hb1
  clear hb1 HFR
  go_wp2_with fail
  have hba := below_alloc (Below.refl w1.heap.size w1) (.cells #[.int .i64 0, .int .i64 0, .int .u8 0, .int .u8 p0, .int .u8 p1, .int .u8 p2, .int .u8 p3, .int .i64 0, .int .i64 32, .int .u8 1, .int .u8 q0, .int .u8 q1, .int .u8 q2, .int .u8 q3] 78)
  have hbb := blk_new w1 (.cells #[.int .i64 0, .int .i64 0, .int .u8 0, .int .u8 p0, .int .u8 p1, .int .u8 p2, .int .u8 p3, .int .i64 0, .int .i64 32, .int .u8 1, .int .u8 q0, .int .u8 q1, .int .u8 q2, .int .u8 q3] 78)
  obtain ⟨w2, hw2⟩ : ∃ w2, w2 = w1.alloc (.cells #[.int .i64 0, .int .i64 0, .int .u8 0, .int .u8 p0, .int .u8 p1, .int .u8 p2, .int .u8 p3, .int .i64 0, .int .i64 32, .int .u8 1, .int .u8 q0, .int .u8 q1, .int .u8 q2, .int .u8 q3] 78) := ⟨_, rfl⟩
  obtain ⟨B, hB⟩ : ∃ B, B = w1.heap.size := ⟨_, rfl⟩
  rw [← hw2] at hba hbb
  rw [← hB] at hbb
  rw [← hw2, ← hB]
  have hb2 := below_step HB1.out hba
  have HD2 := Aside0.mk (HD.out.below hb2)
  have HB2 := Aside0.mk (show Below n₀ w w2 from ⟨hb2.os, hb2.tape, hb2.output, hb2.size, fun k hk => hb2.block k (Nat.lt_of_lt_of_le hk HN.out)⟩)
  have HBK := Aside0.mk hbb
  have HBG := Aside0.mk (show B ≠ g by have := HD.out.hs.lt; have := HB1.out.size; omega)
  clear hba hbb hw2 hB hb2
  go_loopw [13] (fun v13 wr => ∃ (j : Nat) (v : Value) (L : List Wy), v13 = .int .i64 (j : Int) ∧ j ≤ 4 ∧ Aside0 (DS wr n₀ g m a b c d v L []) ∧ Aside0 (Below n₀ w wr) ∧ Aside0 (wr.heap[B]? = some (.cells #[.int .i64 0, .int .i64 0, .int .u8 0, .int .u8 p0, .int .u8 p1, .int .u8 p2, .int .u8 p3, .int .i64 0, .int .i64 32, .int .u8 1, .int .u8 q0, .int .u8 q1, .int .u8 q2, .int .u8 q3] 78 (0, 0))) ∧ Aside0 (L.Perm (firstW (wOf a b c d) j))) (fun v13 _ => 4 - (intOf v13).toNat)
  case atStart => exact ⟨0, v, [], by simp, by omega, HD2, HB2, HBK, ⟨List.Perm.refl _⟩⟩
  case round =>
    clear HD2 HB2 HBK
    obtain ⟨j, v, L, rfl, hj, HD2, HB2, HBK, HP⟩ := hrel
    by_cases hlt : j < 4
    · have hlb : decide ((j : Int) < 4) = true := decide_eq_true (nat4 hlt)
      have hj4 := nat4 hlt
      have hc7 : wr.cell? ⟨B, 7, none⟩ = _ := blk_cell HBK.out 7
      have hc8 : wr.cell? ⟨B, 8, none⟩ = _ := blk_cell HBK.out 8
      have hc9 : wr.cell? ⟨B, 9, none⟩ = _ := blk_cell HBK.out 9
      have hc10 : wr.cell? ⟨B, 10, none⟩ = _ := blk_cell HBK.out 10
      have hc11 : wr.cell? ⟨B, 11, none⟩ = _ := blk_cell HBK.out 11
      have hc12 : wr.cell? ⟨B, 12, none⟩ = _ := blk_cell HBK.out 12
      have hc13 : wr.cell? ⟨B, 13, none⟩ = _ := blk_cell HBK.out 13
      have hll : L.length = j := by rw [HP.out.length_eq]; simp [firstW]
      have had := add_way (s := 0) (i := 1) (t := j) HD2.out (Nat.le_trans HN.out HB2.out.size) HW.out 0 32 1 hlt 0 ⟨by decide, by decide⟩ (by rw [hll]; exact Nat.lt_of_lt_of_le hlt (by decide))
      rw [← HQ.out.1, ← HQ.out.2.1, ← HQ.out.2.2.1, ← HQ.out.2.2.2] at had
      have HAD := Aside0.mk had
      clear had hll
      go_wp2_with (first
        | (go_at_call 44; refine Aside0.out ?_)
        | fail)
      refine Aside0.mk ?_
      refine HAD.out.mono ?_
      rintro e w3 ⟨rfl, v3, L3, hD3, hF3, hN3, hA3⟩
      have hne : some B ≠ v.ownBlock := Kd.R_ne HD2.out.hs.row HBK.out (by decide)
      have hB3 := (hF3.block B (blk_lt HBK.out) HBG.out hne).trans HBK.out
      have hb3 := HB2.out.trans (HD2.out.fr hF3 (Nat.le_trans HN.out HB2.out.size))
      have hP3 : L3.Perm (firstW (wOf a b c d) (j + 1)) := by
        unfold AddP at hA3
        rw [if_neg (by simp), Int.zero_add, ew_nat HW.out] at hA3
        rw [firstW_succ]
        exact hA3.trans (HP.out.append_right _)
      have H3 := Aside0.mk (And.intro hD3 (And.intro hb3 (And.intro hB3 hP3)))
      clear hD3 hF3 hN3 hA3 hne hB3 hb3 hP3 HAD hc7 hc8 hc9 hc10 hc11 hc12 hc13
      go_wp2_with fail
      go_roundw
      case rel => exact ⟨j + 1, v3, L3, by simp, by omega, ⟨H3.out.1⟩, ⟨H3.out.2.1⟩, ⟨H3.out.2.2.1⟩, ⟨H3.out.2.2.2⟩⟩
      case measure => simp [intOf]; omega
    · obtain rfl : j = 4 := by omega
      have hlb : decide (((4 : Nat) : Int) < 4) = false := by decide
      go_wp2_with fail
      go_ret
      exact ⟨by simp, v, L, HD2.out, HB2.out, DJ.start HW.out HP.out⟩
end Go.Proofs.YtijpnlmejphfhaaDoor.P

-- YtijpnlmejphfhaaDoorPDRun
namespace Go.Proofs.YtijpnlmejphfhaaDoor.P
open Go Go.Proofs Go.RowKit Go.Proofs.YtijpnlmejphfhaaDoorW.PrintWords Go.Proofs.YtijpnlmejphfhaaDoorW.PrintLast Go.Proofs.YtijpnlmejphfhaaDoorW.PrintMore
set_option linter.unusedVariables false
set_option linter.unusedSimpArgs false

variable {w w' : World} {n₀ g m : Nat} {a b c d : Int} {v v' : Value} {L L' : List Wy} {ps ps' : List (Int × Int)}
theorem TP.bel (h : TP w) (h0 : 0 < n₀) (hb : Below n₀ w w') : TP w' := by
  have e : ∀ i, w'.cell? ⟨0, i, none⟩ = w.cell? ⟨0, i, none⟩ := fun i => World.cell?_of_block (w := w) (hb.block 0 h0)
  exact ⟨(e 0).trans h.c0, (e 1).trans h.c1, (e 2).trans h.c2, (e 3).trans h.c3⟩
theorem DS.put {o : Obj} (h : DS w n₀ g m a b c d v L ps) (hm : MapIs (ChangeMaps.setBlock w m o) m ps') : DS (ChangeMaps.setBlock w m o) n₀ g m a b c d v L ps' ∧ Below n₀ w (ChangeMaps.setBlock w m o) ∧ ∀ k, k ≠ m → (ChangeMaps.setBlock w m o).heap[k]? = w.heap[k]? := by
  obtain ⟨es, cl, hb, _⟩ := h.map
  have hk : ∀ k, k ≠ m → (ChangeMaps.setBlock w m o).heap[k]? = w.heap[k]? := fun k hk => ChangeMaps.heap_setBlock_other hb o (fun e => hk e)
  refine ⟨⟨⟨(hk g h.mne.1.symm).trans h.hs.blk, ?_, h.hs.low⟩, hm, h.mlow, h.heap⟩, ⟨rfl, rfl, rfl, by show _ ≤ (w.heap.setIfInBounds m o).size; simp, fun k hkn => hk k (by have := h.mlow; omega)⟩, hk⟩
  refine Kd.R_mono (Kd.R_move (Kd.R_bound h.hs.row) (fun k ok => hk k (fun e => ?_))) (fun _ _ => trivial)
  obtain ⟨_, _, _, q, _, cells, hc⟩ := ok
  rw [e, hb] at hc
  cases hc
/-- How much is left to be done. -/
def dmsOf (w : World) (g m : Nat) : Nat := 3 * (256 - (match w.heap[m]? with | some (.map es _) => es.size | _ => 0)) + (match w.cell? ⟨g, 4, none⟩ with | some (.slice _ n _) => n | _ => 0)
theorem DS.dms (h : DS w n₀ g m a b c d v L ps) : dmsOf w g m = 3 * (256 - ps.length) + L.length := by
  obtain ⟨es, cl, hb, he⟩ := h.map
  obtain ⟨A, cc, e⟩ := h.hs.slice
  have h4 : w.cell? ⟨g, 4, none⟩ = some v := blk_cell h.hs.blk 4
  have hl := congrArg List.length he
  simp only [List.length_map] at hl
  unfold dmsOf
  rw [hb, h4, e]
  show 3 * (256 - es.size) + L.length = _
  rw [← hl]; rfl
/-- What is left of ways, behind j edges. -/
def AJ (L1 : List Wy) (ps : List (Int × Int)) (x0 x1 : Wy) : Nat → List Wy → Prop
  | 0, L => L = L1
  | 1, L => AddP L1 L ps x0
  | _, L => ∃ L2, AddP L1 L2 ps x0 ∧ AddP L2 L ps x1
theorem AJ.le {L1 L : List Wy} {ps : List (Int × Int)} {x0 x1 : Wy} {j : Nat} (h : AJ L1 ps x0 x1 j L) : L.length ≤ L1.length + 2 := by
  match j, h with
  | 0, h => rw [show L = L1 from h]; omega
  | 1, h => have := (add_sub (show AddP L1 L ps x0 from h)).2.2.1; omega
  | j + 2, h =>
    obtain ⟨L2, h1, h2⟩ := h
    have := (add_sub h1).2.2.1
    have := (add_sub h2).2.2.1
    omega
def run7.T : Bool × List (List Nat × List Nat) := (true, [([], []), ([0], [0]), ([1], [1]), ([2], [2]), ([], []), ([4], [4]), ([3, 5], [3, 5])])
def run7.B : List Nat := [0, 1, 3, 7, 0, 16, 63]
theorem run7.tab : rtab .any (opsOf Tryd.f36 7) = run7.T := by kernel_rfl
theorem run7.bits : waitsOk run7.T.2 run7.B = true := by kernel_rfl
def run8.T : Bool × List (List Nat × List Nat) := (true, [([], []), ([0], [0]), ([1], [1]), ([2], [2]), ([], []), ([4], [4]), ([3, 5, 0, 1, 2, 3, 4, 5], [3, 5])])
def run8.B : List Nat := [0, 1, 3, 7, 0, 16, 63]
theorem run8.tab : rtab .any (opsOf Tryd.f36 8) = run8.T := by kernel_rfl
theorem run8.bits : waitsOk run8.T.2 run8.B = true := by kernel_rfl
set_option maxRecDepth 100000 in
set_option maxHeartbeats 16000000 in
theorem drun_calls (hT : TP w) (h0 : 0 < n₀) (hn : n₀ ≤ w.heap.size) (h : DS w n₀ g m a b c d v L ps) {D : Int × Int → Nat} (hJ : DJ (wOf a b c d) L ps D) (hW : ∀ q, q < 4 → 0 ≤ wOf a b c d q ∧ wOf a b c d q ≤ 7) :
    Calls Tryd.prog 36 #[.pointer (some ⟨g, 0, none⟩)] w fun e w' =>
      ∃ n : Nat, e = .returned (.tuple #[.int .i64 (n : Int), .int .i64 0]) ∧ IsLeast (wOf a b c d) n ∧ Below n₀ w w' := by
  have hta := ta88
  have HT := Aside0.mk hT
  have HW := Aside0.mk hW
  have HN := Aside0.mk hn
  have H0 := Aside0.mk h0
  have HD := Aside0.mk h
  have HJ := Aside0.mk hJ
  clear hT hW hn h0 h hJ
  go_enter Tryd.func36, Tryd.ntmps36
  go_wp2_with fail
  go_loopw [2] (fun v2 wr => ∃ (v : Value) (L : List Wy) (ps : List (Int × Int)) (D : Int × Int → Nat), Aside0 (DS wr n₀ g m a b c d v L ps) ∧ Aside0 (DJ (wOf a b c d) L ps D) ∧ Aside0 (Below n₀ w wr)) (fun _ wr => dmsOf wr g m)
  case atStart => exact ⟨v, L, ps, D, HD, HJ, ⟨Below.refl _ _⟩⟩
  case round =>
    clear HD HJ
    obtain ⟨v, L, ps, D, HD, HJ, HB⟩ := hrel
    obtain ⟨A, cc, ev⟩ := HD.out.hs.slice
    have hlen := HJ.out.some HW.out
    have hcnt := HJ.out.cnt
    have HMS := Aside0.mk HD.out.dms
    obtain ⟨N, hN⟩ : ∃ N, N = L.length := ⟨_, rfl⟩
    have hc4 : wr.cell? ⟨g, 4, none⟩ = some (.slice A N cc) := by rw [hN, ← ev]; exact blk_cell HD.out.hs.blk 4
    have hlb : decide ((0 : Int) < (N : Int)) = true := decide_eq_true (by omega)
    have hNp : 0 < N := by omega
    have hpop := hpop_calls HD.out.hs HD.out.heap hlen (by omega)
    have HLEN := Aside0.mk (And.intro hlen hcnt)
    obtain ⟨x, hx⟩ : ∃ x, x = L.getD 0 (0, 0, 0) := ⟨_, rfl⟩
    have hxm : x ∈ L := by rw [hx, getD_at L 0 hlen]; exact List.getElem_mem hlen
    have hmin : ∀ y, y ∈ L → x.2.2 ≤ y.2.2 := by
      intro y hy
      obtain ⟨k, hk, rfl⟩ := List.getElem_of_mem hy
      have := root_le HD.out.heap k hk
      unfold farOf at this
      rw [← hx, getD_at L k hk] at this
      exact this
    rw [← hx] at hpop
    obtain ⟨s, t, n, hxe, hway⟩ := HJ.out.way x hxm
    subst hxe
    have HPOP := Aside0.mk hpop
    have HX := Aside0.mk (And.intro hxm (And.intro hmin hway))
    clear hlen hcnt hpop hx hxm hmin hway ev hN
    go_wp2_with (first
      | (go_at_call 45; refine Aside0.out ?_)
      | fail)
    refine Aside0.mk ?_
    refine HPOP.out.mono ?_
    rintro e w1 ⟨rfl, v1, L1, hH1, hF1, hN1, hP1, hh1⟩
    have hm1 := hF1.block m HD.out.mlt HD.out.mne.1 HD.out.mne.2
    have hD1 : DS w1 n₀ g m a b c d v1 L1 ps := ⟨hH1, HD.out.map.of_block hm1, HD.out.mlow, hh1⟩
    have hB1 := HB.out.trans (HD.out.fr hF1 (Nat.le_trans HN.out HB.out.size))
    have H1 := Aside0.mk (And.intro hD1 (And.intro hB1 hP1))
    clear hH1 hF1 hN1 hP1 hh1 hm1 hD1 hB1 HPOP hc4
    by_cases hs0 : s = 0
    · subst hs0
      go_wp2_with fail
      go_ret2
      have hb := below_alloc (Below.refl w1.heap.size w1) (.cells #[.int .i64 0, .int .i64 (t : Int), .int .i64 (n : Int)] 88)
      have hn1 : n₀ ≤ w1.heap.size := Nat.le_trans HN.out H1.out.2.1.size
      exact ⟨n, by simp, HJ.out.least HX.out.1 HX.out.2.1 rfl, H1.out.2.1.trans ⟨hb.os, hb.tape, hb.output, hb.size, fun k hk => hb.block k (Nat.lt_of_lt_of_le hk hn1)⟩⟩
    · have hsb : ((s : Int) == 0) = false := beq_eq_false_iff_ne.mpr (by omega)
      go_wp2_with fail
      have hba := below_alloc (Below.refl w1.heap.size w1) (.cells #[.int .i64 (s : Int), .int .i64 (t : Int), .int .i64 (n : Int)] 88)
      have hbb := blk_new w1 (.cells #[.int .i64 (s : Int), .int .i64 (t : Int), .int .i64 (n : Int)] 88)
      obtain ⟨w2, hw2⟩ : ∃ w2, w2 = w1.alloc (.cells #[.int .i64 (s : Int), .int .i64 (t : Int), .int .i64 (n : Int)] 88) := ⟨_, rfl⟩
      obtain ⟨Y, hY⟩ : ∃ Y, Y = w1.heap.size := ⟨_, rfl⟩
      have hYg : Y ≠ g ∧ some Y ≠ v1.ownBlock ∧ Y ≠ m := by
        refine ⟨?_, fun e => ?_, ?_⟩
        · have := H1.out.1.hs.lt; omega
        · have := (H1.out.1.hs.own Y e.symm).2; omega
        · have := H1.out.1.mlt; omega
      have hn1 : n₀ ≤ w1.heap.size := Nat.le_trans HN.out H1.out.2.1.size
      rw [← hw2] at hba hbb
      rw [← hY] at hbb
      rw [← hw2, ← hY]
      have HY := Aside0.mk hbb
      have HYG := Aside0.mk hYg
      have H2 := Aside0.mk (And.intro (H1.out.1.below hba) (H1.out.2.1.trans (show Below n₀ w1 w2 from ⟨hba.os, hba.tape, hba.output, hba.size, fun k hk => hba.block k (Nat.lt_of_lt_of_le hk hn1)⟩)))
      have HS := Aside0.mk (show w2.drew.cell? ⟨g, 5, none⟩ = some (.map (some m)) ∧ w2.drew.cell? ⟨Y, 0, none⟩ = some (.int .i64 (s : Int)) ∧ w2.drew.cell? ⟨Y, 1, none⟩ = some (.int .i64 (t : Int)) ∧ MapIs w2.drew m ps from
        ⟨blk_cell H2.out.1.hs.blk 5, blk_cell HY.out 0, blk_cell HY.out 1, (H2.out.1.below (below_drew1 (Below.refl _ _))).map⟩)
      clear hba hbb hw2 hY hYg hn1
      refine start_ (n := 7) (S := (fun w' => w'.cell? ⟨g, 5, none⟩ = some (.map (some m)) ∧ w'.cell? ⟨Y, 0, none⟩ = some (.int .i64 (s : Int)) ∧ w'.cell? ⟨Y, 1, none⟩ = some (.int .i64 (t : Int)) ∧ MapIs w' m ps)) (ds := []) #[false, false, false, false, false, false, false] (by kernel_rfl) rfl rfl HS.out (fun hHeld => ?_)
      refine with_tabW run7.tab run7.bits (fun HT_ HW_ => ?_)
      refine pure_ (i := 0) (N := some 33) (v := ?_) (a' := ?_) #[true, false, false, false, false, false, false] rfl rfl (any_of HT_.out (by kernel_rfl)) (fun _ _ _ h => h) (Or.inl ⟨by rfl, ?_⟩) ?_ ?_
      rotate_left
      · intro w'
        go_simp
        with_reducible rfl
      rotate_left
      · simp only [Act.put, List.setIfInBounds_toArray, List.set_cons_zero, List.set_cons_succ, i64_w, i32_w]
        rfl
      refine pure_ (i := 1) (N := some 34) (v := ?_) (a' := ?_) #[true, true, false, false, false, false, false] rfl rfl (any_of HT_.out (by kernel_rfl)) (fun _ _ _ h => h) (Or.inl ⟨by rfl, ?_⟩) ?_ ?_
      rotate_left
      · intro w'
        go_simp
        with_reducible rfl
      rotate_left
      · simp only [Act.put, List.setIfInBounds_toArray, List.set_cons_zero, List.set_cons_succ, i64_w, i32_w]
        rfl
      refine pure_ (i := 2) (N := some 35) (v := ?_) (a' := ?_) #[true, true, true, false, false, false, false] rfl rfl (any_of HT_.out (by kernel_rfl)) (fun _ _ _ h => h) (Or.inl ⟨by rfl, ?_⟩) ?_ ?_
      rotate_left
      · intro w'
        go_simp
        with_reducible rfl
      rotate_left
      · simp only [Act.put, List.setIfInBounds_toArray, List.set_cons_zero, List.set_cons_succ, i64_w, i32_w]
        rfl
      refine take_ (i := 3) (N := some 36) (v := ?_) (a' := ?_) #[true, true, true, true, false, false, false] rfl rfl (take_ofW HT_.out HW_.out (by kernel_rfl)) (fun _ _ _ h => h) (Or.inl ⟨by rfl, ?_⟩) hHeld ?_ ?_
      rotate_left
      · rintro w' ⟨s0, s1, s2, s3⟩
        go_simp
        with_reducible rfl
      rotate_left
      · simp only [Act.put, List.setIfInBounds_toArray, List.set_cons_zero, List.set_cons_succ, i64_w, i32_w]
        rfl
      refine pure_ (i := 4) (N := some 37) (v := ?_) (a' := ?_) #[true, true, true, true, true, false, false] rfl rfl (any_of HT_.out (by kernel_rfl)) (fun _ _ _ h => h) (Or.inl ⟨by rfl, ?_⟩) ?_ ?_
      rotate_left
      · intro w'
        go_simp
        with_reducible rfl
      rotate_left
      · simp only [Act.put, List.setIfInBounds_toArray, List.set_cons_zero, List.set_cons_succ, i64_w, i32_w]
        rfl
      refine take_ (i := 5) (N := some 38) (v := ?_) (a' := ?_) #[true, true, true, true, true, true, false] rfl rfl (take_ofW HT_.out HW_.out (by kernel_rfl)) (fun _ _ _ h => h) (Or.inl ⟨by rfl, ?_⟩) hHeld ?_ ?_
      rotate_left
      · rintro w' ⟨s0, s1, s2, s3⟩
        go_simp
        with_reducible rfl
      rotate_left
      · simp only [Act.put, List.setIfInBounds_toArray, List.set_cons_zero, List.set_cons_succ, i64_w, i32_w]
        rfl
      refine take_ (i := 6) (N := some 39) (v := ?_) (a' := ?_) #[true, true, true, true, true, true, true] rfl rfl (take_ofW HT_.out HW_.out (by kernel_rfl)) (fun _ _ _ h => h) (Or.inl ⟨by rfl, ?_⟩) hHeld ?_ ?_
      rotate_left
      · rintro w' ⟨s0, s1, s2, s3⟩
        have hl := look_run s3 (s : Int) (t : Int); unfold plK at hl; go_simp; with_reducible rfl
      rotate_left
      · simp only [Act.put, List.setIfInBounds_toArray, List.set_cons_zero, List.set_cons_succ, i64_w, i32_w]
        rfl
      refine done_ (done_of HT_.out (by kernel_rfl)) ?_
      clear hHeld
      by_cases hin : ((s : Int), (t : Int)) ∈ ps
      · rw [decide_eq_true hin]
        have hJ2 := HJ.out.again H1.out.2.2 hin
        have hl2 := H1.out.2.2.length_eq
        rw [List.length_cons] at hl2
        have hD2 := H2.out.1.below (below_drew1 (Below.refl _ _))
        have H3 := Aside0.mk (And.intro hJ2 (And.intro hl2 hD2))
        have HB3 := Aside0.mk (below_drew1 H2.out.2)
        clear hin hJ2 hl2 hD2
        obtain ⟨w3, hw3⟩ : ∃ w3, w3 = w2.drew := ⟨_, rfl⟩
        rw [← hw3] at H3 HB3 ⊢
        clear hw3 HS
        go_wp2_with fail
        go_roundw
        case rel => exact ⟨v1, L1, ps, D, ⟨H3.out.2.2⟩, ⟨H3.out.1⟩, HB3⟩
        case measure => rw [HMS.out, H3.out.2.2.dms]; have := H3.out.2.1; omega
      · rw [decide_eq_false hin]
        have HIN := Aside0.mk hin
        clear hin HS
        go_wp2_with fail
        have hD3 := H2.out.1.below (below_drew1 (below_drew1 (Below.refl w2.heap.size w2)))
        obtain ⟨o, hrun, hmap⟩ := put_run hD3.map (s : Int) (t : Int) HIN.out
        unfold plK at hrun
        have HRUN := Aside0.mk hrun
        have hput := hD3.put hmap
        have hY3 := (hput.2.2 Y HYG.out.2.2).trans (show w2.drew.drew.heap[Y]? = _ from HY.out)
        have hb3 := (below_drew1 (below_drew1 H2.out.2)).trans hput.2.1
        have H3 := Aside0.mk (And.intro hput.1 (And.intro hb3 hY3))
        have HS3 := Aside0.mk (show w2.drew.drew.cell? ⟨g, 5, none⟩ = some (.map (some m)) ∧ w2.drew.drew.cell? ⟨Y, 0, none⟩ = some (.int .i64 (s : Int)) ∧ w2.drew.drew.cell? ⟨Y, 1, none⟩ = some (.int .i64 (t : Int)) from
          ⟨blk_cell hD3.hs.blk 5, blk_cell HY.out 0, blk_cell HY.out 1⟩)
        clear hD3 hrun hmap hput hY3 hb3
        refine start_ (n := 7) (S := (fun w' => w'.cell? ⟨g, 5, none⟩ = some (.map (some m)) ∧ w'.cell? ⟨Y, 0, none⟩ = some (.int .i64 (s : Int)) ∧ w'.cell? ⟨Y, 1, none⟩ = some (.int .i64 (t : Int)))) (ds := [6]) #[false, false, false, false, false, false, false] (by kernel_rfl) rfl rfl HS3.out (fun hHeld => ?_)
        refine with_tabW run8.tab run8.bits (fun HT_ HW_ => ?_)
        refine pure_ (i := 0) (N := some 40) (v := ?_) (a' := ?_) #[true, false, false, false, false, false, false] rfl rfl (any_of HT_.out (by kernel_rfl)) (fun _ _ _ h => h) (Or.inl ⟨by rfl, ?_⟩) ?_ ?_
        rotate_left
        · intro w'
          go_simp
          with_reducible rfl
        rotate_left
        · simp only [Act.put, List.setIfInBounds_toArray, List.set_cons_zero, List.set_cons_succ, i64_w, i32_w]
          rfl
        refine pure_ (i := 1) (N := some 41) (v := ?_) (a' := ?_) #[true, true, false, false, false, false, false] rfl rfl (any_of HT_.out (by kernel_rfl)) (fun _ _ _ h => h) (Or.inl ⟨by rfl, ?_⟩) ?_ ?_
        rotate_left
        · intro w'
          go_simp
          with_reducible rfl
        rotate_left
        · simp only [Act.put, List.setIfInBounds_toArray, List.set_cons_zero, List.set_cons_succ, i64_w, i32_w]
          rfl
        refine pure_ (i := 2) (N := some 42) (v := ?_) (a' := ?_) #[true, true, true, false, false, false, false] rfl rfl (any_of HT_.out (by kernel_rfl)) (fun _ _ _ h => h) (Or.inl ⟨by rfl, ?_⟩) ?_ ?_
        rotate_left
        · intro w'
          go_simp
          with_reducible rfl
        rotate_left
        · simp only [Act.put, List.setIfInBounds_toArray, List.set_cons_zero, List.set_cons_succ, i64_w, i32_w]
          rfl
        refine take_ (i := 3) (N := some 43) (v := ?_) (a' := ?_) #[true, true, true, true, false, false, false] rfl rfl (take_ofW HT_.out HW_.out (by kernel_rfl)) (fun _ _ _ h => h) (Or.inl ⟨by rfl, ?_⟩) hHeld ?_ ?_
        rotate_left
        · rintro w' ⟨s0, s1, s2⟩
          go_simp
          with_reducible rfl
        rotate_left
        · simp only [Act.put, List.setIfInBounds_toArray, List.set_cons_zero, List.set_cons_succ, i64_w, i32_w]
          rfl
        refine pure_ (i := 4) (N := some 44) (v := ?_) (a' := ?_) #[true, true, true, true, true, false, false] rfl rfl (any_of HT_.out (by kernel_rfl)) (fun _ _ _ h => h) (Or.inl ⟨by rfl, ?_⟩) ?_ ?_
        rotate_left
        · intro w'
          go_simp
          with_reducible rfl
        rotate_left
        · simp only [Act.put, List.setIfInBounds_toArray, List.set_cons_zero, List.set_cons_succ, i64_w, i32_w]
          rfl
        refine take_ (i := 5) (N := some 45) (v := ?_) (a' := ?_) #[true, true, true, true, true, true, false] rfl rfl (take_ofW HT_.out HW_.out (by kernel_rfl)) (fun _ _ _ h => h) (Or.inl ⟨by rfl, ?_⟩) hHeld ?_ ?_
        rotate_left
        · rintro w' ⟨s0, s1, s2⟩
          go_simp
          with_reducible rfl
        rotate_left
        · simp only [Act.put, List.setIfInBounds_toArray, List.set_cons_zero, List.set_cons_succ, i64_w, i32_w]
          rfl
        refine last_ (i := 6) (N := none) #[true, true, true, true, true, true, true] rfl rfl (one_of HT_.out (by kernel_rfl)) (by decide) (fun K hK => ?_)
        have hrun := HRUN.out
        refine skip_ (w1 := ?_) (by rfl) rfl ?_ ?_
        rotate_left 1
        · go_simp
          rfl
        refine hK.out _ _ ?_
        clear hK K
        refine done_ (done_of HT_.out (by kernel_rfl)) ?_
        clear hrun
        have hway := HX.out.2.2
        have hst := hway.lt
        have hnle : (n : Int) ≤ 28 * 257 := by
          have h1 := HJ.out.far _ HX.out.1
          have h2 := HJ.out.le
          have h1 : (n : Int) ≤ 28 * ((ps.length : Int) + 1) := h1
          omega
        have HNL := Aside0.mk hnle
        have hl2 := H1.out.2.2.length_eq
        rw [List.length_cons] at hl2
        have HL2 := Aside0.mk hl2
        obtain ⟨w4, hw4⟩ : ∃ w4, w4 = ChangeMaps.setBlock w2.drew.drew m o := ⟨_, rfl⟩
        rw [← hw4] at H3 ⊢
        obtain ⟨ps2, hps2⟩ : ∃ ps2, ps2 = ps ++ [((s : Int), (t : Int))] := ⟨_, rfl⟩
        rw [← hps2] at H3
        have HPS := Aside0.mk hps2
        have hs64 : s < 64 := hst.1
        have ht4 : t < 4 := hst.2
        have hY0 : w4.cell? ⟨Y, 0, none⟩ = some (.int .i64 (s : Int)) := blk_cell H3.out.2.2 0
        have hfr := trellis_From.calls (s : Int) _ _ _ _ _ _ _ _ _ _ _ _ _ _ _ w4 (from_f s hs64) (HT.out.bel H0.out H3.out.2.1)
        obtain ⟨p0, hp0⟩ : ∃ p0, p0 = ob s 0 0 := ⟨_, rfl⟩
        obtain ⟨p1, hp1⟩ : ∃ p1, p1 = ob s 0 1 := ⟨_, rfl⟩
        obtain ⟨p2, hp2⟩ : ∃ p2, p2 = ob s 0 2 := ⟨_, rfl⟩
        obtain ⟨p3, hp3⟩ : ∃ p3, p3 = ob s 0 3 := ⟨_, rfl⟩
        obtain ⟨q0, hq0⟩ : ∃ q0, q0 = ob s 1 0 := ⟨_, rfl⟩
        obtain ⟨q1, hq1⟩ : ∃ q1, q1 = ob s 1 1 := ⟨_, rfl⟩
        obtain ⟨q2, hq2⟩ : ∃ q2, q2 = ob s 1 2 := ⟨_, rfl⟩
        obtain ⟨q3, hq3⟩ : ∃ q3, q3 = ob s 1 3 := ⟨_, rfl⟩
        obtain ⟨dI, hdI⟩ : ∃ dI : Nat, dI = s / 2 := ⟨_, rfl⟩
        obtain ⟨dJ, hdJ⟩ : ∃ dJ : Nat, dJ = 32 + s / 2 := ⟨_, rfl⟩
        rw [← hp0, ← hp1, ← hp2, ← hp3, ← hq0, ← hq1, ← hq2, ← hq3, ← hdJ, ← hdI] at hfr
        have HP := Aside0.mk (And.intro hp0 (And.intro hp1 (And.intro hp2 hp3)))
        have HQ := Aside0.mk (And.intro hq0 (And.intro hq1 (And.intro hq2 hq3)))
        have HDD := Aside0.mk (And.intro hdI hdJ)
        have HFR := Aside0.mk hfr
        have HST := Aside0.mk (And.intro hs64 ht4)
        clear hway hst hnle hl2 hw4 hps2 hp0 hp1 hp2 hp3 hq0 hq1 hq2 hq3 hdI hdJ hfr hs64 ht4 HS3 HRUN
        go_wp2_with (first
          | (go_at_call 39; refine Aside0.out ?_)
          | fail)
        refine Aside0.mk ?_
        refine HFR.out.mono ?_
        rintro e w5 ⟨rfl, hb5⟩
        have HB5 := Aside0.mk hb5
        clear hb5 HFR hY0
        go_wp2_with fail
        have hba := below_alloc (Below.refl w5.heap.size w5) (.cells #[.int .i64 (s : Int), .int .i64 (dI : Int), .int .u8 0, .int .u8 p0, .int .u8 p1, .int .u8 p2, .int .u8 p3, .int .i64 (s : Int), .int .i64 (dJ : Int), .int .u8 1, .int .u8 q0, .int .u8 q1, .int .u8 q2, .int .u8 q3] 78)
        obtain ⟨w6, hw6⟩ : ∃ w6, w6 = w5.alloc (.cells #[.int .i64 (s : Int), .int .i64 (dI : Int), .int .u8 0, .int .u8 p0, .int .u8 p1, .int .u8 p2, .int .u8 p3, .int .i64 (s : Int), .int .i64 (dJ : Int), .int .u8 1, .int .u8 q0, .int .u8 q1, .int .u8 q2, .int .u8 q3] 78) := ⟨_, rfl⟩
        rw [← hw6] at hba
        rw [← hw6]
        have hb46 := below_step HB5.out hba
        have hn4 : n₀ ≤ w4.heap.size := Nat.le_trans HN.out H3.out.2.1.size
        have H6 := Aside0.mk (H3.out.1.below hb46)
        have HB6 := Aside0.mk (H3.out.2.1.trans (show Below n₀ w4 w6 from ⟨hb46.os, hb46.tape, hb46.output, hb46.size, fun k hk => hb46.block k (Nat.lt_of_lt_of_le hk hn4)⟩))
        have HY6 := Aside0.mk ((hb46.block Y (blk_lt H3.out.2.2)).trans H3.out.2.2)
        have HG6 := Aside0.mk (show Y ≠ g ∧ some Y ≠ v1.ownBlock from ⟨HYG.out.1, HYG.out.2.1⟩)
        clear hba hw6 hb46 hn4 HB5
        go_loopw [57] (fun v57 wr => ∃ (j : Nat) (v : Value) (L : List Wy), v57 = .int .i64 (j : Int) ∧ j ≤ 2 ∧ Aside0 (DS wr n₀ g m a b c d v L ps2) ∧ Aside0 (Below n₀ w wr) ∧ Aside0 (wr.heap[Y]? = some (.cells #[.int .i64 (s : Int), .int .i64 (t : Int), .int .i64 (n : Int)] 88 (0, 0))) ∧ Aside0 (Y ≠ g ∧ some Y ≠ v.ownBlock) ∧ Aside0 (AJ L1 ps2 ((dst s 0 : Int), (nx t : Int), (n : Int) + en (wOf a b c d) s 0 t) ((dst s 1 : Int), (nx t : Int), (n : Int) + en (wOf a b c d) s 1 t) j L)) (fun v57 _ => 2 - (intOf v57).toNat)
        case atStart => exact ⟨0, v1, L1, by simp, by omega, H6, HB6, HY6, HG6, ⟨rfl⟩⟩
        case round =>
          clear H6 HB6 HY6 HG6
          obtain ⟨j, vv, LL, rfl, hj, HD6, HB6, HY6, HG6, HAJ⟩ := hrel
          have hjc : j = 0 ∨ j = 1 ∨ j = 2 := by omega
          rcases hjc with rfl | rfl | rfl
          · skip
            have hix := fun w' => idx78_0 (.int .i64 (s : Int)) (.int .i64 (dI : Int)) (.int .u8 0) (.int .u8 p0) (.int .u8 p1) (.int .u8 p2) (.int .u8 p3) (.int .i64 (s : Int)) (.int .i64 (dJ : Int)) (.int .u8 1) (.int .u8 q0) (.int .u8 q1) (.int .u8 q2) (.int .u8 q3) w'
            go_wp2_with (first
              | ((with_reducible refine gate_ (.load 77 (.tmp 9)) rfl ?_); refine Aside0.out ?_)
              | fail)
            refine Aside0.mk ?_
            have hba := below_alloc (Below.refl wr.heap.size wr) (.cells #[.int .i64 (s : Int), .int .i64 (dI : Int), .int .u8 0, .int .u8 p0, .int .u8 p1, .int .u8 p2, .int .u8 p3] 77)
            have hbb := blk_new wr (.cells #[.int .i64 (s : Int), .int .i64 (dI : Int), .int .u8 0, .int .u8 p0, .int .u8 p1, .int .u8 p2, .int .u8 p3] 77)
            obtain ⟨w7, hw7⟩ : ∃ w7, w7 = wr.alloc (.cells #[.int .i64 (s : Int), .int .i64 (dI : Int), .int .u8 0, .int .u8 p0, .int .u8 p1, .int .u8 p2, .int .u8 p3] 77) := ⟨_, rfl⟩
            obtain ⟨X, hX⟩ : ∃ X, X = wr.heap.size := ⟨_, rfl⟩
            rw [← hw7] at hba hbb
            rw [← hX] at hbb
            rw [← hw7, ← hX]
            have hY7 := (hba.block Y (blk_lt HY6.out)).trans HY6.out
            have hY1 : w7.cell? ⟨Y, 1, none⟩ = some (.int .i64 (t : Int)) := blk_cell hY7 1
            have hY2 : w7.cell? ⟨Y, 2, none⟩ = some (.int .i64 (n : Int)) := blk_cell hY7 2
            have hX0 : w7.cell? ⟨X, 0, none⟩ = _ := blk_cell hbb 0
            have hX1 : w7.cell? ⟨X, 1, none⟩ = _ := blk_cell hbb 1
            have hX2 : w7.cell? ⟨X, 2, none⟩ = _ := blk_cell hbb 2
            have hX3 : w7.cell? ⟨X, 3, none⟩ = _ := blk_cell hbb 3
            have hX4 : w7.cell? ⟨X, 4, none⟩ = _ := blk_cell hbb 4
            have hX5 : w7.cell? ⟨X, 5, none⟩ = _ := blk_cell hbb 5
            have hX6 : w7.cell? ⟨X, 6, none⟩ = _ := blk_cell hbb 6
            have HY7 := Aside0.mk hY7
            have HBA := Aside0.mk hba
            have hD7 := HD6.out.below hba
            have hn7 : n₀ ≤ w7.heap.size := Nat.le_trans HN.out (Nat.le_trans HB6.out.size hba.size)
            have hle := AJ.le HAJ.out
            have had := add_way (s := s) (i := 0) (t := t) hD7 hn7 HW.out (s : Int) (dI : Int) 0 HST.out.2 (n : Int) ⟨by omega, by have := HNL.out; omega⟩ (by have := HL2.out; have := HLEN.out; omega)
            rw [← HP.out.1, ← HP.out.2.1, ← HP.out.2.2.1, ← HP.out.2.2.2, ew_nat HW.out] at had
            have HAD := Aside0.mk had
            have HD7 := Aside0.mk (And.intro hD7 hn7)
            clear hba hbb hD7 hn7 hle had hw7 hX hY7
            go_wp2_with (first
              | (go_at_call 44; refine Aside0.out ?_)
              | fail)
            refine Aside0.mk ?_
            refine HAD.out.mono ?_
            rintro e w8 ⟨rfl, v8, L8, hD8, hF8, hN8, hA8⟩
            have hY8 := (hF8.block Y (blk_lt HY7.out) HG6.out.1 HG6.out.2).trans HY7.out
            have hb7 : Below n₀ wr w7 := ⟨HBA.out.os, HBA.out.tape, HBA.out.output, HBA.out.size, fun k hk => HBA.out.block k (Nat.lt_of_lt_of_le hk (Nat.le_trans HN.out HB6.out.size))⟩
            have hb8 := (HB6.out.trans hb7).trans (HD7.out.1.fr hF8 HD7.out.2)
            have hG8 := apart_newer hN8 (blk_lt HY7.out) HG6.out
            have hde : dst s 0 = dI := by unfold dst; have := HDD.out; omega
            have hJ8 : AJ L1 ps2 ((dst s 0 : Int), (nx t : Int), (n : Int) + en (wOf a b c d) s 0 t) ((dst s 1 : Int), (nx t : Int), (n : Int) + en (wOf a b c d) s 1 t) 1 L8 := by
              rw [← hde] at hA8
              have e0 : LL = L1 := HAJ.out
              rw [e0] at hA8
              exact hA8
            have H8 := Aside0.mk (And.intro hD8 (And.intro hb8 (And.intro hY8 (And.intro hG8 hJ8))))
            clear hD8 hF8 hN8 hA8 hY8 hb7 hb8 hG8 hde hJ8 HAD HD7 HBA HY7 hix hY1 hY2 hX0 hX1 hX2 hX3 hX4 hX5 hX6
            go_wp2_with fail
            go_roundw
            case rel => exact ⟨1, v8, L8, by simp, by omega, ⟨H8.out.1⟩, ⟨H8.out.2.1⟩, ⟨H8.out.2.2.1⟩, ⟨H8.out.2.2.2.1⟩, ⟨H8.out.2.2.2.2⟩⟩
            case measure => simp [intOf]
          · skip
            have hix := fun w' => idx78_1 (.int .i64 (s : Int)) (.int .i64 (dI : Int)) (.int .u8 0) (.int .u8 p0) (.int .u8 p1) (.int .u8 p2) (.int .u8 p3) (.int .i64 (s : Int)) (.int .i64 (dJ : Int)) (.int .u8 1) (.int .u8 q0) (.int .u8 q1) (.int .u8 q2) (.int .u8 q3) w'
            go_wp2_with (first
              | ((with_reducible refine gate_ (.load 77 (.tmp 9)) rfl ?_); refine Aside0.out ?_)
              | fail)
            refine Aside0.mk ?_
            have hba := below_alloc (Below.refl wr.heap.size wr) (.cells #[.int .i64 (s : Int), .int .i64 (dJ : Int), .int .u8 1, .int .u8 q0, .int .u8 q1, .int .u8 q2, .int .u8 q3] 77)
            have hbb := blk_new wr (.cells #[.int .i64 (s : Int), .int .i64 (dJ : Int), .int .u8 1, .int .u8 q0, .int .u8 q1, .int .u8 q2, .int .u8 q3] 77)
            obtain ⟨w7, hw7⟩ : ∃ w7, w7 = wr.alloc (.cells #[.int .i64 (s : Int), .int .i64 (dJ : Int), .int .u8 1, .int .u8 q0, .int .u8 q1, .int .u8 q2, .int .u8 q3] 77) := ⟨_, rfl⟩
            obtain ⟨X, hX⟩ : ∃ X, X = wr.heap.size := ⟨_, rfl⟩
            rw [← hw7] at hba hbb
            rw [← hX] at hbb
            rw [← hw7, ← hX]
            have hY7 := (hba.block Y (blk_lt HY6.out)).trans HY6.out
            have hY1 : w7.cell? ⟨Y, 1, none⟩ = some (.int .i64 (t : Int)) := blk_cell hY7 1
            have hY2 : w7.cell? ⟨Y, 2, none⟩ = some (.int .i64 (n : Int)) := blk_cell hY7 2
            have hX0 : w7.cell? ⟨X, 0, none⟩ = _ := blk_cell hbb 0
            have hX1 : w7.cell? ⟨X, 1, none⟩ = _ := blk_cell hbb 1
            have hX2 : w7.cell? ⟨X, 2, none⟩ = _ := blk_cell hbb 2
            have hX3 : w7.cell? ⟨X, 3, none⟩ = _ := blk_cell hbb 3
            have hX4 : w7.cell? ⟨X, 4, none⟩ = _ := blk_cell hbb 4
            have hX5 : w7.cell? ⟨X, 5, none⟩ = _ := blk_cell hbb 5
            have hX6 : w7.cell? ⟨X, 6, none⟩ = _ := blk_cell hbb 6
            have HY7 := Aside0.mk hY7
            have HBA := Aside0.mk hba
            have hD7 := HD6.out.below hba
            have hn7 : n₀ ≤ w7.heap.size := Nat.le_trans HN.out (Nat.le_trans HB6.out.size hba.size)
            have hle := AJ.le HAJ.out
            have had := add_way (s := s) (i := 1) (t := t) hD7 hn7 HW.out (s : Int) (dJ : Int) 1 HST.out.2 (n : Int) ⟨by omega, by have := HNL.out; omega⟩ (by have := HL2.out; have := HLEN.out; omega)
            rw [← HQ.out.1, ← HQ.out.2.1, ← HQ.out.2.2.1, ← HQ.out.2.2.2, ew_nat HW.out] at had
            have HAD := Aside0.mk had
            have HD7 := Aside0.mk (And.intro hD7 hn7)
            clear hba hbb hD7 hn7 hle had hw7 hX hY7
            go_wp2_with (first
              | (go_at_call 44; refine Aside0.out ?_)
              | fail)
            refine Aside0.mk ?_
            refine HAD.out.mono ?_
            rintro e w8 ⟨rfl, v8, L8, hD8, hF8, hN8, hA8⟩
            have hY8 := (hF8.block Y (blk_lt HY7.out) HG6.out.1 HG6.out.2).trans HY7.out
            have hb7 : Below n₀ wr w7 := ⟨HBA.out.os, HBA.out.tape, HBA.out.output, HBA.out.size, fun k hk => HBA.out.block k (Nat.lt_of_lt_of_le hk (Nat.le_trans HN.out HB6.out.size))⟩
            have hb8 := (HB6.out.trans hb7).trans (HD7.out.1.fr hF8 HD7.out.2)
            have hG8 := apart_newer hN8 (blk_lt HY7.out) HG6.out
            have hde : dst s 1 = dJ := by unfold dst; have := HDD.out; omega
            have hJ8 : AJ L1 ps2 ((dst s 0 : Int), (nx t : Int), (n : Int) + en (wOf a b c d) s 0 t) ((dst s 1 : Int), (nx t : Int), (n : Int) + en (wOf a b c d) s 1 t) 2 L8 := by
              rw [← hde] at hA8
              exact ⟨LL, HAJ.out, hA8⟩
            have H8 := Aside0.mk (And.intro hD8 (And.intro hb8 (And.intro hY8 (And.intro hG8 hJ8))))
            clear hD8 hF8 hN8 hA8 hY8 hb7 hb8 hG8 hde hJ8 HAD HD7 HBA HY7 hix hY1 hY2 hX0 hX1 hX2 hX3 hX4 hX5 hX6
            go_wp2_with fail
            go_roundw
            case rel => exact ⟨2, v8, L8, by simp, by omega, ⟨H8.out.1⟩, ⟨H8.out.2.1⟩, ⟨H8.out.2.2.1⟩, ⟨H8.out.2.2.2.1⟩, ⟨H8.out.2.2.2.2⟩⟩
            case measure => simp [intOf]
          · have hJ3 := HAJ.out
            obtain ⟨L2, hA1, hA2⟩ := hJ3
            rw [HPS.out] at hA1 hA2
            have hJn := HJ.out.next HW.out H1.out.2.2 HX.out.2.1 hs0 HIN.out hA1 hA2
            rw [← HPS.out] at hJn
            have hle := AJ.le HAJ.out
            have hpl : ps2.length = ps.length + 1 := by rw [HPS.out]; simp
            have hp256 := hJn.le
            have HJN := Aside0.mk (And.intro hJn (And.intro hle (And.intro hpl hp256)))
            clear hA1 hA2 hJn hle hpl hp256
            go_wp2_with fail
            go_roundw
            case rel => exact ⟨vv, LL, ps2, _, HD6, ⟨HJN.out.1⟩, HB6⟩
            case measure =>
              rw [HMS.out, HD6.out.dms]
              have h1 := HJN.out.2.1
              have h2 := HJN.out.2.2.1
              have h3 := HJN.out.2.2.2
              have h4 := HL2.out
              omega
end Go.Proofs.YtijpnlmejphfhaaDoor.P

-- YtijpnlmejphfhaaDoorPDLeast
namespace Go.Proofs.YtijpnlmejphfhaaDoor.P
open Go Go.Proofs Go.RowKit Go.Proofs.YtijpnlmejphfhaaDoorW.PrintWords Go.Proofs.YtijpnlmejphfhaaDoorW.PrintLast Go.Proofs.YtijpnlmejphfhaaDoorW.PrintMore
set_option linter.unusedVariables false
set_option linter.unusedSimpArgs false
attribute [local go_sem] run_index_arr

theorem blk_new' (w : World) : (w.alloc (.map #[] 0)).heap[w.heap.size]? = some (.map #[] 0) := by
  show (w.heap.push (.map #[] 0))[w.heap.size]? = _
  exact Array.getElem?_push_size
theorem arr22 : Tryd.prog.underlying 22 = some (.array (Tryd.prog.arrayLen 22) (Tryd.prog.elem 22)) := by kernel_rfl
theorem len22 : Tryd.prog.arrayLen 22 = 4 := by kernel_rfl
theorem el22 : Tryd.prog.elem 22 = 3 := by kernel_rfl
theorem idx22 (x0 x1 x2 x3 : Int) (i : Nat) (hi : i < 4) (w : World) : (Instr.index 22 (.agg #[.int .i64 x0, .int .i64 x1, .int .i64 x2, .int .i64 x3]) (.int .i64 (i : Int))).run Tryd.prog w = .ok (.int .i64 (wOf x0 x1 x2 x3 i)) w := by
  rw [run_index_arr w 22 _ .i64 (i : Int) arr22, len22, el22, if_pos (by omega)]
  obtain rfl | rfl | rfl | rfl : i = 0 ∨ i = 1 ∨ i = 2 ∨ i = 3 := by omega
  all_goals kernel_rfl
set_option maxRecDepth 100000 in
set_option maxHeartbeats 8000000 in
theorem dleast_calls (a b c d : Int) {w : World} (hT : TP w) (hw : wok a b c d = true) :
    Calls Tryd.prog 18 #[.agg #[.int .i64 a, .int .i64 b, .int .i64 c, .int .i64 d]] w fun e w' =>
      ∃ n : Nat, e = .returned (.tuple #[.int .i64 (n : Int), .int .i64 0]) ∧ IsLeast (wOf a b c d) n ∧ Below w.heap.size w w' := by
  have HT := Aside0.mk hT
  have HW := Aside0.mk (wok_in hw)
  have hmm := @run_makeMap Tryd.prog
  clear hT hw
  go_enter Tryd.func18, Tryd.ntmps18
  go_wp2_with fail
  have hba := below_alloc (Below.refl w.heap.size w) (.cells #[.int .i64 a, .int .i64 b, .int .i64 c, .int .i64 d] 22)
  have hbb := blk_new w (.cells #[.int .i64 a, .int .i64 b, .int .i64 c, .int .i64 d] 22)
  obtain ⟨w1, hw1⟩ : ∃ w1, w1 = w.alloc (.cells #[.int .i64 a, .int .i64 b, .int .i64 c, .int .i64 d] 22) := ⟨_, rfl⟩
  obtain ⟨x0, hx0⟩ : ∃ x0, x0 = w.heap.size := ⟨_, rfl⟩
  rw [← hw1] at hba hbb
  rw [← hx0] at hbb
  rw [← hw1, ← hx0]
  have H1 := Aside0.mk (And.intro hba hbb)
  clear hba hbb hw1 hx0
  go_loopw [9] (fun v9 wr => ∃ i : Nat, v9 = .int .i64 (i : Int) ∧ i ≤ 4 ∧ wr = w1) (fun v9 _ => 4 - (intOf v9).toNat)
  case atStart => exact ⟨0, by simp, by omega, rfl⟩
  case round =>
    obtain ⟨i, rfl, hi, rfl⟩ := hrel
    by_cases hlt : i < 4
    · have hlb : decide ((i : Int) < 4) = true := decide_eq_true (by omega)
      have hi4 : (i : Int) < 4 := by omega
      have hix := idx22 a b c d i hlt
      have hv := HW.out i hlt
      obtain ⟨y, hy⟩ : ∃ y, y = wOf a b c d i := ⟨_, rfl⟩
      rw [← hy] at hix hv
      have hd1 : decide (y < 0) = false := decide_eq_false (by omega)
      have hd2 : decide (7 < y) = false := decide_eq_false (by omega)
      clear hy
      go_wp2_with fail
      go_roundw
      case rel => exact ⟨i + 1, by simp, by omega, by first | trivial | rfl⟩
      case measure => simp [intOf]; omega
    · obtain rfl : i = 4 := by omega
      have hlb : decide (((4 : Nat) : Int) < 4) = false := by decide
      have hc0 := blk_cell H1.out.2 0
      have hc1 := blk_cell H1.out.2 1
      have hc2 := blk_cell H1.out.2 2
      have hc3 := blk_cell H1.out.2 3
      go_wp2_with (first
        | (go_at_call 35; refine Aside0.out ?_)
        | fail)
      refine Aside0.mk ?_
      have hba := below_alloc (Below.refl wr.heap.size wr) (.map #[] 0)
      have hbb := blk_new' wr
      obtain ⟨w2, hw2⟩ : ∃ w2, w2 = wr.alloc (.map #[] 0) := ⟨_, rfl⟩
      have hz2 : w2.heap.size = wr.heap.size + 1 := by rw [hw2, World.size_alloc]
      obtain ⟨m, hm⟩ : ∃ m, m = wr.heap.size := ⟨_, rfl⟩
      rw [← hw2] at hba hbb
      rw [← hm] at hbb
      rw [← hw2, ← hz2, ← hm]
      have hba2 := below_alloc (Below.refl w2.heap.size w2) (.cells #[.int .i64 a, .int .i64 b, .int .i64 c, .int .i64 d, .slice none 0 0, .map (some m)] 72)
      have hbb2 := blk_new w2 (.cells #[.int .i64 a, .int .i64 b, .int .i64 c, .int .i64 d, .slice none 0 0, .map (some m)] 72)
      obtain ⟨w3, hw3⟩ : ∃ w3, w3 = w2.alloc (.cells #[.int .i64 a, .int .i64 b, .int .i64 c, .int .i64 d, .slice none 0 0, .map (some m)] 72) := ⟨_, rfl⟩
      obtain ⟨g, hg⟩ : ∃ g, g = w2.heap.size := ⟨_, rfl⟩
      rw [← hw3] at hba2 hbb2
      rw [← hg] at hbb2
      rw [← hw3, ← hg]
      have hwr : w.heap.size ≤ wr.heap.size := H1.out.1.size
      have hB3 := below_step (below_step H1.out.1 hba) hba2
      have hDS : DS w3 w.heap.size g m a b c d (.slice none 0 0) [] [] := by
        refine ⟨⟨hbb2, Kd.R_nil _ _ _ _ _, by omega⟩, ⟨#[], 0, (hba2.block m (by omega)).trans hbb, rfl⟩, by omega, fun k h0 hk => absurd hk (Nat.not_lt_zero _)⟩
      have HDS := Aside0.mk hDS
      have HB3 := Aside0.mk hB3
      clear hba hbb hw2 hz2 hm hba2 hbb2 hw3 hg hwr hB3 hDS hc0 hc1 hc2 hc3 hmm
      refine (dbegin_calls (TP_of HT.out HB3.out) HDS.out HB3.out.size HW.out).mono ?_
      rintro e w4 ⟨rfl, v4, L4, hD4, hb4, hJ4⟩
      have HR := Aside0.mk (drun_calls (TP_of HT.out (HB3.out.trans hb4)) HT.out.lt (Nat.le_trans HB3.out.size hb4.size) hD4 hJ4 HW.out)
      have HB4 := Aside0.mk (HB3.out.trans hb4)
      clear hD4 hb4 hJ4 HDS
      go_wp2_with (first
        | (go_at_call 36; refine Aside0.out ?_)
        | fail)
      refine Aside0.mk ?_
      refine HR.out.mono ?_
      rintro e w5 ⟨n, rfl, hl, hb5⟩
      have H5 := Aside0.mk (And.intro hl (HB4.out.trans hb5))
      clear hl hb5 HR
      go_wp2_with fail
      go_ret2
      exact ⟨n, by simp, H5.out.1, H5.out.2⟩
set_option maxRecDepth 100000 in
set_option maxHeartbeats 8000000 in
theorem dleast_bad (a b c d : Int) (w : World) (hw : wok a b c d = false) :
    Calls Tryd.prog 18 #[.agg #[.int .i64 a, .int .i64 b, .int .i64 c, .int .i64 d]] w fun e w' => e = .returned (.tuple #[.int .i64 0, .int .i64 1]) ∧ Below w.heap.size w w' := by
  have HW := Aside0.mk hw
  clear hw
  go_enter Tryd.func18, Tryd.ntmps18
  go_wp2_with fail
  have hba := below_alloc (Below.refl w.heap.size w) (.cells #[.int .i64 a, .int .i64 b, .int .i64 c, .int .i64 d] 22)
  obtain ⟨w1, hw1⟩ : ∃ w1, w1 = w.alloc (.cells #[.int .i64 a, .int .i64 b, .int .i64 c, .int .i64 d] 22) := ⟨_, rfl⟩
  obtain ⟨x0, hx0⟩ : ∃ x0, x0 = w.heap.size := ⟨_, rfl⟩
  rw [← hw1] at hba
  rw [← hw1, ← hx0]
  have H1 := Aside0.mk hba
  clear hba hw1 hx0
  go_loopw [9] (fun v9 wr => ∃ i : Nat, v9 = .int .i64 (i : Int) ∧ i ≤ 4 ∧ wr = w1 ∧ Aside0 (∀ q, q < i → inW (wOf a b c d q) 7 = true)) (fun v9 _ => 4 - (intOf v9).toNat)
  case atStart => exact ⟨0, by simp, by omega, rfl, ⟨fun q hq => absurd hq (Nat.not_lt_zero _)⟩⟩
  case round =>
    obtain ⟨i, rfl, hi, rfl, HQ⟩ := hrel
    by_cases hlt : i < 4
    · have hlb : decide ((i : Int) < 4) = true := decide_eq_true (by omega)
      have hi4 : (i : Int) < 4 := by omega
      have hix := idx22 a b c d i hlt
      by_cases hv : inW (wOf a b c d i) 7 = true
      · have HQ2 := Aside0.mk (show ∀ q, q < i + 1 → inW (wOf a b c d q) 7 = true from fun q hq => by
          by_cases e : q = i
          · rw [e]; exact hv
          · exact HQ.out q (by omega))
        have hv2 := (inW_iff _ _).1 hv
        obtain ⟨y, hy⟩ : ∃ y, y = wOf a b c d i := ⟨_, rfl⟩
        rw [← hy] at hix hv2
        have hd1 : decide (y < 0) = false := decide_eq_false (by omega)
        have hd2 : decide (7 < y) = false := decide_eq_false (by omega)
        clear hy hv
        go_wp2_with fail
        go_roundw
        case rel => exact ⟨i + 1, by simp, by omega, by first | trivial | rfl, HQ2⟩
        case measure => simp [intOf]; omega
      · have hv2 : ¬ (0 ≤ wOf a b c d i ∧ wOf a b c d i ≤ 7) := fun h => hv ((inW_iff _ _).2 h)
        obtain ⟨y, hy⟩ : ∃ y, y = wOf a b c d i := ⟨_, rfl⟩
        rw [← hy] at hix hv2
        clear hy hv
        by_cases hy0 : y < 0
        · have hd1 : decide (y < 0) = true := decide_eq_true hy0
          clear hv2
          go_wp2_with fail
          go_ret2
          exact ⟨by simp, H1.out⟩
        · have hd1 : decide (y < 0) = false := decide_eq_false hy0
          have hd2 : decide (7 < y) = true := decide_eq_true (by omega)
          clear hv2
          go_wp2_with fail
          go_ret2
          exact ⟨by simp, H1.out⟩
    · obtain rfl : i = 4 := by omega
      have h0 := HQ.out 0 (by decide)
      have h1 := HQ.out 1 (by decide)
      have h2 := HQ.out 2 (by decide)
      have h3 := HQ.out 3 (by decide)
      have hw := HW.out
      unfold wok at hw
      rw [show inW a 7 = true from h0, show inW b 7 = true from h1, show inW c 7 = true from h2, show inW d 7 = true from h3] at hw
      cases hw
end Go.Proofs.YtijpnlmejphfhaaDoor.P

-- YtijpnlmejphfhaaDoorPDLaw0
namespace Go.Proofs.YtijpnlmejphfhaaDoor.P
open Go Go.Proofs Go.RowKit Go.Proofs.YtijpnlmejphfhaaDoorW.PrintWords Go.Proofs.YtijpnlmejphfhaaDoorW.PrintLast Go.Proofs.YtijpnlmejphfhaaDoorW.PrintMore
set_option linter.unusedVariables false
set_option linter.unusedSimpArgs false
attribute [local go_sem] max2_int min2_int max_two min_two max_three min_three max_four min_four

/-- How far states are at least, where each bit weighs one. -/
def potL : List Nat := [20, 16, 14, 14, 11, 15, 13, 13, 8, 14, 12, 14, 11, 13, 11, 13, 6, 14, 12, 14, 9, 11, 11, 15, 8, 12, 12, 12, 11, 15, 11, 11, 4, 16, 12, 14, 9, 13, 13, 13, 8, 14, 10, 12, 9, 13, 15, 13, 6, 12, 10, 14, 11, 13, 11, 15, 8, 12, 14, 14, 9, 15, 11, 11]
def bitsN (s i : Nat) : Nat := (ob s i 0 + ob s i 1 + ob s i 2 + ob s i 3).toNat
theorem pot_all : (List.range 64).all (fun s => s == 0 || (List.range 2).all fun i => decide (potL.getD (dst s i) 0 ≤ potL.getD s 0 + bitsN s i)) = true := by decide +kernel
theorem wOfz (v : Nat) : wOf 0 0 0 0 v = 0 := by unfold wOf; split <;> rfl
theorem enz (s i t : Nat) : en (wOf 0 0 0 0) s i t = 0 := by
  unfold en ew wsum wsum wsum wsum wsum
  simp only [wOfz, Int.mul_zero, Int.add_zero]
  rfl
theorem wOf1 (v : Nat) : wOf 1 1 1 1 v = 1 := by unfold wOf; split <;> rfl
theorem en1 (s i t : Nat) : en (wOf 1 1 1 1) s i t = bitsN s i := by
  unfold en ew bitsN wsum wsum wsum wsum wsum o4
  simp only [wOf1]
  congr 1
  omega
theorem pot_way {s t x : Nat} (h : Way (wOf 1 1 1 1) s t x) : potL.getD s 0 ≤ x := by
  induction h with
  | first t ht => rw [en1]; decide +kernel
  | next s t x i hw hs hi ih =>
    have h1 := List.all_eq_true.1 pot_all s (List.mem_range.2 hw.lt.1)
    simp only [Bool.or_eq_true, beq_iff_eq] at h1
    rcases h1 with h1 | h1
    · exact absurd h1 hs
    · have h2 := of_decide_eq_true (List.all_eq_true.1 h1 i (List.mem_range.2 hi))
      rw [en1]; omega
theorem least1 {n : Nat} (h : IsLeast (wOf 1 1 1 1) n) : 12 ≤ n := by
  obtain ⟨t, hw⟩ := h.1
  have := pot_way hw
  have e : potL.getD 0 0 = 20 := rfl
  omega
theorem way0 {s t x : Nat} (h : Way (wOf 0 0 0 0) s t x) : x = 0 := by
  induction h with
  | first t ht => exact enz 0 1 t
  | next s t x i hw hs hi ih => rw [ih, enz]
theorem least0 {n : Nat} (h : IsLeast (wOf 0 0 0 0) n) : n = 0 := by
  obtain ⟨t, hw⟩ := h.1
  exact way0 hw
set_option maxRecDepth 100000 in
set_option maxHeartbeats 8000000 in
theorem apart_calls {w : World} (hT : TP w) : Calls Tryd.prog 19 #[] w fun e w' => e = .returned (.bool true) ∧ Below w.heap.size w w' := by
  have HT := Aside0.mk hT
  have HA := Aside0.mk (dleast_calls 1 1 1 1 hT (by decide))
  clear hT
  go_enter Tryd.func19, Tryd.ntmps19
  go_wp2_with (first
    | (go_at_call 18; refine Aside0.out ?_)
    | fail)
  refine Aside0.mk ?_
  refine HA.out.mono ?_
  rintro e w1 ⟨n, rfl, hl, hb⟩
  have hn := least1 hl
  have hd : decide ((12 : Int) ≤ (n : Int)) = true := decide_eq_true (by omega)
  have HB := Aside0.mk hb
  have HZ := Aside0.mk (dleast_calls 0 0 0 0 (TP_of HT.out hb) (by decide))
  clear hl hb HA
  go_wp2_with (first
    | (go_at_call 18; refine Aside0.out ?_)
    | fail)
  refine Aside0.mk ?_
  refine HZ.out.mono ?_
  rintro e w2 ⟨k, rfl, hl, hb⟩
  have hk := least0 hl
  subst hk
  have HB2 := Aside0.mk (below_step HB.out hb)
  clear hl hb HZ
  go_wp2_with fail
  go_ret
  exact ⟨by simp, HB2.out⟩
/-- How many turned bits are mended, of a least distance. -/
def mendN (n : Nat) : Nat := (n - 1) / 2
set_option maxRecDepth 100000 in
set_option maxHeartbeats 8000000 in
theorem mends_calls (a b c d : Int) {w : World} (hT : TP w) (hw : wok a b c d = true) :
    Calls Tryd.prog 22 #[.agg #[.int .i64 a, .int .i64 b, .int .i64 c, .int .i64 d]] w fun e w' =>
      ∃ n : Nat, e = .returned (.tuple #[.int .i64 (mendN n : Int), .int .i64 0]) ∧ IsLeast (wOf a b c d) n ∧ n ≤ 1000 ∧ Below w.heap.size w w' := by
  have HT := Aside0.mk hT
  have HK := Aside0.mk hw
  clear hT hw
  go_enter Tryd.func22, Tryd.ntmps22
  go_wp2_with (first
    | ((with_reducible refine gate_ (.load 22 (.tmp 1)) rfl ?_); refine Aside0.out ?_)
    | fail)
  refine Aside0.mk ?_
  have hba := below_alloc (Below.refl w.heap.size w) (.cells #[.int .i64 a, .int .i64 b, .int .i64 c, .int .i64 d] 22)
  have hbb := blk_new w (.cells #[.int .i64 a, .int .i64 b, .int .i64 c, .int .i64 d] 22)
  obtain ⟨w1, hw1⟩ : ∃ w1, w1 = w.alloc (.cells #[.int .i64 a, .int .i64 b, .int .i64 c, .int .i64 d] 22) := ⟨_, rfl⟩
  obtain ⟨x0, hx0⟩ : ∃ x0, x0 = w.heap.size := ⟨_, rfl⟩
  rw [← hw1] at hba hbb
  rw [← hx0] at hbb
  rw [← hw1, ← hx0]
  have HB1 := Aside0.mk hba
  have HX1 := Aside0.mk hbb
  have HX0 := Aside0.mk (show w.heap.size ≤ x0 by rw [hx0]; exact Nat.le_refl _)
  clear hba hbb hw1 hx0
  have hc0 := blk_cell HX1.out 0
  have hc1 := blk_cell HX1.out 1
  have hc2 := blk_cell HX1.out 2
  have hc3 := blk_cell HX1.out 3
  have HA := Aside0.mk (dleast_calls a b c d (TP_of HT.out HB1.out) HK.out)
  go_wp2_with (first
    | (go_at_call 18; refine Aside0.out ?_)
    | fail)
  refine Aside0.mk ?_
  refine HA.out.mono ?_
  rintro e w2 ⟨n, rfl, hl, hb⟩
  have hn : n ≤ 196 := by
    obtain ⟨t, x, hw, hx⟩ := some_way (wOf a b c d) (wok_in HK.out)
    have := hl.2 t x hw
    omega
  have HL := Aside0.mk (And.intro hl (below_step HB1.out hb))
  clear hl hb HA HK HB1 hc0 hc1 hc2 hc3
  by_cases h0 : n = 0
  · subst h0
    go_wp2_with fail
    have hrs : (Tryd.f22).results = #[.tmp 2, .tmp 3] := by kernel_rfl
    refine bodyPost_ret (results_tmp2 hrs _ _ _) rfl ?_
    exact ⟨0, by simp [mendN], HL.out.1, by omega, HL.out.2⟩
  · obtain ⟨k, rfl⟩ : ∃ k, n = k + 1 := ⟨n - 1, by omega⟩
    have hk1 : ((k + 1 : Nat) : Int) - 1 = (k : Int) := by omega
    have hk2 : Int.tdiv (k : Int) 2 = ((k / 2 : Nat) : Int) := by rw [Int.tdiv_eq_ediv_of_nonneg (by omega)]; omega
    have hk3 : (k : Int) / 2 = ((k / 2 : Nat) : Int) := by omega
    have HN := Aside0.mk hn
    obtain ⟨z, hz⟩ : ∃ z : Int, z = ((k + 1 : Nat) : Int) := ⟨_, rfl⟩
    rw [← hz] at hk1 ⊢
    have hzb : 0 ≤ z ∧ z ≤ 1000 := by omega
    have hkb : (k : Int) ≤ 1000 := by omega
    have hd0 : decide ((k : Int) < 0) = false := decide_eq_false (by omega)
    have hd1 : ¬ (k : Int) < 0 := by omega
    obtain ⟨p, hp⟩ : ∃ p, p = k / 2 := ⟨_, rfl⟩
    rw [← hp] at hk2 hk3
    have hpj : p ≤ k := by omega
    have HP := Aside0.mk hp
    obtain ⟨y, hy⟩ : ∃ y : Int, y = (k : Int) := ⟨_, rfl⟩
    rw [← hy] at hk1 hk2 hk3 hkb hd0 hd1
    have hpb : (p : Int) ≤ 1000 := by omega
    have hy0 : 0 ≤ y := by omega
    clear hz hp hy
    go_wp2_with fail
    have hrs : (Tryd.f22).results = #[.tmp 2, .tmp 3] := by kernel_rfl
    refine bodyPost_ret (results_tmp2 hrs _ _ _) rfl ?_
    exact ⟨k + 1, by rw [HP.out]; simp [mendN], HL.out.1, by have := HN.out; omega, HL.out.2⟩
set_option maxRecDepth 100000 in
set_option maxHeartbeats 8000000 in
theorem mends_bad (a b c d : Int) (w : World) (hw : wok a b c d = false) :
    Calls Tryd.prog 22 #[.agg #[.int .i64 a, .int .i64 b, .int .i64 c, .int .i64 d]] w fun e w' => e = .returned (.tuple #[.int .i64 0, .int .i64 1]) ∧ Below w.heap.size w w' := by
  have HK := Aside0.mk hw
  clear hw
  go_enter Tryd.func22, Tryd.ntmps22
  go_wp2_with (first
    | ((with_reducible refine gate_ (.load 22 (.tmp 1)) rfl ?_); refine Aside0.out ?_)
    | fail)
  refine Aside0.mk ?_
  have hba := below_alloc (Below.refl w.heap.size w) (.cells #[.int .i64 a, .int .i64 b, .int .i64 c, .int .i64 d] 22)
  have hbb := blk_new w (.cells #[.int .i64 a, .int .i64 b, .int .i64 c, .int .i64 d] 22)
  obtain ⟨w1, hw1⟩ : ∃ w1, w1 = w.alloc (.cells #[.int .i64 a, .int .i64 b, .int .i64 c, .int .i64 d] 22) := ⟨_, rfl⟩
  obtain ⟨x0, hx0⟩ : ∃ x0, x0 = w.heap.size := ⟨_, rfl⟩
  rw [← hw1] at hba hbb
  rw [← hx0] at hbb
  rw [← hw1, ← hx0]
  have HB1 := Aside0.mk hba
  have HX1 := Aside0.mk hbb
  have HX0 := Aside0.mk (show w.heap.size ≤ x0 by rw [hx0]; exact Nat.le_refl _)
  clear hba hbb hw1 hx0
  have hc0 := blk_cell HX1.out 0
  have hc1 := blk_cell HX1.out 1
  have hc2 := blk_cell HX1.out 2
  have hc3 := blk_cell HX1.out 3
  have HA := Aside0.mk (dleast_bad a b c d w1 HK.out)
  go_wp2_with (first
    | (go_at_call 18; refine Aside0.out ?_)
    | fail)
  refine Aside0.mk ?_
  refine HA.out.mono ?_
  rintro e w2 ⟨rfl, hb⟩
  have HB := Aside0.mk (below_step HB1.out hb)
  clear hb HA HB1 hc0 hc1 hc2 hc3
  go_wp2_with fail
  go_ret2
  exact ⟨by simp, HB.out⟩
end Go.Proofs.YtijpnlmejphfhaaDoor.P

-- YtijpnlmejphfhaaDoorPDRight
namespace Go.Proofs.YtijpnlmejphfhaaDoor.P
open Go Go.Proofs Go.RowKit Go.Proofs.YtijpnlmejphfhaaDoorW.PrintWords Go.Proofs.YtijpnlmejphfhaaDoorW.PrintLast Go.Proofs.YtijpnlmejphfhaaDoorW.PrintMore
set_option linter.unusedVariables false
set_option linter.unusedSimpArgs false

set_option maxRecDepth 100000 in
set_option maxHeartbeats 8000000 in
theorem right_calls (a b c d : Int) (w : World) :
    Calls Tryd.prog 23 #[.agg #[.int .i64 a, .int .i64 b, .int .i64 c, .int .i64 d]] w fun e w' => e = .returned (.bool (wok a b c d)) ∧ Below w.heap.size w w' := by
  go_enter Tryd.func23, Tryd.ntmps23
  go_wp2_with fail
  have hba := below_alloc (Below.refl w.heap.size w) (.cells #[.int .i64 a, .int .i64 b, .int .i64 c, .int .i64 d] 22)
  have hbb := blk_new w (.cells #[.int .i64 a, .int .i64 b, .int .i64 c, .int .i64 d] 22)
  obtain ⟨w1, hw1⟩ : ∃ w1, w1 = w.alloc (.cells #[.int .i64 a, .int .i64 b, .int .i64 c, .int .i64 d] 22) := ⟨_, rfl⟩
  obtain ⟨x0, hx0⟩ : ∃ x0, x0 = w.heap.size := ⟨_, rfl⟩
  rw [← hw1] at hba hbb
  rw [← hx0] at hbb
  rw [← hw1, ← hx0]
  have HB1 := Aside0.mk hba
  have HX1 := Aside0.mk hbb
  clear hba hbb hw1 hx0
  go_loopw [3] (fun v3 wr => ∃ i : Nat, v3 = .int .i64 (i : Int) ∧ i ≤ 4 ∧ wr = w1 ∧ Aside0 (∀ q, q < i → inW (wOf a b c d q) 7 = true)) (fun v3 _ => 4 - (intOf v3).toNat)
  case atStart => exact ⟨0, by simp, by omega, rfl, ⟨fun q hq => absurd hq (Nat.not_lt_zero _)⟩⟩
  case round =>
    obtain ⟨i, rfl, hi, rfl, HQ⟩ := hrel
    obtain ⟨w1, hwe⟩ : ∃ w1, w1 = wr := ⟨_, rfl⟩
    subst hwe
    have hcase : i = 0 ∨ i = 1 ∨ i = 2 ∨ i = 3 ∨ i = 4 := by omega
    rcases hcase with rfl | rfl | rfl | rfl | rfl
    · skip
      have hc : w1.cell? ⟨x0, 0, none⟩ = some (.int .i64 a) := blk_cell HX1.out 0
      by_cases hy0 : a < 0
      · have hd1 : decide (a < 0) = true := decide_eq_true hy0
        go_wp2_with fail
        go_ret
        refine ⟨?_, HB1.out⟩
        have : wok a b c d = false := by
          cases hk : wok a b c d
          · rfl
          · have := wok_in hk 0 (by decide)
            simp only [wOf] at this
            omega
        rw [this]; simp
      · have hd1 : decide (a < 0) = false := decide_eq_false hy0
        by_cases hy7 : 7 < a
        · have hd2 : decide (7 < a) = true := decide_eq_true hy7
          go_wp2_with fail
          go_ret
          refine ⟨?_, HB1.out⟩
          have : wok a b c d = false := by
            cases hk : wok a b c d
            · rfl
            · have := wok_in hk 0 (by decide)
              simp only [wOf] at this
              omega
          rw [this]; simp
        · have hd2 : decide (7 < a) = false := decide_eq_false hy7
          have HQ2 := Aside0.mk (show ∀ q, q < 0 + 1 → inW (wOf a b c d q) 7 = true from fun q hq => by
            by_cases e : q = 0
            · rw [e]; exact (inW_iff _ _).2 (by show 0 ≤ a ∧ a ≤ 7; omega)
            · exact HQ.out q (by omega))
          go_wp2_with fail
          go_roundw
          case rel => exact ⟨0 + 1, by simp, by omega, by first | trivial | rfl, HQ2⟩
          case measure => simp [intOf]
    · skip
      have hc : w1.cell? ⟨x0, 1, none⟩ = some (.int .i64 b) := blk_cell HX1.out 1
      by_cases hy0 : b < 0
      · have hd1 : decide (b < 0) = true := decide_eq_true hy0
        go_wp2_with fail
        go_ret
        refine ⟨?_, HB1.out⟩
        have : wok a b c d = false := by
          cases hk : wok a b c d
          · rfl
          · have := wok_in hk 1 (by decide)
            simp only [wOf] at this
            omega
        rw [this]; simp
      · have hd1 : decide (b < 0) = false := decide_eq_false hy0
        by_cases hy7 : 7 < b
        · have hd2 : decide (7 < b) = true := decide_eq_true hy7
          go_wp2_with fail
          go_ret
          refine ⟨?_, HB1.out⟩
          have : wok a b c d = false := by
            cases hk : wok a b c d
            · rfl
            · have := wok_in hk 1 (by decide)
              simp only [wOf] at this
              omega
          rw [this]; simp
        · have hd2 : decide (7 < b) = false := decide_eq_false hy7
          have HQ2 := Aside0.mk (show ∀ q, q < 1 + 1 → inW (wOf a b c d q) 7 = true from fun q hq => by
            by_cases e : q = 1
            · rw [e]; exact (inW_iff _ _).2 (by show 0 ≤ b ∧ b ≤ 7; omega)
            · exact HQ.out q (by omega))
          go_wp2_with fail
          go_roundw
          case rel => exact ⟨1 + 1, by simp, by omega, by first | trivial | rfl, HQ2⟩
          case measure => simp [intOf]
    · skip
      have hc : w1.cell? ⟨x0, 2, none⟩ = some (.int .i64 c) := blk_cell HX1.out 2
      by_cases hy0 : c < 0
      · have hd1 : decide (c < 0) = true := decide_eq_true hy0
        go_wp2_with fail
        go_ret
        refine ⟨?_, HB1.out⟩
        have : wok a b c d = false := by
          cases hk : wok a b c d
          · rfl
          · have := wok_in hk 2 (by decide)
            simp only [wOf] at this
            omega
        rw [this]; simp
      · have hd1 : decide (c < 0) = false := decide_eq_false hy0
        by_cases hy7 : 7 < c
        · have hd2 : decide (7 < c) = true := decide_eq_true hy7
          go_wp2_with fail
          go_ret
          refine ⟨?_, HB1.out⟩
          have : wok a b c d = false := by
            cases hk : wok a b c d
            · rfl
            · have := wok_in hk 2 (by decide)
              simp only [wOf] at this
              omega
          rw [this]; simp
        · have hd2 : decide (7 < c) = false := decide_eq_false hy7
          have HQ2 := Aside0.mk (show ∀ q, q < 2 + 1 → inW (wOf a b c d q) 7 = true from fun q hq => by
            by_cases e : q = 2
            · rw [e]; exact (inW_iff _ _).2 (by show 0 ≤ c ∧ c ≤ 7; omega)
            · exact HQ.out q (by omega))
          go_wp2_with fail
          go_roundw
          case rel => exact ⟨2 + 1, by simp, by omega, by first | trivial | rfl, HQ2⟩
          case measure => simp [intOf]
    · skip
      have hc : w1.cell? ⟨x0, 3, none⟩ = some (.int .i64 d) := blk_cell HX1.out 3
      by_cases hy0 : d < 0
      · have hd1 : decide (d < 0) = true := decide_eq_true hy0
        go_wp2_with fail
        go_ret
        refine ⟨?_, HB1.out⟩
        have : wok a b c d = false := by
          cases hk : wok a b c d
          · rfl
          · have := wok_in hk 3 (by decide)
            simp only [wOf] at this
            omega
        rw [this]; simp
      · have hd1 : decide (d < 0) = false := decide_eq_false hy0
        by_cases hy7 : 7 < d
        · have hd2 : decide (7 < d) = true := decide_eq_true hy7
          go_wp2_with fail
          go_ret
          refine ⟨?_, HB1.out⟩
          have : wok a b c d = false := by
            cases hk : wok a b c d
            · rfl
            · have := wok_in hk 3 (by decide)
              simp only [wOf] at this
              omega
          rw [this]; simp
        · have hd2 : decide (7 < d) = false := decide_eq_false hy7
          have HQ2 := Aside0.mk (show ∀ q, q < 3 + 1 → inW (wOf a b c d q) 7 = true from fun q hq => by
            by_cases e : q = 3
            · rw [e]; exact (inW_iff _ _).2 (by show 0 ≤ d ∧ d ≤ 7; omega)
            · exact HQ.out q (by omega))
          go_wp2_with fail
          go_roundw
          case rel => exact ⟨3 + 1, by simp, by omega, by first | trivial | rfl, HQ2⟩
          case measure => simp [intOf]
    · go_wp2_with fail
      go_ret
      refine ⟨?_, HB1.out⟩
      have h0 := HQ.out 0 (by decide)
      have h1 := HQ.out 1 (by decide)
      have h2 := HQ.out 2 (by decide)
      have h3 := HQ.out 3 (by decide)
      have hw : wok a b c d = true := by
        unfold wok
        rw [show inW a 7 = true from h0, show inW b 7 = true from h1, show inW c 7 = true from h2, show inW d 7 = true from h3]
        rfl
      rw [hw]; simp
end Go.Proofs.YtijpnlmejphfhaaDoor.P

-- YtijpnlmejphfhaaDoorPSRef2
namespace Go.Proofs.YtijpnlmejphfhaaDoor.P
open Go Go.Proofs Go.RowKit Go.Proofs.YtijpnlmejphfhaaDoorW.PrintWords Go.Proofs.YtijpnlmejphfhaaDoorW.PrintLast Go.Proofs.YtijpnlmejphfhaaDoorW.PrintMore
set_option linter.unusedVariables false
set_option linter.unusedSimpArgs false
attribute [local go_sem] max2_int min2_int max_two min_two max_three min_three max_four min_four

/-- A list of n numbers, of which the first m are f's. -/
def fill (f : Nat → Int) (n : Nat) (z : Int) (m : Nat) : List Int := (List.range n).map fun q => if q < m then f q else z
theorem fill_length (f : Nat → Int) (n : Nat) (z : Int) (m : Nat) : (fill f n z m).length = n := by simp [fill]
theorem fill_get? (f : Nat → Int) (n : Nat) (z : Int) (m q : Nat) : (fill f n z m)[q]? = if q < n then some (if q < m then f q else z) else none := by
  unfold fill
  rw [List.getElem?_map]
  by_cases h : q < n
  · rw [List.getElem?_range h, if_pos h]; rfl
  · rw [if_neg h, List.getElem?_eq_none (by simp; omega)]; rfl
theorem fill_set (f : Nat → Int) (n : Nat) (z : Int) (m : Nat) : (fill f n z m).set m (f m) = fill f n z (m + 1) := by
  apply List.ext_getElem?
  intro q
  rw [List.getElem?_set, fill_get?, fill_get?, fill_length]
  by_cases e : m = q
  · subst e
    rw [if_pos rfl]
    by_cases k : m < n
    · rw [if_pos k, if_pos k, if_pos (Nat.lt_succ_self _)]
    · rw [if_neg k, if_neg k]
  · rw [if_neg e]
    by_cases k : q < n
    · rw [if_pos k, if_pos k]
      by_cases k2 : q < m
      · rw [if_pos k2, if_pos (by omega)]
      · rw [if_neg k2, if_neg (by omega)]
    · rw [if_neg k, if_neg k]
theorem fill_get (f : Nat → Int) (n : Nat) (z : Int) (m q : Nat) (h : q < n) (hm : q < m) : (fill f n z m).getD q 0 = f q := by
  rw [List.getD_eq_getElem?_getD, fill_get?, if_pos h, if_pos hm]; rfl
theorem fill_zero (f : Nat → Int) (n : Nat) (z : Int) : fill f n z 0 = List.replicate n z := by
  apply List.ext_getElem
  · simp [fill_length]
  · intro q h1 h2
    simp [fill]
theorem ints_cell' {w : World} {a : Nat} {l : List Int} {t : TypeId} (h : w.heap[a]? = some (.cells (ints l) t (0, 0))) (j : Nat) (hj : j < l.length) : w.cell? ⟨a, j, none⟩ = some (.int .i64 (l.getD j 0)) :=
  (blk_cell h j).trans (ints_get l j hj)
/-- An edge's cells. -/
def eC (q : Nat) : Nat → Value
  | 0 => .int .i64 ((q / 2 : Nat) : Int)
  | 1 => .int .i64 ((dst (q / 2) (q % 2) : Nat) : Int)
  | 2 => .int .u8 ((q % 2 : Nat) : Int)
  | 3 => .int .u8 (ob (q / 2) (q % 2) 0)
  | 4 => .int .u8 (ob (q / 2) (q % 2) 1)
  | 5 => .int .u8 (ob (q / 2) (q % 2) 2)
  | _ => .int .u8 (ob (q / 2) (q % 2) 3)
/-- The edges' table, up to the m-th. -/
def EB (w : World) (E m : Nat) : Prop := ∃ C, w.heap[E]? = some (.cells C 60 (0, 0)) ∧ C.size = 896 ∧ ∀ q j, q < m → j < 7 → C[7 * q + j]? = some (eC q j)
theorem EB.below {w w' : World} {E m : Nat} (h : EB w E m) (hb : Below w.heap.size w w') : EB w' E m := by
  obtain ⟨C, h1, h2⟩ := h
  exact ⟨C, (hb.block E (blk_lt h1)).trans h1, h2⟩
def wv (W : Nat → Int) (q : Nat) : Int := ew W (q / 8) (q / 4 % 2) (q % 4)
/-- The three tables, while they are being filled. -/
structure R1 (w0 w : World) (x0 E V : Nat) (a b c d : Int) (m q : Nat) : Prop where
  bel : Below w0.heap.size w0 w
  box : w.heap[x0]? = some (.cells #[.int .i64 a, .int .i64 b, .int .i64 c, .int .i64 d] 22 (0, 0))
  edge : EB w E m
  wt : w.heap[V]? = some (.cells (ints (fill (wv (wOf a b c d)) 512 0 q)) 62 (0, 0))
theorem R1.below {w0 w w' : World} {x0 E V : Nat} {a b c d : Int} {m q : Nat} (h : R1 w0 w x0 E V a b c d m q) (hb : Below w.heap.size w w') : R1 w0 w' x0 E V a b c d m q :=
  ⟨below_step h.bel hb, (hb.block x0 (blk_lt h.box)).trans h.box, h.edge.below hb, (hb.block V (blk_lt h.wt)).trans h.wt⟩
def eL (q : Nat) : List Value := [eC q 0, eC q 1, eC q 2, eC q 3, eC q 4, eC q 5, eC q 6]
theorem eL_get (q j : Nat) (h : j < 7) : (eL q)[j]? = some (eC q j) := by
  obtain rfl | rfl | rfl | rfl | rfl | rfl | rfl : j = 0 ∨ j = 1 ∨ j = 2 ∨ j = 3 ∨ j = 4 ∨ j = 5 ∨ j = 6 := by omega
  all_goals rfl
theorem eL_at (s i : Nat) (hi : i < 2) : #[Value.int .i64 (s : Int), .int .i64 ((dst s i : Nat) : Int), .int .u8 (i : Int), .int .u8 (ob s i 0), .int .u8 (ob s i 1), .int .u8 (ob s i 2), .int .u8 (ob s i 3)] = (eL (2 * s + i)).toArray := by
  have e1 : (2 * s + i) / 2 = s := by omega
  have e2 : (2 * s + i) % 2 = i := by omega
  unfold eL eC
  rw [e1, e2]
  rfl
theorem eC_one (q j : Nat) : (eC q j).oneCell' = true := by unfold eC; split <;> rfl
theorem eL_one (q : Nat) : (eL q).toArray.all (·.oneCell') = true := all_oneCell_toArray (fun v hv => by
  simp only [eL, List.mem_cons, List.not_mem_nil, or_false] at hv
  rcases hv with rfl | rfl | rfl | rfl | rfl | rfl | rfl <;> exact eC_one _ _)
theorem EB.cell {w : World} {E m : Nat} (h : EB w E m) (q j : Nat) (hq : q < m) (hj : j < 7) : w.cell? ⟨E, 7 * q + j, none⟩ = some (eC q j) := by
  obtain ⟨C, h1, h2, h3⟩ := h
  exact (blk_cell h1 _).trans (h3 q j hq hj)
theorem EB.there {w : World} {E m : Nat} (h : EB w E m) (q : Nat) (hq : q < 128) : w.there E (7 * q) 7 := by
  obtain ⟨C, h1, h2, h3⟩ := h
  intro j hj
  refine ⟨?_, blk_frozen h1 _⟩
  rw [blk_cell h1, Array.getElem?_eq_getElem (by omega)]; rfl
theorem EB.put {w : World} {E m : Nat} (h : EB w E m) (hm : m < 128) : EB (w.setCells E (7 * m) (eL m)) E (m + 1) := by
  obtain ⟨C, h1, h2, h3⟩ := h
  obtain ⟨C2, k1, k2, k3, k4⟩ := setCells_blk (eL m) (7 * m) w C h1
  refine ⟨C2, k1, k2.trans h2, fun q j hq hj => ?_⟩
  by_cases e : q = m
  · subst e
    exact k4 j _ (eL_get q j hj) (by omega)
  · rw [k3 _ (.inl (by omega))]
    exact h3 q j (by omega) hj
theorem R1.edge_put {w0 w : World} {x0 E V : Nat} {a b c d : Int} {m q : Nat} (h : R1 w0 w x0 E V a b c d m q) (hm : m < 128) (h1 : w0.heap.size ≤ E) (h2 : x0 ≠ E) (h3 : V ≠ E) : R1 w0 (w.setCells E (7 * m) (eL m)) x0 E V a b c d (m + 1) q :=
  have hp := Put1.cells_ E (eL m) (7 * m) w
  ⟨h.bel.trans (hp.below h1), (hp.block x0 h2).trans h.box, h.edge.put hm, (hp.block V h3).trans h.wt⟩
theorem R1.wt_put {w0 w : World} {x0 E V : Nat} {a b c d : Int} {m q : Nat} (h : R1 w0 w x0 E V a b c d m q) (x : Int) (hx : x = wv (wOf a b c d) q) (h1 : w0.heap.size ≤ V) (h2 : x0 ≠ V) (h3 : E ≠ V) : R1 w0 (w.setCell ⟨V, q, none⟩ (.int .i64 x)) x0 E V a b c d m (q + 1) := by
  subst hx
  have hp := Put1.set V q w (.int .i64 (wv (wOf a b c d) q))
  obtain ⟨C, e1, e2⟩ := h.edge
  refine ⟨h.bel.trans (hp.below h1), (hp.block x0 h2).trans h.box, ⟨C, (hp.block E h3).trans e1, e2⟩, ?_⟩
  rw [← fill_set, ← ints_set]
  exact blk_put h.wt q _ rfl
/-- The tables, and what is known of how far places are. -/
structure R2 (w0 w : World) (E V T : Nat) (a b c d : Int) (L : List Int) : Prop where
  bel : Below w0.heap.size w0 w
  edge : EB w E 128
  wt : w.heap[V]? = some (.cells (ints (fill (wv (wOf a b c d)) 512 0 512)) 62 (0, 0))
  at_ : w.heap[T]? = some (.cells (ints L) 65 (0, 0))
theorem R2.below {w0 w w' : World} {E V T : Nat} {a b c d : Int} {L : List Int} (h : R2 w0 w E V T a b c d L) (hb : Below w.heap.size w w') : R2 w0 w' E V T a b c d L :=
  ⟨below_step h.bel hb, h.edge.below hb, (hb.block V (blk_lt h.wt)).trans h.wt, (hb.block T (blk_lt h.at_)).trans h.at_⟩
theorem R2.put {w0 w : World} {E V T : Nat} {a b c d : Int} {L : List Int} (h : R2 w0 w E V T a b c d L) (q : Nat) (x : Int) (h1 : w0.heap.size ≤ T) (h2 : E ≠ T) (h3 : V ≠ T) : R2 w0 (w.setCell ⟨T, q, none⟩ (.int .i64 x)) E V T a b c d (L.set q x) := by
  have hp := Put1.set T q w (.int .i64 x)
  obtain ⟨C, e1, e2⟩ := h.edge
  refine ⟨h.bel.trans (hp.below h1), ⟨C, (hp.block E h2).trans e1, e2⟩, (hp.block V h3).trans h.wt, ?_⟩
  rw [← ints_set]
  exact blk_put h.at_ q _ rfl
def z58 : Array Value := #[.int .i64 0, .int .i64 0, .int .u8 0, .int .u8 0, .int .u8 0, .int .u8 0, .int .u8 0]
/-- An edge put into a box of its own. -/
theorem ebox (w : World) (q : Nat) : (w.alloc (.cells z58 58)).there w.heap.size 0 7 ∧ Below w.heap.size w ((w.alloc (.cells z58 58)).setCells w.heap.size 0 (eL q)) ∧ ∀ j, j < 7 → ((w.alloc (.cells z58 58)).setCells w.heap.size 0 (eL q)).cell? ⟨w.heap.size, j, none⟩ = some (eC q j) := by
  have hb := blk_new w (.cells z58 58)
  obtain ⟨C2, k1, k2, k3, k4⟩ := setCells_blk (eL q) 0 _ z58 hb
  refine ⟨fun j hj => ⟨?_, blk_frozen hb _⟩, (below_alloc (Below.refl _ _) _).trans ((Put1.cells_ w.heap.size (eL q) 0 _).below (Nat.le_refl _)), fun j hj => ?_⟩
  · rw [blk_cell hb, Array.getElem?_eq_getElem (show 0 + j < z58.size by rw [Nat.zero_add]; exact hj)]; rfl
  · rw [blk_cell k1]
    have h := k4 j _ (eL_get q j hj) (by rw [Nat.zero_add]; exact hj)
    rw [Nat.zero_add] at h
    exact h
theorem put_none (a : Act) (v : Value) : a.put none v = a := rfl
/-- What the numbers of a block come to. -/
def msr (w : World) (T : Nat) : Nat := match w.heap[T]? with | some (.cells C _ _) => (C.toList.map (fun v => (intOf v).toNat)).sum | _ => 0
def chN : Value → Nat
  | .bool true => 1
  | _ => 0
theorem msr_ints {w : World} {T : Nat} {t : TypeId} {L : List Int} (h : w.heap[T]? = some (.cells (ints L) t (0, 0))) : msr w T = sumN L := by
  unfold msr sumN
  rw [h]
  simp [ints, nums, intOf, Function.comp_def]
theorem z65 : Tryd.zeroCells65 = ints (List.replicate 256 0) := by kernel_rfl
theorem z60 : Tryd.zeroCells60.size = 896 := by kernel_rfl
theorem z62 : Tryd.zeroCells62 = ints (List.replicate 512 0) := by kernel_rfl
def least10.T : Bool × List (List Nat × List Nat) := (true, [([], []), ([], []), ([], []), ([], []), ([3], [3]), ([2, 4], [2, 4]), ([0], [0]), ([6, 1, 0, 1, 2, 3, 4, 5], [1, 6]), ([7, 5, 5, 0, 1, 2, 3, 4, 5], [5, 7])])
def least10.B : List Nat := [0, 0, 0, 0, 8, 28, 1, 127, 255]
theorem least10.tab : rtab .any (opsOf Tryd.f15 10) = least10.T := by kernel_rfl
theorem least10.bits : waitsOk least10.T.2 least10.B = true := by kernel_rfl
def least27.T : Bool × List (List Nat × List Nat) := (true, [([], []), ([0], [0]), ([], []), ([2], [2]), ([3], [3]), ([], []), ([5], [5]), ([], []), ([7], [7]), ([8], [8]), ([6], [6]), ([10, 9], [9, 10]), ([11], [11]), ([], []), ([], []), ([14], [14]), ([15, 13], [13, 15]), ([16], [16]), ([12, 17], [12, 17]), ([1], [1]), ([19, 4, 0, 1, 2, 3, 4, 5, 6, 7, 8, 9, 10, 11, 12, 13, 14, 15, 16, 17, 18], [4, 19]), ([20, 18, 0, 1, 2, 3, 4, 5, 6, 7, 8, 9, 10, 11, 12, 13, 14, 15, 16, 17, 18], [18, 20])])
def least27.B : List Nat := [0, 1, 0, 4, 12, 0, 32, 0, 128, 384, 96, 2016, 4064, 0, 0, 16384, 57344, 122880, 262112, 3, 1048575, 2097151]
theorem least27.tab : rtab .any (opsOf Tryd.f15 27) = least27.T := by kernel_rfl
theorem least27.bits : waitsOk least27.T.2 least27.B = true := by kernel_rfl
def least43.T : Bool × List (List Nat × List Nat) := (true, [([], []), ([], []), ([0], [0]), ([2, 1], [1, 2]), ([3], [3]), ([], []), ([], []), ([], []), ([5], [5]), ([8, 6], [6, 8]), ([9, 7], [7, 9]), ([10], [10]), ([4, 11], [4, 11]), ([12, 0, 1, 2, 3, 4, 5, 6, 7, 8, 9, 10, 11, 12], [12])])
def least43.B : List Nat := [0, 0, 1, 7, 15, 0, 0, 0, 32, 352, 992, 2016, 4095, 8191]
theorem least43.tab : rtab .any (opsOf Tryd.f15 43) = least43.T := by kernel_rfl
theorem least43.bits : waitsOk least43.T.2 least43.B = true := by kernel_rfl
def least14.T : Bool × List (List Nat × List Nat) := (true, [([], []), ([], []), ([], []), ([], []), ([], []), ([3], [3]), ([5, 4], [4, 5]), ([6], [6]), ([], []), ([], []), ([7, 8, 9], [7, 8, 9]), ([0], [0]), ([11, 1], [1, 11]), ([12, 2, 0, 1, 2, 3, 4, 5, 6, 7, 8, 9, 10], [2, 12]), ([13, 10, 10, 0, 1, 2, 3, 4, 5, 6, 7, 8, 9, 10], [10, 13])])
def least14.B : List Nat := [0, 0, 0, 0, 0, 8, 56, 120, 0, 0, 1016, 1, 2051, 8191, 16383]
theorem least14.tab : rtab .any (opsOf Tryd.f15 14) = least14.T := by kernel_rfl
theorem least14.bits : waitsOk least14.T.2 least14.B = true := by kernel_rfl
set_option maxRecDepth 100000 in
set_option maxHeartbeats 8000000 in
theorem rleast_calls (a b c d : Int) (hw : wok a b c d = true) (w : World) :
    Calls Tryd.prog 15 #[.agg #[.int .i64 a, .int .i64 b, .int .i64 c, .int .i64 d]] w fun e w' => ∃ n : Nat, e = .returned (.int .i64 (n : Int)) ∧ IsLeast (wOf a b c d) n ∧ Below w.heap.size w w' := by
  have HW := Aside0.mk (wok_in hw)
  clear hw
  go_enter Tryd.func15, Tryd.ntmps15
  go_wp2_with fail
  have hba := below_alloc (Below.refl w.heap.size w) (.cells #[.int .i64 a, .int .i64 b, .int .i64 c, .int .i64 d] 22)
  have hbb := blk_new w (.cells #[.int .i64 a, .int .i64 b, .int .i64 c, .int .i64 d] 22)
  obtain ⟨w1, hw1⟩ : ∃ w1, w1 = w.alloc (.cells #[.int .i64 a, .int .i64 b, .int .i64 c, .int .i64 d] 22) := ⟨_, rfl⟩
  have hz1 : w1.heap.size = w.heap.size + 1 := by rw [hw1, World.size_alloc]
  rw [← hw1] at hba hbb
  rw [← hw1, ← hz1]
  have hba2 := below_alloc (Below.refl w1.heap.size w1) (.cells Tryd.zeroCells60 60)
  have hbb2 := blk_new w1 (.cells Tryd.zeroCells60 60)
  obtain ⟨w2, hw2⟩ : ∃ w2, w2 = w1.alloc (.cells Tryd.zeroCells60 60) := ⟨_, rfl⟩
  have hz2 : w2.heap.size = w1.heap.size + 1 := by rw [hw2, World.size_alloc]
  rw [← hw2] at hba2 hbb2
  rw [← hw2, ← hz2]
  have hba3 := below_alloc (Below.refl w2.heap.size w2) (.cells Tryd.zeroCells62 62)
  have hbb3 := blk_new w2 (.cells Tryd.zeroCells62 62)
  obtain ⟨w3, hw3⟩ : ∃ w3, w3 = w2.alloc (.cells Tryd.zeroCells62 62) := ⟨_, rfl⟩
  rw [← hw3] at hba3 hbb3
  rw [← hw3]
  obtain ⟨x0, hx0⟩ : ∃ x0, x0 = w.heap.size := ⟨_, rfl⟩
  obtain ⟨E, hE⟩ : ∃ E, E = w1.heap.size := ⟨_, rfl⟩
  obtain ⟨V, hV⟩ : ∃ V, V = w2.heap.size := ⟨_, rfl⟩
  rw [← hx0] at hbb
  rw [← hE] at hbb2
  rw [← hV, z62, ← fill_zero (wv (wOf a b c d))] at hbb3
  have HAP := Aside0.mk (show x0 < E ∧ E < V ∧ w.heap.size ≤ x0 by omega)
  have HR := Aside0.mk (show R1 w w3 x0 E V a b c d 0 0 from
    ⟨below_step (below_step hba hba2) hba3, (hba3.block x0 (by omega)).trans ((hba2.block x0 (by omega)).trans hbb), ⟨_, (hba3.block E (by omega)).trans hbb2, z60, fun q j hq => absurd hq (Nat.not_lt_zero _)⟩, hbb3⟩)
  rw [← hx0, ← hE, ← hV]
  clear hba hbb hw1 hz1 hba2 hbb2 hw2 hz2 hba3 hbb3 hw3 hx0 hE hV
  go_loopw [6] (fun v6 wr => ∃ s : Nat, v6 = .int .i64 (s : Int) ∧ s ≤ 64 ∧ Aside0 (R1 w wr x0 E V a b c d (2 * s) (8 * s))) (fun v6 _ => 64 - (intOf v6).toNat)
  case atStart => exact ⟨0, by simp, by omega, HR⟩
  case round =>
    clear HR
    obtain ⟨s, rfl, hs, HR⟩ := hrel
    by_cases hlt : s < 64
    · -- CUT 1
      have hlb : decide ((s : Int) < 64) = true := decide_eq_true (by omega)
      go_wp2_with fail
      go_loopw [7] (fun v7 wr => ∃ i : Nat, v7 = .int .i64 (i : Int) ∧ i ≤ 2 ∧ Aside0 (R1 w wr x0 E V a b c d (2 * s + i) (8 * s + 4 * i))) (fun v7 _ => 2 - (intOf v7).toNat)
      case atStart => exact ⟨0, by simp, by omega, HR⟩
      case round =>
        clear HR
        obtain ⟨i, rfl, hi, HR⟩ := hrel
        by_cases hlt2 : i < 2
        · have hlb : decide ((i : Int) < 2) = true := decide_eq_true (by omega)
          have hs64 : (s : Int) < 64 := by omega
          have hi2 : (i : Int) < 2 := by omega
          have hcv : IntKind.u8.wrap (i : Int) = (i : Int) := by rw [IntKind.wrap_u8]; omega
          have HST := Aside0.mk (fun w => shuttleref07_Step.calls 20 (s : Int) (i : Int) _ _ _ _ _ _ _ w (rstep_f s i hlt hlt2))
          go_wp2_with fail
          refine start_ (n := 9) (S := (fun w' => True)) (ds := [8]) #[false, false, false, false, false, false, false, false, false] (by kernel_rfl) rfl rfl trivial (fun hHeld => ?_)
          refine with_tabW least10.tab least10.bits (fun HT_ HW_ => ?_)
          refine pure_ (i := 0) (N := some 29) (v := ?_) (a' := ?_) #[true, false, false, false, false, false, false, false, false] rfl rfl (any_of HT_.out (by kernel_rfl)) (fun _ _ _ h => h) (Or.inl ⟨by rfl, ?_⟩) ?_ ?_
          rotate_left
          · intro w'
            go_simp
            with_reducible rfl
          rotate_left
          · simp only [Act.put, List.setIfInBounds_toArray, List.set_cons_zero, List.set_cons_succ, i64_w, i32_w]
            rfl
          refine pure_ (i := 1) (N := some 30) (v := ?_) (a' := ?_) #[true, true, false, false, false, false, false, false, false] rfl rfl (any_of HT_.out (by kernel_rfl)) (fun _ _ _ h => h) (Or.inl ⟨by rfl, ?_⟩) ?_ ?_
          rotate_left
          · intro w'
            go_simp
            with_reducible rfl
          rotate_left
          · simp only [Act.put, List.setIfInBounds_toArray, List.set_cons_zero, List.set_cons_succ, i64_w, i32_w]
            rfl
          refine pure_ (i := 2) (N := some 31) (v := ?_) (a' := ?_) #[true, true, true, false, false, false, false, false, false] rfl rfl (any_of HT_.out (by kernel_rfl)) (fun _ _ _ h => h) (Or.inl ⟨by rfl, ?_⟩) ?_ ?_
          rotate_left
          · intro w'
            go_simp
            with_reducible rfl
          rotate_left
          · simp only [Act.put, List.setIfInBounds_toArray, List.set_cons_zero, List.set_cons_succ, i64_w, i32_w]
            rfl
          refine pure_ (i := 3) (N := some 32) (v := ?_) (a' := ?_) #[true, true, true, true, false, false, false, false, false] rfl rfl (any_of HT_.out (by kernel_rfl)) (fun _ _ _ h => h) (Or.inl ⟨by rfl, ?_⟩) ?_ ?_
          rotate_left
          · intro w'
            go_simp
            with_reducible rfl
          rotate_left
          · simp only [Act.put, List.setIfInBounds_toArray, List.set_cons_zero, List.set_cons_succ, i64_w, i32_w]
            rfl
          refine pure_ (i := 4) (N := some 33) (v := ?_) (a' := ?_) #[true, true, true, true, true, false, false, false, false] rfl rfl (any_of HT_.out (by kernel_rfl)) (fun _ _ _ h => h) (Or.inl ⟨by rfl, ?_⟩) ?_ ?_
          rotate_left
          · intro w'
            go_simp
            with_reducible rfl
          rotate_left
          · simp only [Act.put, List.setIfInBounds_toArray, List.set_cons_zero, List.set_cons_succ, i64_w, i32_w]
            rfl
          refine pure_ (i := 6) (N := some 35) (v := ?_) (a' := ?_) #[true, true, true, true, true, false, true, false, false] rfl rfl (any_of HT_.out (by kernel_rfl)) (fun _ _ _ h => h) (Or.inl ⟨by rfl, ?_⟩) ?_ ?_
          rotate_left
          · intro w'
            go_simp
            with_reducible rfl
          rotate_left
          · simp only [Act.put, List.setIfInBounds_toArray, List.set_cons_zero, List.set_cons_succ, i64_w, i32_w]
            rfl
          refine one_ (i := 5) (N := some 34) #[true, true, true, true, true, true, true, false, false] rfl rfl (one_of HT_.out (by kernel_rfl)) (by decide) (fun K hK => ?_)
          refine goes_ Tryd.func31 (by kernel_rfl) rfl #[.int .i64 ↑s, .int .u8 ↑i] (by rfl) rfl rfl (by (try simp only [List.map_toArray, List.map_cons, List.map_nil]); first | done | rfl | (go_simp; done) | simp [Act.eval]) ?_
          refine (HST.out _).mono ?_
          rintro e w5 ⟨rfl, hb5⟩
          refine ⟨_, rfl, ?_⟩
          refine hK.out _ _ trivial (fun hHeld => ?_)
          clear hK K
          refine norm_ (a' := ?_) ?_ ?_
          rotate_left
          · show Act.put _ (some 34) _ = _
            simp only [Act.put, List.setIfInBounds_toArray, List.set_cons_zero, List.set_cons_succ, i64_w, i32_w]
            rfl
          refine pure_ (i := 7) (N := some 36) (v := ?_) (a' := ?_) #[true, true, true, true, true, true, true, true, false] rfl rfl (any_of HT_.out (by kernel_rfl)) (fun _ _ _ h => h) (Or.inl ⟨by rfl, ?_⟩) ?_ ?_
          rotate_left
          · intro w'
            go_simp
            with_reducible rfl
          rotate_left
          · simp only [Act.put, List.setIfInBounds_toArray, List.set_cons_zero, List.set_cons_succ, i64_w, i32_w]
            rfl
          refine last_ (i := 8) (N := none) #[true, true, true, true, true, true, true, true, true] rfl rfl (one_of HT_.out (by kernel_rfl)) (by decide) (fun K hK => ?_)
          have hR5 := HR.out.below (below_step (below_drew1 (Below.refl _ _)) hb5)
          rw [eL_at s i hlt2]
          have hoff : s * 14 + i * 7 = 7 * (2 * s + i) := by omega
          rw [hoff, if_pos (by rfl)]
          refine wp_store_mid 58 (.tmp 36) (.tmp 34) rfl E (7 * (2 * s + i)) (eL (2 * s + i)).toArray (by rfl) (by rfl) (hR5.edge.there _ (by omega)) (by kernel_rfl) (eL_one _) ?_
          refine hK.out _ _ ?_
          clear hK K
          refine done_ (done_of HT_.out (by kernel_rfl)) ?_
          have hR6 := hR5.edge_put (m := 2 * s + i) (by omega) (by have := HAP.out; omega) (by have := HAP.out; omega) (by have := HAP.out; omega)
          have HR6 := Aside0.mk hR6
          clear hR5 hR6 hb5 HR HST hoff
          generalize (w5.setCells E (7 * (2 * s + i)) (eL (2 * s + i))) = w6 at HR6 ⊢
          go_wp2_with fail
          go_loopw [8] (fun v8 wr => ∃ t : Nat, v8 = .int .i64 (t : Int) ∧ t ≤ 4 ∧ Aside0 (R1 w wr x0 E V a b c d (2 * s + i + 1) (8 * s + 4 * i + t))) (fun v8 _ => 4 - (intOf v8).toNat)
          case atStart => exact ⟨0, by simp, by omega, HR6⟩
          case round =>
            clear HR6
            obtain ⟨t, rfl, ht, HR⟩ := hrel
            by_cases hlt3 : t < 4
            · have hlb : decide ((t : Int) < 4) = true := decide_eq_true (by omega)
              have ht4 : (t : Int) < 4 := by omega
              go_wp2_with fail
              have hE := fun j (hj : j < 7) => HR.out.edge.cell (2 * s + i) j (by omega) hj
              have hoff : 7 * (2 * s + i) = s * 14 + i * 7 := by omega
              have he1 : (2 * s + i) / 2 = s := by omega
              have he2 : (2 * s + i) % 2 = i := by omega
              have hv0 : s * 8 + i * 4 + t = 8 * s + 4 * i + t := by omega
              have hq1 : (8 * s + 4 * i + t) / 8 = s := by omega
              have hq2 : (8 * s + 4 * i + t) / 4 % 2 = i := by omega
              have hq3 : (8 * s + 4 * i + t) % 4 = t := by omega
              have hwe := fun w => rweigh_calls HW.out s i t hlt3 (s : Int) ((dst s i : Nat) : Int) (i : Int) w
              have hwv : wv (wOf a b c d) (8 * s + 4 * i + t) = ew (wOf a b c d) s i t := by unfold wv; rw [hq1, hq2, hq3]
              obtain ⟨x, hx⟩ : ∃ x, x = ew (wOf a b c d) s i t := ⟨_, rfl⟩
              rw [← hx] at hwe hwv
              have HWE := Aside0.mk hwe
              have HWV := Aside0.mk hwv
              obtain ⟨o0, ho0⟩ : ∃ o0, o0 = ob s i 0 := ⟨_, rfl⟩
              obtain ⟨o1, ho1⟩ : ∃ o1, o1 = ob s i 1 := ⟨_, rfl⟩
              obtain ⟨o2, ho2⟩ : ∃ o2, o2 = ob s i 2 := ⟨_, rfl⟩
              obtain ⟨o3, ho3⟩ : ∃ o3, o3 = ob s i 3 := ⟨_, rfl⟩
              obtain ⟨dd, hdd⟩ : ∃ dd, dd = dst s i := ⟨_, rfl⟩
              unfold eC at hE
              simp only [hoff, he1, he2] at hE
              rw [← ho0, ← ho1, ← ho2, ← ho3, ← hdd] at HWE
              simp only [← ho0, ← ho1, ← ho2, ← ho3, ← hdd] at hE
              have HS := Aside0.mk (show wr.drew.cell? ⟨E, s * 14 + i * 7, none⟩ = some (.int .i64 (s : Int)) ∧ wr.drew.cell? ⟨E, s * 14 + i * 7 + 1, none⟩ = some (.int .i64 (dd : Int)) ∧ wr.drew.cell? ⟨E, s * 14 + i * 7 + 2, none⟩ = some (.int .u8 (i : Int)) ∧
                  wr.drew.cell? ⟨E, s * 14 + i * 7 + 3, none⟩ = some (.int .u8 o0) ∧ wr.drew.cell? ⟨E, s * 14 + i * 7 + 4, none⟩ = some (.int .u8 o1) ∧ wr.drew.cell? ⟨E, s * 14 + i * 7 + 5, none⟩ = some (.int .u8 o2) ∧ wr.drew.cell? ⟨E, s * 14 + i * 7 + 6, none⟩ = some (.int .u8 o3) ∧
                  wr.drew.cell? ⟨x0, 0, none⟩ = some (.int .i64 a) ∧ wr.drew.cell? ⟨x0, 1, none⟩ = some (.int .i64 b) ∧ wr.drew.cell? ⟨x0, 2, none⟩ = some (.int .i64 c) ∧ wr.drew.cell? ⟨x0, 3, none⟩ = some (.int .i64 d) from
                ⟨hE 0 (by decide), hE 1 (by decide), hE 2 (by decide), hE 3 (by decide), hE 4 (by decide), hE 5 (by decide), hE 6 (by decide), blk_cell HR.out.box 0, blk_cell HR.out.box 1, blk_cell HR.out.box 2, blk_cell HR.out.box 3⟩)
              have HV0 := Aside0.mk hv0
              clear hE hoff he1 he2 hq1 hq2 hq3 hwe hwv hx ho0 ho1 ho2 ho3 hdd hv0
              refine start_ (n := 15) (S := (fun w' => w'.cell? ⟨E, s * 14 + i * 7, none⟩ = some (.int .i64 (s : Int)) ∧ w'.cell? ⟨E, s * 14 + i * 7 + 1, none⟩ = some (.int .i64 (dd : Int)) ∧ w'.cell? ⟨E, s * 14 + i * 7 + 2, none⟩ = some (.int .u8 (i : Int)) ∧ w'.cell? ⟨E, s * 14 + i * 7 + 3, none⟩ = some (.int .u8 o0) ∧ w'.cell? ⟨E, s * 14 + i * 7 + 4, none⟩ = some (.int .u8 o1) ∧ w'.cell? ⟨E, s * 14 + i * 7 + 5, none⟩ = some (.int .u8 o2) ∧ w'.cell? ⟨E, s * 14 + i * 7 + 6, none⟩ = some (.int .u8 o3) ∧ w'.cell? ⟨x0, 0, none⟩ = some (.int .i64 a) ∧ w'.cell? ⟨x0, 1, none⟩ = some (.int .i64 b) ∧ w'.cell? ⟨x0, 2, none⟩ = some (.int .i64 c) ∧ w'.cell? ⟨x0, 3, none⟩ = some (.int .i64 d))) (ds := [14]) #[false, false, false, false, false, false, false, false, false, false, false, false, false, false, false] (by kernel_rfl) rfl rfl HS.out (fun hHeld => ?_)
              refine with_tabW least14.tab least14.bits (fun HT_ HW_ => ?_)
              refine pure_ (i := 0) (N := some 41) (v := ?_) (a' := ?_) #[true, false, false, false, false, false, false, false, false, false, false, false, false, false, false] rfl rfl (any_of HT_.out (by kernel_rfl)) (fun _ _ _ h => h) (Or.inl ⟨by rfl, ?_⟩) ?_ ?_
              rotate_left
              · intro w'
                go_simp
                with_reducible rfl
              rotate_left
              · simp only [Act.put, List.setIfInBounds_toArray, List.set_cons_zero, List.set_cons_succ, i64_w, i32_w]
                rfl
              refine pure_ (i := 1) (N := some 42) (v := ?_) (a' := ?_) #[true, true, false, false, false, false, false, false, false, false, false, false, false, false, false] rfl rfl (any_of HT_.out (by kernel_rfl)) (fun _ _ _ h => h) (Or.inl ⟨by rfl, ?_⟩) ?_ ?_
              rotate_left
              · intro w'
                go_simp
                with_reducible rfl
              rotate_left
              · simp only [Act.put, List.setIfInBounds_toArray, List.set_cons_zero, List.set_cons_succ, i64_w, i32_w]
                rfl
              refine pure_ (i := 2) (N := some 43) (v := ?_) (a' := ?_) #[true, true, true, false, false, false, false, false, false, false, false, false, false, false, false] rfl rfl (any_of HT_.out (by kernel_rfl)) (fun _ _ _ h => h) (Or.inl ⟨by rfl, ?_⟩) ?_ ?_
              rotate_left
              · intro w'
                go_simp
                with_reducible rfl
              rotate_left
              · simp only [Act.put, List.setIfInBounds_toArray, List.set_cons_zero, List.set_cons_succ, i64_w, i32_w]
                rfl
              refine pure_ (i := 3) (N := some 44) (v := ?_) (a' := ?_) #[true, true, true, true, false, false, false, false, false, false, false, false, false, false, false] rfl rfl (any_of HT_.out (by kernel_rfl)) (fun _ _ _ h => h) (Or.inl ⟨by rfl, ?_⟩) ?_ ?_
              rotate_left
              · intro w'
                go_simp
                with_reducible rfl
              rotate_left
              · simp only [Act.put, List.setIfInBounds_toArray, List.set_cons_zero, List.set_cons_succ, i64_w, i32_w]
                rfl
              refine pure_ (i := 4) (N := some 45) (v := ?_) (a' := ?_) #[true, true, true, true, true, false, false, false, false, false, false, false, false, false, false] rfl rfl (any_of HT_.out (by kernel_rfl)) (fun _ _ _ h => h) (Or.inl ⟨by rfl, ?_⟩) ?_ ?_
              rotate_left
              · intro w'
                go_simp
                with_reducible rfl
              rotate_left
              · simp only [Act.put, List.setIfInBounds_toArray, List.set_cons_zero, List.set_cons_succ, i64_w, i32_w]
                rfl
              refine pure_ (i := 5) (N := some 46) (v := ?_) (a' := ?_) #[true, true, true, true, true, true, false, false, false, false, false, false, false, false, false] rfl rfl (any_of HT_.out (by kernel_rfl)) (fun _ _ _ h => h) (Or.inl ⟨by rfl, ?_⟩) ?_ ?_
              rotate_left
              · intro w'
                go_simp
                with_reducible rfl
              rotate_left
              · simp only [Act.put, List.setIfInBounds_toArray, List.set_cons_zero, List.set_cons_succ, i64_w, i32_w]
                rfl
              refine pure_ (i := 6) (N := some 47) (v := ?_) (a' := ?_) #[true, true, true, true, true, true, true, false, false, false, false, false, false, false, false] rfl rfl (any_of HT_.out (by kernel_rfl)) (fun _ _ _ h => h) (Or.inl ⟨by rfl, ?_⟩) ?_ ?_
              rotate_left
              · intro w'
                go_simp
                with_reducible rfl
              rotate_left
              · simp only [Act.put, List.setIfInBounds_toArray, List.set_cons_zero, List.set_cons_succ, i64_w, i32_w]
                rfl
              refine take_ (i := 7) (N := some 48) (v := ?_) (a' := ?_) #[true, true, true, true, true, true, true, true, false, false, false, false, false, false, false] rfl rfl (take_ofW HT_.out HW_.out (by kernel_rfl)) (fun _ _ _ h => h) (Or.inl ⟨by rfl, ?_⟩) hHeld ?_ ?_
              rotate_left
              · rintro w' ⟨s0, s1, s2, s3, s4, s5, s6, s7, s8, s9, s10⟩
                go_simp
                with_reducible rfl
              rotate_left
              · simp only [Act.put, List.setIfInBounds_toArray, List.set_cons_zero, List.set_cons_succ, i64_w, i32_w]
                rfl
              refine pure_ (i := 8) (N := some 49) (v := ?_) (a' := ?_) #[true, true, true, true, true, true, true, true, true, false, false, false, false, false, false] rfl rfl (any_of HT_.out (by kernel_rfl)) (fun _ _ _ h => h) (Or.inl ⟨by rfl, ?_⟩) ?_ ?_
              rotate_left
              · intro w'
                go_simp
                with_reducible rfl
              rotate_left
              · simp only [Act.put, List.setIfInBounds_toArray, List.set_cons_zero, List.set_cons_succ, i64_w, i32_w]
                rfl
              refine take_ (i := 9) (N := some 50) (v := ?_) (a' := ?_) #[true, true, true, true, true, true, true, true, true, true, false, false, false, false, false] rfl rfl (take_ofW HT_.out HW_.out (by kernel_rfl)) (fun _ _ _ h => h) (Or.inl ⟨by rfl, ?_⟩) hHeld ?_ ?_
              rotate_left
              · rintro w' ⟨s0, s1, s2, s3, s4, s5, s6, s7, s8, s9, s10⟩
                go_simp
                with_reducible rfl
              rotate_left
              · simp only [Act.put, List.setIfInBounds_toArray, List.set_cons_zero, List.set_cons_succ, i64_w, i32_w]
                rfl
              refine pure_ (i := 11) (N := some 52) (v := ?_) (a' := ?_) #[true, true, true, true, true, true, true, true, true, true, false, true, false, false, false] rfl rfl (any_of HT_.out (by kernel_rfl)) (fun _ _ _ h => h) (Or.inl ⟨by rfl, ?_⟩) ?_ ?_
              rotate_left
              · intro w'
                go_simp
                with_reducible rfl
              rotate_left
              · simp only [Act.put, List.setIfInBounds_toArray, List.set_cons_zero, List.set_cons_succ, i64_w, i32_w]
                rfl
              refine pure_ (i := 12) (N := some 53) (v := ?_) (a' := ?_) #[true, true, true, true, true, true, true, true, true, true, false, true, true, false, false] rfl rfl (any_of HT_.out (by kernel_rfl)) (fun _ _ _ h => h) (Or.inl ⟨by rfl, ?_⟩) ?_ ?_
              rotate_left
              · intro w'
                go_simp
                with_reducible rfl
              rotate_left
              · simp only [Act.put, List.setIfInBounds_toArray, List.set_cons_zero, List.set_cons_succ, i64_w, i32_w]
                rfl
              refine one_ (i := 10) (N := some 51) #[true, true, true, true, true, true, true, true, true, true, true, true, true, false, false] rfl rfl (one_of HT_.out (by kernel_rfl)) (by decide) (fun K hK => ?_)
              refine goes_ Tryd.func32 (by kernel_rfl) rfl #[.agg #[.int .i64 ↑s, .int .i64 ↑dd, .int .u8 ↑i, .int .u8 o0, .int .u8 o1, .int .u8 o2, .int .u8 o3], .int .i64 ↑t, .agg #[.int .i64 a, .int .i64 b, .int .i64 c, .int .i64 d]] (by rfl) rfl rfl (by (try simp only [List.map_toArray, List.map_cons, List.map_nil]); first | done | rfl | (go_simp; done) | simp [Act.eval]) ?_
              refine (HWE.out _).mono ?_
              rintro e w7 ⟨rfl, hb7⟩
              have HR7 := Aside0.mk (HR.out.below (below_step (below_drew1 (Below.refl _ _)) hb7))
              have HS7 := Aside0.mk (show w7.cell? ⟨E, s * 14 + i * 7, none⟩ = some (.int .i64 (s : Int)) ∧ w7.cell? ⟨E, s * 14 + i * 7 + 1, none⟩ = some (.int .i64 (dd : Int)) ∧ w7.cell? ⟨E, s * 14 + i * 7 + 2, none⟩ = some (.int .u8 (i : Int)) ∧ w7.cell? ⟨E, s * 14 + i * 7 + 3, none⟩ = some (.int .u8 o0) ∧ w7.cell? ⟨E, s * 14 + i * 7 + 4, none⟩ = some (.int .u8 o1) ∧ w7.cell? ⟨E, s * 14 + i * 7 + 5, none⟩ = some (.int .u8 o2) ∧ w7.cell? ⟨E, s * 14 + i * 7 + 6, none⟩ = some (.int .u8 o3) ∧ w7.cell? ⟨x0, 0, none⟩ = some (.int .i64 a) ∧ w7.cell? ⟨x0, 1, none⟩ = some (.int .i64 b) ∧ w7.cell? ⟨x0, 2, none⟩ = some (.int .i64 c) ∧ w7.cell? ⟨x0, 3, none⟩ = some (.int .i64 d) by
                have hEl : E < wr.drew.heap.size := World.block_lt_of_cell? wr.drew ⟨E, s * 14 + i * 7, none⟩ HS.out.1
                have hxl : x0 < wr.drew.heap.size := World.block_lt_of_cell? wr.drew ⟨x0, 0, none⟩ HS.out.2.2.2.2.2.2.2.1
                have kE := fun q => hb7.cell (p := ⟨E, q, none⟩) hEl
                have kx := fun q => hb7.cell (p := ⟨x0, q, none⟩) hxl
                simp only [kE, kx]
                exact HS.out)
              clear hb7
              refine ⟨_, rfl, ?_⟩
              refine hK.out _ _ HS7.out (fun hHeld => ?_)
              clear hK K
              refine norm_ (a' := ?_) ?_ ?_
              rotate_left
              · show Act.put _ (some 51) _ = _
                simp only [Act.put, List.setIfInBounds_toArray, List.set_cons_zero, List.set_cons_succ, i64_w, i32_w]
                rfl
              refine pure_ (i := 13) (N := some 54) (v := ?_) (a' := ?_) #[true, true, true, true, true, true, true, true, true, true, true, true, true, true, false] rfl rfl (any_of HT_.out (by kernel_rfl)) (fun _ _ _ h => h) (Or.inl ⟨by rfl, ?_⟩) ?_ ?_
              rotate_left
              · intro w'
                go_simp
                with_reducible rfl
              rotate_left
              · simp only [Act.put, List.setIfInBounds_toArray, List.set_cons_zero, List.set_cons_succ, i64_w, i32_w]
                rfl
              refine last_ (i := 14) (N := none) #[true, true, true, true, true, true, true, true, true, true, true, true, true, true, true] rfl rfl (one_of HT_.out (by kernel_rfl)) (by decide) (fun K hK => ?_)
              have hcg : ∃ u, w7.cell? ⟨V, s * 8 + i * 4 + t, none⟩ = some u := ⟨_, ints_cell' HR7.out.wt (s * 8 + i * 4 + t) (by rw [fill_length]; omega)⟩
              obtain ⟨u, hcg⟩ := hcg
              have hfz := blk_frozen HR7.out.wt (s * 8 + i * 4 + t)
              refine skip_ (w1 := ?_) (by rfl) rfl ?_ ?_
              rotate_left 1
              · go_simp
                rfl
              refine hK.out _ _ ?_
              clear hK K
              refine done_ (done_of HT_.out (by kernel_rfl)) ?_
              clear hcg hfz
              have hR8 := HR7.out.wt_put x HWV.out.symm (by have := HAP.out; omega) (by have := HAP.out; omega) (by have := HAP.out; omega)
              rw [← HV0.out] at hR8
              have HR8 := Aside0.mk hR8
              clear hR8 HR7 HS7 HS HR
              generalize (w7.setCell ⟨V, s * 8 + i * 4 + t, none⟩ (.int .i64 x)) = w8 at HR8 ⊢
              go_wp2_with fail
              go_roundw
              case rel =>
                have h := HR8.out
                have e : s * 8 + i * 4 + t + 1 = 8 * s + 4 * i + (t + 1) := by omega
                rw [e] at h
                exact ⟨t + 1, by simp, by omega, ⟨h⟩⟩
              case measure => simp [intOf]; omega
            · obtain rfl : t = 4 := by omega
              have hlb : decide (((4 : Nat) : Int) < 4) = false := by decide
              go_wp2_with fail
              go_roundw
              case rel => exact ⟨i + 1, by simp, by omega, ⟨HR.out⟩⟩
              case measure => simp [intOf]; omega
        · obtain rfl : i = 2 := by omega
          have hlb : decide (((2 : Nat) : Int) < 2) = false := by decide
          go_wp2_with fail
          go_roundw
          case rel => exact ⟨s + 1, by simp, by omega, ⟨HR.out⟩⟩
          case measure => simp [intOf]; omega
      -- ENDCUT 1
    · obtain rfl : s = 64 := by omega
      have hlb : decide (((64 : Nat) : Int) < 64) = false := by decide
      go_wp2_with fail
      have hbt := blk_new wr (.cells Tryd.zeroCells65 65)
      have hbx := below_alloc (Below.refl wr.heap.size wr) (.cells Tryd.zeroCells65 65)
      obtain ⟨T, hT⟩ : ∃ T, T = wr.heap.size := ⟨_, rfl⟩
      obtain ⟨w4, hw4⟩ : ∃ w4, w4 = wr.alloc (.cells Tryd.zeroCells65 65) := ⟨_, rfl⟩
      rw [← hw4] at hbt hbx
      rw [← hT, z65, ← fill_zero (fun _ => far)] at hbt
      have hR1 := HR.out.below hbx
      have HVT := Aside0.mk (show V < T by rw [hT]; exact blk_lt HR.out.wt)
      have HQ := Aside0.mk (show R2 w w4 E V T a b c d (fill (fun _ => far) 256 0 0) from ⟨hR1.bel, hR1.edge, hR1.wt, hbt⟩)
      rw [← hw4, ← hT]
      clear hbt hbx hT hw4 hR1 HR
      go_loopw [10] (fun v10 wr => ∃ s : Nat, v10 = .int .i64 (s : Int) ∧ s ≤ 64 ∧ Aside0 (R2 w wr E V T a b c d (fill (fun _ => far) 256 0 (4 * s)))) (fun v10 _ => 64 - (intOf v10).toNat)
      case atStart => exact ⟨0, by simp, by omega, HQ⟩
      case round =>
        clear HQ
        obtain ⟨s, rfl, hs2, HQ⟩ := hrel
        by_cases hlt : s < 64
        · -- CUT 2
          have hlb : decide ((s : Int) < 64) = true := decide_eq_true (by omega)
          have hs64 : (s : Int) < 64 := by omega
          go_wp2_with fail
          go_loopw [11] (fun v11 wr => ∃ t : Nat, v11 = .int .i64 (t : Int) ∧ t ≤ 4 ∧ Aside0 (R2 w wr E V T a b c d (fill (fun _ => far) 256 0 (4 * s + t)))) (fun v11 _ => 4 - (intOf v11).toNat)
          case atStart => exact ⟨0, by simp, by omega, HQ⟩
          case round =>
            clear HQ
            obtain ⟨t, rfl, ht, HQ⟩ := hrel
            by_cases hlt2 : t < 4
            · have hlb : decide ((t : Int) < 4) = true := decide_eq_true (by omega)
              have ht4 : (t : Int) < 4 := by omega
              have hcg : ∃ u, wr.cell? ⟨T, s * 4 + t, none⟩ = some u := ⟨_, ints_cell' HQ.out.at_ (s * 4 + t) (by rw [fill_length]; omega)⟩
              obtain ⟨u, hcg⟩ := hcg
              have hfz := blk_frozen HQ.out.at_ (s * 4 + t)
              go_wp2_with fail
              have hQ2 := HQ.out.put (s * 4 + t) far (by have := HAP.out; have := HVT.out; omega) (by have := HAP.out; have := HVT.out; omega) (by have := HVT.out; omega)
              have e : s * 4 + t = 4 * s + t := by omega
              rw [show (fill (fun _ => far) 256 0 (4 * s + t)).set (s * 4 + t) far = fill (fun _ => far) 256 0 (4 * s + t + 1) by rw [e]; exact fill_set (fun _ => far) 256 0 (4 * s + t)] at hQ2
              have HQ2 := Aside0.mk hQ2
              clear e hQ2 hcg hfz HQ
              go_roundw
              case rel => exact ⟨t + 1, by simp, by omega, HQ2⟩
              case measure => simp [intOf]; omega
            · obtain rfl : t = 4 := by omega
              have hlb : decide (((4 : Nat) : Int) < 4) = false := by decide
              go_wp2_with fail
              go_roundw
              case rel => exact ⟨s + 1, by simp, by omega, ⟨HQ.out⟩⟩
              case measure => simp [intOf]; omega
          -- ENDCUT 2
        · obtain rfl : s = 64 := by omega
          have hlb : decide (((64 : Nat) : Int) < 64) = false := by decide
          go_wp2_with fail
          go_loopw [12] (fun v12 wr => ∃ (t : Nat) (L : List Int), v12 = .int .i64 (t : Int) ∧ t ≤ 4 ∧ Aside0 (R2 w wr E V T a b c d L) ∧ Aside0 (LI (wOf a b c d) L ∧ FI (wOf a b c d) L t)) (fun v12 _ => 4 - (intOf v12).toNat)
          case atStart => exact ⟨0, _, by simp, by omega, HQ, ⟨LI.start _ _ (fill_length _ _ _ _) (fun q hq => fill_get _ _ _ _ _ hq (by omega)), fun t ht => absurd ht (Nat.not_lt_zero _)⟩⟩
          case round =>
            clear HQ
            obtain ⟨t, L, rfl, ht, HQ, HLI⟩ := hrel
            by_cases hlt2 : t < 4
            · -- CUT 3
              have hlb : decide ((t : Int) < 4) = true := decide_eq_true (by omega)
              have ht4 : (t : Int) < 4 := by omega
              have hE := fun j (hj : j < 7) => HQ.out.edge.cell 1 j (by omega) hj
              have hE0 : wr.cell? ⟨E, 7, none⟩ = _ := hE 0 (by decide)
              have hE1 : wr.cell? ⟨E, 8, none⟩ = _ := hE 1 (by decide)
              have hE2 : wr.cell? ⟨E, 9, none⟩ = _ := hE 2 (by decide)
              have hE3 : wr.cell? ⟨E, 10, none⟩ = _ := hE 3 (by decide)
              have hE4 : wr.cell? ⟨E, 11, none⟩ = _ := hE 4 (by decide)
              have hE5 : wr.cell? ⟨E, 12, none⟩ = _ := hE 5 (by decide)
              have hE6 : wr.cell? ⟨E, 13, none⟩ = _ := hE 6 (by decide)
              clear hE
              go_wp2_with (first
                | ((with_reducible refine gate_ (.store 58 (.tmp 13) (.tmp 74)) rfl ?_); refine Aside0.out ?_)
                | fail)
              refine Aside0.mk ?_
              obtain ⟨q1, q2, q3⟩ := ebox wr 1
              refine wpList_store_mid rfl 58 (.tmp 13) (.tmp 74) rfl wr.heap.size 0 (eL 1).toArray (by rfl) (by rfl) q1 (by kernel_rfl) (eL_one _) ?_
              have hQ5 := HQ.out.below q2
              have hc1 := q3 1 (by decide)
              have hBl : wr.heap.size < ((wr.alloc (.cells z58 58)).setCells wr.heap.size 0 (eL 1)).heap.size := World.block_lt_of_cell? _ ⟨wr.heap.size, 1, none⟩ hc1
              have hBT : wr.heap.size ≠ T := by have := blk_lt HQ.out.at_; omega
              clear q1 q2 q3 hE0 hE1 hE2 hE3 hE4 hE5 hE6
              obtain ⟨B, hB⟩ : ∃ B, B = wr.heap.size := ⟨_, rfl⟩
              rw [← hB] at hc1 hBl hBT hQ5 ⊢
              obtain ⟨w5, hw5⟩ : ∃ w5, w5 = ((wr.alloc (.cells z58 58)).setCells B 0 (eL 1)) := ⟨_, rfl⟩
              rw [← hw5] at hc1 hBl hQ5
              have HQ5 := Aside0.mk hQ5
              have HC1 := Aside0.mk hc1
              have HBT := Aside0.mk hBT
              show wpList _ _ _ _ _ ((wr.alloc (.cells z58 58)).setCells B 0 (eL 1))
              rw [← hw5]
              clear hw5 hB hBT hc1 hQ5 HQ
              rw [put_none]
              go_wp2_with fail
              have hu1 := nx_e t
              have hu2 := nx_t t
              have hu3 : (nx t : Int) < 4 := by have := nx_lt t; omega
              obtain ⟨u, hu⟩ : ∃ u, u = nx t := ⟨_, rfl⟩
              have hu4 := nx_w t hlt2
              rw [← hu] at hu1 hu2 hu3 hu4
              have HU := Aside0.mk hu
              obtain ⟨y, hy⟩ : ∃ y, y = L.getD (128 + u) 0 := ⟨_, rfl⟩
              obtain ⟨z, hz⟩ : ∃ z, z = ew (wOf a b c d) 0 1 t := ⟨_, rfl⟩
              have HYZ := Aside0.mk (And.intro hy hz)
              have hLl : L.length = 256 := HLI.out.1.len
              have hq1 : (4 + t) / 8 = 0 := by omega
              have hq2 : (4 + t) / 4 % 2 = 1 := by omega
              have hq3 : (4 + t) % 4 = t := by omega
              have HS := Aside0.mk (show w5.drew.cell? ⟨B, 1, none⟩ = some (.int .i64 32) ∧ w5.drew.cell? ⟨T, 128 + u, none⟩ = some (.int .i64 y) ∧ w5.drew.cell? ⟨V, 4 + t, none⟩ = some (.int .i64 z) from
                ⟨HC1.out, by rw [hy]; exact ints_cell' HQ5.out.at_ (128 + u) (by omega), by
                  have h := ints_cell' HQ5.out.wt (4 + t) (by rw [fill_length]; omega)
                  rw [fill_get _ _ _ _ _ (by omega) (by omega)] at h
                  unfold wv at h
                  rw [hq1, hq2, hq3, ← hz] at h
                  exact h⟩)
              clear hu hy hz hLl hq1 hq2 hq3
              refine start_ (n := 22) (S := (fun w' => w'.cell? ⟨B, 1, none⟩ = some (.int .i64 32) ∧ w'.cell? ⟨T, 128 + u, none⟩ = some (.int .i64 y) ∧ w'.cell? ⟨V, 4 + t, none⟩ = some (.int .i64 z))) (ds := [21]) #[false, false, false, false, false, false, false, false, false, false, false, false, false, false, false, false, false, false, false, false, false, false] (by kernel_rfl) rfl rfl HS.out (fun hHeld => ?_)
              refine with_tabW least27.tab least27.bits (fun HT_ HW_ => ?_)
              refine pure_ (i := 0) (N := some 75) (v := ?_) (a' := ?_) #[true, false, false, false, false, false, false, false, false, false, false, false, false, false, false, false, false, false, false, false, false, false] rfl rfl (any_of HT_.out (by kernel_rfl)) (fun _ _ _ h => h) (Or.inl ⟨by rfl, ?_⟩) ?_ ?_
              rotate_left
              · intro w'
                go_simp
                with_reducible rfl
              rotate_left
              · simp only [Act.put, List.setIfInBounds_toArray, List.set_cons_zero, List.set_cons_succ, i64_w, i32_w]
                rfl
              refine take_ (i := 1) (N := some 76) (v := ?_) (a' := ?_) #[true, true, false, false, false, false, false, false, false, false, false, false, false, false, false, false, false, false, false, false, false, false] rfl rfl (take_ofW HT_.out HW_.out (by kernel_rfl)) (fun _ _ _ h => h) (Or.inl ⟨by rfl, ?_⟩) hHeld ?_ ?_
              rotate_left
              · rintro w' ⟨s0, s1, s2⟩
                go_simp
                with_reducible rfl
              rotate_left
              · simp only [Act.put, List.setIfInBounds_toArray, List.set_cons_zero, List.set_cons_succ, i64_w, i32_w]
                rfl
              refine pure_ (i := 2) (N := some 77) (v := ?_) (a' := ?_) #[true, true, true, false, false, false, false, false, false, false, false, false, false, false, false, false, false, false, false, false, false, false] rfl rfl (any_of HT_.out (by kernel_rfl)) (fun _ _ _ h => h) (Or.inl ⟨by rfl, ?_⟩) ?_ ?_
              rotate_left
              · intro w'
                go_simp
                with_reducible rfl
              rotate_left
              · simp only [Act.put, List.setIfInBounds_toArray, List.set_cons_zero, List.set_cons_succ, i64_w, i32_w]
                rfl
              refine pure_ (i := 3) (N := some 78) (v := ?_) (a' := ?_) #[true, true, true, true, false, false, false, false, false, false, false, false, false, false, false, false, false, false, false, false, false, false] rfl rfl (any_of HT_.out (by kernel_rfl)) (fun _ _ _ h => h) (Or.inl ⟨by rfl, ?_⟩) ?_ ?_
              rotate_left
              · intro w'
                go_simp
                with_reducible rfl
              rotate_left
              · simp only [Act.put, List.setIfInBounds_toArray, List.set_cons_zero, List.set_cons_succ, i64_w, i32_w]
                rfl
              refine pure_ (i := 4) (N := some 79) (v := ?_) (a' := ?_) #[true, true, true, true, true, false, false, false, false, false, false, false, false, false, false, false, false, false, false, false, false, false] rfl rfl (any_of HT_.out (by kernel_rfl)) (fun _ _ _ h => h) (Or.inl ⟨by rfl, ?_⟩) ?_ ?_
              rotate_left
              · intro w'
                go_simp
                with_reducible rfl
              rotate_left
              · simp only [Act.put, List.setIfInBounds_toArray, List.set_cons_zero, List.set_cons_succ, i64_w, i32_w]
                rfl
              refine pure_ (i := 5) (N := some 80) (v := ?_) (a' := ?_) #[true, true, true, true, true, true, false, false, false, false, false, false, false, false, false, false, false, false, false, false, false, false] rfl rfl (any_of HT_.out (by kernel_rfl)) (fun _ _ _ h => h) (Or.inl ⟨by rfl, ?_⟩) ?_ ?_
              rotate_left
              · intro w'
                go_simp
                with_reducible rfl
              rotate_left
              · simp only [Act.put, List.setIfInBounds_toArray, List.set_cons_zero, List.set_cons_succ, i64_w, i32_w]
                rfl
              refine take_ (i := 6) (N := some 81) (v := ?_) (a' := ?_) #[true, true, true, true, true, true, true, false, false, false, false, false, false, false, false, false, false, false, false, false, false, false] rfl rfl (take_ofW HT_.out HW_.out (by kernel_rfl)) (fun _ _ _ h => h) (Or.inl ⟨by rfl, ?_⟩) hHeld ?_ ?_
              rotate_left
              · rintro w' ⟨s0, s1, s2⟩
                go_simp
                with_reducible rfl
              rotate_left
              · simp only [Act.put, List.setIfInBounds_toArray, List.set_cons_zero, List.set_cons_succ, i64_w, i32_w]
                rfl
              refine pure_ (i := 7) (N := some 82) (v := ?_) (a' := ?_) #[true, true, true, true, true, true, true, true, false, false, false, false, false, false, false, false, false, false, false, false, false, false] rfl rfl (any_of HT_.out (by kernel_rfl)) (fun _ _ _ h => h) (Or.inl ⟨by rfl, ?_⟩) ?_ ?_
              rotate_left
              · intro w'
                go_simp
                with_reducible rfl
              rotate_left
              · simp only [Act.put, List.setIfInBounds_toArray, List.set_cons_zero, List.set_cons_succ, i64_w, i32_w]
                rfl
              refine pure_ (i := 8) (N := some 83) (v := ?_) (a' := ?_) #[true, true, true, true, true, true, true, true, true, false, false, false, false, false, false, false, false, false, false, false, false, false] rfl rfl (any_of HT_.out (by kernel_rfl)) (fun _ _ _ h => h) (Or.inl ⟨by rfl, ?_⟩) ?_ ?_
              rotate_left
              · intro w'
                go_simp
                with_reducible rfl
              rotate_left
              · simp only [Act.put, List.setIfInBounds_toArray, List.set_cons_zero, List.set_cons_succ, i64_w, i32_w]
                rfl
              refine pure_ (i := 9) (N := some 84) (v := ?_) (a' := ?_) #[true, true, true, true, true, true, true, true, true, true, false, false, false, false, false, false, false, false, false, false, false, false] rfl rfl (any_of HT_.out (by kernel_rfl)) (fun _ _ _ h => h) (Or.inl ⟨by rfl, ?_⟩) ?_ ?_
              rotate_left
              · intro w'
                go_simp
                with_reducible rfl
              rotate_left
              · simp only [Act.put, List.setIfInBounds_toArray, List.set_cons_zero, List.set_cons_succ, i64_w, i32_w]
                rfl
              refine pure_ (i := 10) (N := some 85) (v := ?_) (a' := ?_) #[true, true, true, true, true, true, true, true, true, true, true, false, false, false, false, false, false, false, false, false, false, false] rfl rfl (any_of HT_.out (by kernel_rfl)) (fun _ _ _ h => h) (Or.inl ⟨by rfl, ?_⟩) ?_ ?_
              rotate_left
              · intro w'
                go_simp
                with_reducible rfl
              rotate_left
              · simp only [Act.put, List.setIfInBounds_toArray, List.set_cons_zero, List.set_cons_succ, i64_w, i32_w]
                rfl
              refine pure_ (i := 11) (N := some 86) (v := ?_) (a' := ?_) #[true, true, true, true, true, true, true, true, true, true, true, true, false, false, false, false, false, false, false, false, false, false] rfl rfl (any_of HT_.out (by kernel_rfl)) (fun _ _ _ h => h) (Or.inl ⟨by rfl, ?_⟩) ?_ ?_
              rotate_left
              · intro w'
                go_simp
                with_reducible rfl
              rotate_left
              · simp only [Act.put, List.setIfInBounds_toArray, List.set_cons_zero, List.set_cons_succ, i64_w, i32_w]
                rfl
              refine take_ (i := 12) (N := some 87) (v := ?_) (a' := ?_) #[true, true, true, true, true, true, true, true, true, true, true, true, true, false, false, false, false, false, false, false, false, false] rfl rfl (take_ofW HT_.out HW_.out (by kernel_rfl)) (fun _ _ _ h => h) (Or.inl ⟨by rfl, ?_⟩) hHeld ?_ ?_
              rotate_left
              · rintro w' ⟨s0, s1, s2⟩
                go_simp
                with_reducible rfl
              rotate_left
              · simp only [Act.put, List.setIfInBounds_toArray, List.set_cons_zero, List.set_cons_succ, i64_w, i32_w]
                rfl
              refine pure_ (i := 13) (N := some 88) (v := ?_) (a' := ?_) #[true, true, true, true, true, true, true, true, true, true, true, true, true, true, false, false, false, false, false, false, false, false] rfl rfl (any_of HT_.out (by kernel_rfl)) (fun _ _ _ h => h) (Or.inl ⟨by rfl, ?_⟩) ?_ ?_
              rotate_left
              · intro w'
                go_simp
                with_reducible rfl
              rotate_left
              · simp only [Act.put, List.setIfInBounds_toArray, List.set_cons_zero, List.set_cons_succ, i64_w, i32_w]
                rfl
              refine pure_ (i := 14) (N := some 89) (v := ?_) (a' := ?_) #[true, true, true, true, true, true, true, true, true, true, true, true, true, true, true, false, false, false, false, false, false, false] rfl rfl (any_of HT_.out (by kernel_rfl)) (fun _ _ _ h => h) (Or.inl ⟨by rfl, ?_⟩) ?_ ?_
              rotate_left
              · intro w'
                go_simp
                with_reducible rfl
              rotate_left
              · simp only [Act.put, List.setIfInBounds_toArray, List.set_cons_zero, List.set_cons_succ, i64_w, i32_w]
                rfl
              refine pure_ (i := 15) (N := some 90) (v := ?_) (a' := ?_) #[true, true, true, true, true, true, true, true, true, true, true, true, true, true, true, true, false, false, false, false, false, false] rfl rfl (any_of HT_.out (by kernel_rfl)) (fun _ _ _ h => h) (Or.inl ⟨by rfl, ?_⟩) ?_ ?_
              rotate_left
              · intro w'
                go_simp
                with_reducible rfl
              rotate_left
              · simp only [Act.put, List.setIfInBounds_toArray, List.set_cons_zero, List.set_cons_succ, i64_w, i32_w]
                rfl
              refine pure_ (i := 16) (N := some 91) (v := ?_) (a' := ?_) #[true, true, true, true, true, true, true, true, true, true, true, true, true, true, true, true, true, false, false, false, false, false] rfl rfl (any_of HT_.out (by kernel_rfl)) (fun _ _ _ h => h) (Or.inl ⟨by rfl, ?_⟩) ?_ ?_
              rotate_left
              · intro w'
                go_simp
                with_reducible rfl
              rotate_left
              · simp only [Act.put, List.setIfInBounds_toArray, List.set_cons_zero, List.set_cons_succ, i64_w, i32_w]
                rfl
              refine take_ (i := 17) (N := some 92) (v := ?_) (a' := ?_) #[true, true, true, true, true, true, true, true, true, true, true, true, true, true, true, true, true, true, false, false, false, false] rfl rfl (take_ofW HT_.out HW_.out (by kernel_rfl)) (fun _ _ _ h => h) (Or.inl ⟨by rfl, ?_⟩) hHeld ?_ ?_
              rotate_left
              · rintro w' ⟨s0, s1, s2⟩
                go_simp
                with_reducible rfl
              rotate_left
              · simp only [Act.put, List.setIfInBounds_toArray, List.set_cons_zero, List.set_cons_succ, i64_w, i32_w]
                rfl
              refine pure_ (i := 18) (N := some 93) (v := ?_) (a' := ?_) #[true, true, true, true, true, true, true, true, true, true, true, true, true, true, true, true, true, true, true, false, false, false] rfl rfl (any_of HT_.out (by kernel_rfl)) (fun _ _ _ h => h) (Or.inl ⟨by rfl, ?_⟩) ?_ ?_
              rotate_left
              · intro w'
                go_simp
                with_reducible rfl
              rotate_left
              · simp only [Act.put, List.setIfInBounds_toArray, List.set_cons_zero, List.set_cons_succ, i64_w, i32_w]
                rfl
              refine pure_ (i := 19) (N := some 94) (v := ?_) (a' := ?_) #[true, true, true, true, true, true, true, true, true, true, true, true, true, true, true, true, true, true, true, true, false, false] rfl rfl (any_of HT_.out (by kernel_rfl)) (fun _ _ _ h => h) (Or.inl ⟨by rfl, ?_⟩) ?_ ?_
              rotate_left
              · intro w'
                go_simp
                with_reducible rfl
              rotate_left
              · simp only [Act.put, List.setIfInBounds_toArray, List.set_cons_zero, List.set_cons_succ, i64_w, i32_w]
                rfl
              refine pure_ (i := 20) (N := some 95) (v := ?_) (a' := ?_) #[true, true, true, true, true, true, true, true, true, true, true, true, true, true, true, true, true, true, true, true, true, false] rfl rfl (any_of HT_.out (by kernel_rfl)) (fun _ _ _ h => h) (Or.inl ⟨by rfl, ?_⟩) ?_ ?_
              rotate_left
              · intro w'
                go_simp
                with_reducible rfl
              rotate_left
              · simp only [Act.put, List.setIfInBounds_toArray, List.set_cons_zero, List.set_cons_succ, i64_w, i32_w]
                rfl
              refine last_ (i := 21) (N := none) #[true, true, true, true, true, true, true, true, true, true, true, true, true, true, true, true, true, true, true, true, true, true] rfl rfl (one_of HT_.out (by kernel_rfl)) (by decide) (fun K hK => ?_)
              have hcg := HS.out.2.1
              have hfz := blk_frozen (HQ5.out.below (below_drew1 (Below.refl _ _))).at_ (128 + u)
              refine skip_ (w1 := ?_) (by rfl) rfl ?_ ?_
              rotate_left 1
              · go_simp
                rfl
              refine hK.out _ _ ?_
              clear hK K
              refine done_ (done_of HT_.out (by kernel_rfl)) ?_
              clear hcg hfz
              obtain ⟨v, hv⟩ : ∃ v, v = if z < y then z else y := ⟨_, rfl⟩
              rw [← hv]
              have hQ6 := HQ5.out.put (128 + u) v (by have := HAP.out; have := HVT.out; omega) (by have := HAP.out; have := HVT.out; omega) (by have := HVT.out; omega)
              have hLF := first_put HW.out hlt2 HLI.out.1 HLI.out.2 v (by rw [hv, HYZ.out.1, HYZ.out.2, HU.out])
              rw [← HU.out] at hLF
              have HQ6 := Aside0.mk (hQ6.below (below_drew1 (Below.refl _ _)))
              have HLF := Aside0.mk hLF
              clear hv hQ6 hLF HQ5 HS HLI HYZ
              generalize (w5.setCell ⟨T, 128 + u, none⟩ (.int .i64 v)).drew = w6 at HQ6 ⊢
              go_wp2_with fail
              go_roundw
              case rel => exact ⟨t + 1, _, by simp, by omega, HQ6, HLF⟩
              case measure => simp [intOf]; omega
              -- ENDCUT 3
            · obtain rfl : t = 4 := by omega
              have hlb : decide (((4 : Nat) : Int) < 4) = false := by decide
              go_wp2_with fail
              go_loopw [14, 15] (fun v14 v15 wr => ∃ (ch : Bool) (L : List Int) (best : Int), v14 = .int .i64 best ∧ v15 = .bool ch ∧ Aside0 (R2 w wr E V T a b c d L) ∧ Aside0 (MI (wOf a b c d) L best) ∧ Aside0 (ch = false → ClosedTo (wOf a b c d) L best 512)) (fun _ v15 wr => 2 * msr wr T + chN v15)
              case atStart => exact ⟨true, L, far, rfl, rfl, HQ, ⟨HLI.out.1, HLI.out.2, .inl rfl⟩, ⟨fun h => by cases h⟩⟩
              case round =>
                clear HQ HLI
                obtain ⟨ch, L, best, rfl, rfl, HQ, HM, HC⟩ := hrel
                cases ch with
                | false =>
                  obtain ⟨n, hn, hl⟩ := least_of HW.out HM.out (HC.out rfl)
                  subst hn
                  have HLEAST := Aside0.mk hl
                  clear hl HC HM
                  go_wp2_with fail
                  go_ret
                  exact ⟨n, by simp, HLEAST.out, HQ.out.bel⟩
                | true =>
                  clear HC
                  have HML := Aside0.mk (msr_ints HQ.out.at_)
                  go_wp2_with fail
                  obtain ⟨L0, hL0⟩ : ∃ L0, L0 = L := ⟨_, rfl⟩
                  rw [← hL0] at HML
                  have hsw : SW (wOf a b c d) false L0 L best (8 * 1) := .inr ⟨rfl, hL0.symm, fun s' t' i' h1 h2 h3 h4 h5 => by omega⟩
                  have HSW := Aside0.mk hsw
                  clear hL0 hsw
                  go_loopw [14, 15, 16] (fun v14 v15 v16 wr => ∃ (ch : Bool) (L : List Int) (best : Int) (s : Nat), v14 = .int .i64 best ∧ v15 = .bool ch ∧ v16 = .int .i64 (s : Int) ∧ 1 ≤ s ∧ s ≤ 64 ∧ Aside0 (R2 w wr E V T a b c d L) ∧ Aside0 (MI (wOf a b c d) L best) ∧ Aside0 (SW (wOf a b c d) ch L0 L best (8 * s))) (fun _ _ v16 _ => 64 - (intOf v16).toNat)
                  case atStart => exact ⟨false, L, best, 1, rfl, rfl, by simp, by omega, by omega, HQ, HM, HSW⟩
                  case round =>
                    clear HQ HM HSW
                    obtain ⟨ch, L, best, s, rfl, rfl, rfl, hs1, hs64, HQ, HM, HSW⟩ := hrel
                    by_cases hlt : s < 64
                    · have hlb : decide ((s : Int) < 64) = true := decide_eq_true (by omega)
                      have hs64' : (s : Int) < 64 := by omega
                      go_wp2_with fail
                      go_loopw [14, 15, 17] (fun v14 v15 v17 wr => ∃ (ch : Bool) (L : List Int) (best : Int) (t : Nat), v14 = .int .i64 best ∧ v15 = .bool ch ∧ v17 = .int .i64 (t : Int) ∧ t ≤ 4 ∧ Aside0 (R2 w wr E V T a b c d L) ∧ Aside0 (MI (wOf a b c d) L best) ∧ Aside0 (SW (wOf a b c d) ch L0 L best (8 * s + 2 * t))) (fun _ _ v17 _ => 4 - (intOf v17).toNat)
                      case atStart => exact ⟨ch, L, best, 0, rfl, rfl, by simp, by omega, HQ, HM, HSW⟩
                      case round =>
                        clear HQ HM HSW
                        obtain ⟨ch, L, best, t, rfl, rfl, rfl, ht, HQ, HM, HSW⟩ := hrel
                        by_cases hlt2 : t < 4
                        · have hlb : decide ((t : Int) < 4) = true := decide_eq_true (by omega)
                          have ht4 : (t : Int) < 4 := by omega
                          have hLl : L.length = 256 := HM.out.li.len
                          obtain ⟨y, hy⟩ : ∃ y, y = L.getD (4 * s + t) 0 := ⟨_, rfl⟩
                          have hcy : wr.cell? ⟨T, s * 4 + t, none⟩ = some (.int .i64 y) := by
                            have h := ints_cell' HQ.out.at_ (4 * s + t) (by omega)
                            rw [← hy] at h
                            have e : s * 4 + t = 4 * s + t := by omega
                            rw [e]; exact h
                          have hyl := (HM.out.li.le s t hlt hlt2)
                          rw [← hy] at hyl
                          have HY := Aside0.mk hy
                          have HYL := Aside0.mk hyl
                          clear hLl hy hyl
                          by_cases hyf : y = 1073741824
                          · subst hyf
                            have HSW2 := Aside0.mk (HSW.out.skip hlt2 HY.out.symm)
                            clear HSW HY HYL
                            go_wp2_with fail
                            go_roundw
                            case rel => exact ⟨ch, L, best, t + 1, rfl, rfl, by simp, by omega, HQ, HM, HSW2⟩
                            case measure => simp [intOf]; omega
                          · have hyb : (y == 1073741824) = false := beq_eq_false_iff_ne.mpr hyf
                            have HK := Aside0.mk (show L.getD (4 * s + t) 0 < far by have h := HYL.out; rw [← HY.out]; have hf : far = 1073741824 := rfl; omega)
                            go_wp2_with fail
                            clear hcy hyf hyb HY HYL
                            go_loopw [14, 15, 18] (fun v14 v15 v18 wr => ∃ (ch : Bool) (L : List Int) (best : Int) (i : Nat), v14 = .int .i64 best ∧ v15 = .bool ch ∧ v18 = .int .i64 (i : Int) ∧ i ≤ 2 ∧ Aside0 (R2 w wr E V T a b c d L) ∧ Aside0 (MI (wOf a b c d) L best) ∧ Aside0 (SW (wOf a b c d) ch L0 L best (8 * s + 2 * t + i)) ∧ Aside0 (L.getD (4 * s + t) 0 < far)) (fun _ _ v18 _ => 2 - (intOf v18).toNat)
                            case atStart => exact ⟨ch, L, best, 0, rfl, rfl, by simp, by omega, HQ, HM, HSW, HK⟩
                            case round =>
                              clear HQ HM HSW HK
                              obtain ⟨ch, L, best, i, rfl, rfl, rfl, hi, HQ, HM, HSW, HK⟩ := hrel
                              by_cases hlt3 : i < 2
                              · have hlb : decide ((i : Int) < 2) = true := decide_eq_true (by omega)
                                have hi2 : (i : Int) < 2 := by omega
                                have hE := fun j (hj : j < 7) => HQ.out.edge.cell (2 * s + i) j (by omega) hj
                                have hoff : 7 * (2 * s + i) = s * 14 + i * 7 := by omega
                                have hE0 : wr.cell? ⟨E, s * 14 + i * 7, none⟩ = some (eC (2 * s + i) 0) := by rw [← hoff]; exact hE 0 (by decide)
                                have hE1 : wr.cell? ⟨E, s * 14 + i * 7 + 1, none⟩ = some (eC (2 * s + i) 1) := by rw [← hoff]; exact hE 1 (by decide)
                                have hE2 : wr.cell? ⟨E, s * 14 + i * 7 + 2, none⟩ = some (eC (2 * s + i) 2) := by rw [← hoff]; exact hE 2 (by decide)
                                have hE3 : wr.cell? ⟨E, s * 14 + i * 7 + 3, none⟩ = some (eC (2 * s + i) 3) := by rw [← hoff]; exact hE 3 (by decide)
                                have hE4 : wr.cell? ⟨E, s * 14 + i * 7 + 4, none⟩ = some (eC (2 * s + i) 4) := by rw [← hoff]; exact hE 4 (by decide)
                                have hE5 : wr.cell? ⟨E, s * 14 + i * 7 + 5, none⟩ = some (eC (2 * s + i) 5) := by rw [← hoff]; exact hE 5 (by decide)
                                have hE6 : wr.cell? ⟨E, s * 14 + i * 7 + 6, none⟩ = some (eC (2 * s + i) 6) := by rw [← hoff]; exact hE 6 (by decide)
                                clear hE hoff
                                go_wp2_with (first
                                  | ((with_reducible refine gate_ (.store 58 (.tmp 19) (.tmp 121)) rfl ?_); refine Aside0.out ?_)
                                  | fail)
                                refine Aside0.mk ?_
                                obtain ⟨q1, q2, q3⟩ := ebox wr (2 * s + i)
                                refine wpList_store_mid rfl 58 (.tmp 19) (.tmp 121) rfl wr.heap.size 0 (eL (2 * s + i)).toArray (by rfl) (by rfl) q1 (by kernel_rfl) (eL_one _) ?_
                                have hQ5 := HQ.out.below q2
                                have hc1 := q3 1 (by decide)
                                have hBT : wr.heap.size ≠ T := by have := blk_lt HQ.out.at_; omega
                                clear q1 q2 q3 hE0 hE1 hE2 hE3 hE4 hE5 hE6
                                obtain ⟨B, hB⟩ : ∃ B, B = wr.heap.size := ⟨_, rfl⟩
                                rw [← hB] at hc1 hBT hQ5 ⊢
                                obtain ⟨w5, hw5⟩ : ∃ w5, w5 = ((wr.alloc (.cells z58 58)).setCells B 0 (eL (2 * s + i))) := ⟨_, rfl⟩
                                rw [← hw5] at hc1 hQ5
                                have he1 : (2 * s + i) / 2 = s := by omega
                                have he2 : (2 * s + i) % 2 = i := by omega
                                have hc2 : w5.cell? ⟨B, 1, none⟩ = some (.int .i64 ((dst s i : Nat) : Int)) := by rw [hc1]; unfold eC; rw [he1, he2]; rfl
                                have hdl : dst s i < 64 := by unfold dst; omega
                                have HQ5 := Aside0.mk hQ5
                                have HBT := Aside0.mk hBT
                                show wpList _ _ _ _ _ ((wr.alloc (.cells z58 58)).setCells B 0 (eL (2 * s + i)))
                                rw [← hw5, put_none]
                                clear hw5 hB hBT hc1 hQ5 HQ he1 he2
                                go_wp2_with fail
                                obtain ⟨y, hy⟩ : ∃ y, y = L.getD (4 * s + t) 0 := ⟨_, rfl⟩
                                obtain ⟨z, hz⟩ : ∃ z, z = ew (wOf a b c d) s i t := ⟨_, rfl⟩
                                obtain ⟨D, hD⟩ : ∃ D, D = dst s i := ⟨_, rfl⟩
                                rw [← hD] at hc2 hdl
                                have hLl : L.length = 256 := HM.out.li.len
                                have hq1 : (8 * s + 4 * i + t) / 8 = s := by omega
                                have hq2 : (8 * s + 4 * i + t) / 4 % 2 = i := by omega
                                have hq3 : (8 * s + 4 * i + t) % 4 = t := by omega
                                have hq4 : s * 8 + i * 4 + t = 8 * s + 4 * i + t := by omega
                                have hq5 : s * 4 + t = 4 * s + t := by omega
                                have hcT : w5.drew.cell? ⟨T, s * 4 + t, none⟩ = some (.int .i64 y) := by rw [hy, hq5]; exact ints_cell' HQ5.out.at_ (4 * s + t) (by omega)
                                have hcV : w5.drew.cell? ⟨V, s * 8 + i * 4 + t, none⟩ = some (.int .i64 z) := by
                                  have h := ints_cell' HQ5.out.wt (8 * s + 4 * i + t) (by rw [fill_length]; omega)
                                  rw [fill_get _ _ _ _ _ (by omega) (by omega)] at h
                                  unfold wv at h
                                  rw [hq1, hq2, hq3, ← hz, ← hq4] at h
                                  exact h
                                have HS := Aside0.mk (And.intro hcT hcV)
                                have hyl := (HM.out.li.le s t hlt hlt2)
                                have hzl := ew_in HW.out s i t
                                rw [← hy] at hyl
                                rw [← hz] at hzl
                                have hf : far = 1073741824 := rfl
                                have hwz : wrap64 (y + z) = y + z := wrap_small (by omega) (by omega)
                                have HYZ := Aside0.mk (And.intro hy (And.intro hz hD))
                                clear hy hz hD hLl hq1 hq2 hq3 hq4 hq5 hcT hcV hf
                                refine start_ (n := 14) (S := (fun w' => w'.cell? ⟨T, s * 4 + t, none⟩ = some (.int .i64 y) ∧ w'.cell? ⟨V, s * 8 + i * 4 + t, none⟩ = some (.int .i64 z))) (ds := []) #[false, false, false, false, false, false, false, false, false, false, false, false, false, false] (by kernel_rfl) rfl rfl HS.out (fun hHeld => ?_)
                                refine with_tabW least43.tab least43.bits (fun HT_ HW_ => ?_)
                                refine pure_ (i := 0) (N := some 122) (v := ?_) (a' := ?_) #[true, false, false, false, false, false, false, false, false, false, false, false, false, false] rfl rfl (any_of HT_.out (by kernel_rfl)) (fun _ _ _ h => h) (Or.inl ⟨by rfl, ?_⟩) ?_ ?_
                                rotate_left
                                · intro w'
                                  go_simp
                                  with_reducible rfl
                                rotate_left
                                · simp only [Act.put, List.setIfInBounds_toArray, List.set_cons_zero, List.set_cons_succ, i64_w, i32_w]
                                  rfl
                                refine pure_ (i := 1) (N := some 123) (v := ?_) (a' := ?_) #[true, true, false, false, false, false, false, false, false, false, false, false, false, false] rfl rfl (any_of HT_.out (by kernel_rfl)) (fun _ _ _ h => h) (Or.inl ⟨by rfl, ?_⟩) ?_ ?_
                                rotate_left
                                · intro w'
                                  go_simp
                                  with_reducible rfl
                                rotate_left
                                · simp only [Act.put, List.setIfInBounds_toArray, List.set_cons_zero, List.set_cons_succ, i64_w, i32_w]
                                  rfl
                                refine pure_ (i := 2) (N := some 124) (v := ?_) (a' := ?_) #[true, true, true, false, false, false, false, false, false, false, false, false, false, false] rfl rfl (any_of HT_.out (by kernel_rfl)) (fun _ _ _ h => h) (Or.inl ⟨by rfl, ?_⟩) ?_ ?_
                                rotate_left
                                · intro w'
                                  go_simp
                                  with_reducible rfl
                                rotate_left
                                · simp only [Act.put, List.setIfInBounds_toArray, List.set_cons_zero, List.set_cons_succ, i64_w, i32_w]
                                  rfl
                                refine pure_ (i := 3) (N := some 125) (v := ?_) (a' := ?_) #[true, true, true, true, false, false, false, false, false, false, false, false, false, false] rfl rfl (any_of HT_.out (by kernel_rfl)) (fun _ _ _ h => h) (Or.inl ⟨by rfl, ?_⟩) ?_ ?_
                                rotate_left
                                · intro w'
                                  go_simp
                                  with_reducible rfl
                                rotate_left
                                · simp only [Act.put, List.setIfInBounds_toArray, List.set_cons_zero, List.set_cons_succ, i64_w, i32_w]
                                  rfl
                                refine take_ (i := 4) (N := some 126) (v := ?_) (a' := ?_) #[true, true, true, true, true, false, false, false, false, false, false, false, false, false] rfl rfl (take_ofW HT_.out HW_.out (by kernel_rfl)) (fun _ _ _ h => h) (Or.inl ⟨by rfl, ?_⟩) hHeld ?_ ?_
                                rotate_left
                                · rintro w' ⟨s0, s1⟩
                                  go_simp
                                  with_reducible rfl
                                rotate_left
                                · simp only [Act.put, List.setIfInBounds_toArray, List.set_cons_zero, List.set_cons_succ, i64_w, i32_w]
                                  rfl
                                refine pure_ (i := 5) (N := some 127) (v := ?_) (a' := ?_) #[true, true, true, true, true, true, false, false, false, false, false, false, false, false] rfl rfl (any_of HT_.out (by kernel_rfl)) (fun _ _ _ h => h) (Or.inl ⟨by rfl, ?_⟩) ?_ ?_
                                rotate_left
                                · intro w'
                                  go_simp
                                  with_reducible rfl
                                rotate_left
                                · simp only [Act.put, List.setIfInBounds_toArray, List.set_cons_zero, List.set_cons_succ, i64_w, i32_w]
                                  rfl
                                refine pure_ (i := 6) (N := some 128) (v := ?_) (a' := ?_) #[true, true, true, true, true, true, true, false, false, false, false, false, false, false] rfl rfl (any_of HT_.out (by kernel_rfl)) (fun _ _ _ h => h) (Or.inl ⟨by rfl, ?_⟩) ?_ ?_
                                rotate_left
                                · intro w'
                                  go_simp
                                  with_reducible rfl
                                rotate_left
                                · simp only [Act.put, List.setIfInBounds_toArray, List.set_cons_zero, List.set_cons_succ, i64_w, i32_w]
                                  rfl
                                refine pure_ (i := 7) (N := some 129) (v := ?_) (a' := ?_) #[true, true, true, true, true, true, true, true, false, false, false, false, false, false] rfl rfl (any_of HT_.out (by kernel_rfl)) (fun _ _ _ h => h) (Or.inl ⟨by rfl, ?_⟩) ?_ ?_
                                rotate_left
                                · intro w'
                                  go_simp
                                  with_reducible rfl
                                rotate_left
                                · simp only [Act.put, List.setIfInBounds_toArray, List.set_cons_zero, List.set_cons_succ, i64_w, i32_w]
                                  rfl
                                refine pure_ (i := 8) (N := some 130) (v := ?_) (a' := ?_) #[true, true, true, true, true, true, true, true, true, false, false, false, false, false] rfl rfl (any_of HT_.out (by kernel_rfl)) (fun _ _ _ h => h) (Or.inl ⟨by rfl, ?_⟩) ?_ ?_
                                rotate_left
                                · intro w'
                                  go_simp
                                  with_reducible rfl
                                rotate_left
                                · simp only [Act.put, List.setIfInBounds_toArray, List.set_cons_zero, List.set_cons_succ, i64_w, i32_w]
                                  rfl
                                refine pure_ (i := 9) (N := some 131) (v := ?_) (a' := ?_) #[true, true, true, true, true, true, true, true, true, true, false, false, false, false] rfl rfl (any_of HT_.out (by kernel_rfl)) (fun _ _ _ h => h) (Or.inl ⟨by rfl, ?_⟩) ?_ ?_
                                rotate_left
                                · intro w'
                                  go_simp
                                  with_reducible rfl
                                rotate_left
                                · simp only [Act.put, List.setIfInBounds_toArray, List.set_cons_zero, List.set_cons_succ, i64_w, i32_w]
                                  rfl
                                refine pure_ (i := 10) (N := some 132) (v := ?_) (a' := ?_) #[true, true, true, true, true, true, true, true, true, true, true, false, false, false] rfl rfl (any_of HT_.out (by kernel_rfl)) (fun _ _ _ h => h) (Or.inl ⟨by rfl, ?_⟩) ?_ ?_
                                rotate_left
                                · intro w'
                                  go_simp
                                  with_reducible rfl
                                rotate_left
                                · simp only [Act.put, List.setIfInBounds_toArray, List.set_cons_zero, List.set_cons_succ, i64_w, i32_w]
                                  rfl
                                refine take_ (i := 11) (N := some 133) (v := ?_) (a' := ?_) #[true, true, true, true, true, true, true, true, true, true, true, true, false, false] rfl rfl (take_ofW HT_.out HW_.out (by kernel_rfl)) (fun _ _ _ h => h) (Or.inl ⟨by rfl, ?_⟩) hHeld ?_ ?_
                                rotate_left
                                · rintro w' ⟨s0, s1⟩
                                  go_simp
                                  with_reducible rfl
                                rotate_left
                                · simp only [Act.put, List.setIfInBounds_toArray, List.set_cons_zero, List.set_cons_succ, i64_w, i32_w]
                                  rfl
                                refine pure_ (i := 12) (N := some 134) (v := ?_) (a' := ?_) #[true, true, true, true, true, true, true, true, true, true, true, true, true, false] rfl rfl (any_of HT_.out (by kernel_rfl)) (fun _ _ _ h => h) (Or.inl ⟨by rfl, ?_⟩) ?_ ?_
                                rotate_left
                                · intro w'
                                  go_simp
                                  with_reducible rfl
                                rotate_left
                                · simp only [Act.put, List.setIfInBounds_toArray, List.set_cons_zero, List.set_cons_succ, i64_w, i32_w]
                                  rfl
                                refine pure_ (i := 13) (N := some 20) (v := ?_) (a' := ?_) #[true, true, true, true, true, true, true, true, true, true, true, true, true, true] rfl rfl (any_of HT_.out (by kernel_rfl)) (fun _ _ _ h => h) (Or.inl ⟨by rfl, ?_⟩) ?_ ?_
                                rotate_left
                                · intro w'
                                  go_simp
                                  with_reducible rfl
                                rotate_left
                                · simp only [Act.put, List.setIfInBounds_toArray, List.set_cons_zero, List.set_cons_succ, i64_w, i32_w]
                                  rfl
                                refine done_ (done_of HT_.out (by kernel_rfl)) ?_
                                clear HS
                                rw [hwz]
                                clear hyl hzl hwz
                                have HQ6 := Aside0.mk (HQ5.out.below (below_drew1 (Below.refl _ _)))
                                have hc3 : w5.drew.cell? ⟨B, 1, none⟩ = some (.int .i64 (D : Int)) := hc2
                                obtain ⟨w6, hw6⟩ : ∃ w6, w6 = w5.drew := ⟨_, rfl⟩
                                rw [← hw6] at HQ6 hc3 ⊢
                                clear hw6 hc2 HQ5
                                by_cases hD0 : D = 0
                                · subst hD0
                                  have hb2 := sw_best HW.out hs1 hlt hlt2 hlt3 HM.out HSW.out HK.out HYZ.out.2.2.symm (if y + z < best then y + z else best) (by rw [HYZ.out.1, HYZ.out.2.1])
                                  have HB2 := Aside0.mk hb2
                                  clear hb2 HYZ
                                  go_wp2_with fail
                                  go_roundw
                                  case rel => exact ⟨ch, L, _, i + 1, rfl, rfl, by simp, by omega, HQ6, ⟨HB2.out.1⟩, ⟨HB2.out.2⟩, HK⟩
                                  case measure => simp [intOf]; omega
                                · have hDb : ((D : Int) == 0) = false := beq_eq_false_iff_ne.mpr (by omega)
                                  have hu1 := nx_e t
                                  have hu2 := nx_t t
                                  have hu4 := nx_w t hlt2
                                  have hu3 : (nx t : Int) < 4 := by have := nx_lt t; omega
                                  have hDl : (D : Int) < 64 := by omega
                                  obtain ⟨u, hu⟩ : ∃ u, u = nx t := ⟨_, rfl⟩
                                  rw [← hu] at hu1 hu2 hu3 hu4
                                  obtain ⟨p, hp⟩ : ∃ p, p = L.getD (4 * D + u) 0 := ⟨_, rfl⟩
                                  have hLl : L.length = 256 := HM.out.li.len
                                  have hq6 : D * 4 + u = 4 * D + u := by omega
                                  have hcp : w6.cell? ⟨T, D * 4 + u, none⟩ = some (.int .i64 p) := by rw [hp, hq6]; exact ints_cell' HQ6.out.at_ (4 * D + u) (by omega)
                                  have hfz := blk_frozen HQ6.out.at_ (D * 4 + u)
                                  have HP := Aside0.mk (And.intro hp (And.intro hu hq6))
                                  clear hp hu hq6 hLl
                                  by_cases hlt4 : y + z < p
                                  · have hlb4 : decide (y + z < p) = true := decide_eq_true hlt4
                                    have hpt := sw_put HW.out hs1 hlt hlt2 hlt3 HM.out HSW.out HK.out (by rw [← HYZ.out.2.2]; exact hD0) (by rw [← HYZ.out.1, ← HYZ.out.2.1, ← HYZ.out.2.2, ← HP.out.2.1, ← HP.out.1]; exact hlt4) (8 * s + 2 * t + (i + 1))
                                    rw [← HYZ.out.1, ← HYZ.out.2.1, ← HYZ.out.2.2, ← HP.out.2.1] at hpt
                                    have hQ7 := HQ6.out.put (D * 4 + u) (y + z) (by have := HAP.out; have := HVT.out; omega) (by have := HAP.out; have := HVT.out; omega) (by have := HVT.out; omega)
                                    rw [HP.out.2.2] at hQ7
                                    have hk7 := Int.lt_of_le_of_lt (hpt.2.2 (4 * s + t)) HK.out
                                    have H7 := Aside0.mk (And.intro hQ7 (And.intro hpt hk7))
                                    have HE7 := Aside0.mk HP.out.2.2
                                    clear hpt hQ7 hk7 HYZ HP
                                    go_wp2_with fail
                                    go_roundw
                                    case rel => exact ⟨true, _, best, i + 1, rfl, rfl, by simp, by omega, ⟨by rw [HE7.out]; exact H7.out.1⟩, ⟨H7.out.2.1.1⟩, ⟨H7.out.2.1.2.1⟩, ⟨H7.out.2.2⟩⟩
                                    case measure => simp [intOf]; omega
                                  · have hlb4 : decide (y + z < p) = false := decide_eq_false hlt4
                                    have HSW2 := Aside0.mk (sw_keep HW.out hlt2 hlt3 HSW.out (by rw [← HYZ.out.2.2]; exact hD0) (by rw [← HYZ.out.1, ← HYZ.out.2.1, ← HYZ.out.2.2, ← HP.out.2.1, ← HP.out.1]; exact hlt4))
                                    clear HYZ HP
                                    go_wp2_with fail
                                    go_roundw
                                    case rel => exact ⟨ch, L, best, i + 1, rfl, rfl, by simp, by omega, HQ6, HM, HSW2, HK⟩
                                    case measure => simp [intOf]; omega
                              · obtain rfl : i = 2 := by omega
                                have hlb : decide (((2 : Nat) : Int) < 2) = false := by decide
                                go_wp2_with fail
                                go_roundw
                                case rel => exact ⟨ch, L, best, t + 1, rfl, rfl, by simp, by omega, HQ, HM, ⟨HSW.out⟩⟩
                                case measure => simp [intOf]; omega
                        · obtain rfl : t = 4 := by omega
                          have hlb : decide (((4 : Nat) : Int) < 4) = false := by decide
                          go_wp2_with fail
                          go_roundw
                          case rel => exact ⟨ch, L, best, s + 1, rfl, rfl, by simp, by omega, by omega, HQ, HM, ⟨HSW.out⟩⟩
                          case measure => simp [intOf]; omega
                    · obtain rfl : s = 64 := by omega
                      have hlb : decide (((64 : Nat) : Int) < 64) = false := by decide
                      go_wp2_with fail
                      go_roundw
                      case rel => exact ⟨ch, L, best, rfl, rfl, HQ, HM, ⟨fun h => by
                        rcases HSW.out with ⟨k, _⟩ | ⟨_, _, k⟩
                        · rw [h] at k; cases k
                        · exact k⟩⟩
                      case measure =>
                        rw [HML.out, msr_ints HQ.out.at_]
                        rcases HSW.out with ⟨k, k2⟩ | ⟨k, k2, _⟩
                        · subst k; simp [chN]; omega
                        · subst k; subst k2; simp [chN]
end Go.Proofs.YtijpnlmejphfhaaDoor.P

-- YtijpnlmejphfhaaDoorPDLawLeast
namespace Go.Proofs.YtijpnlmejphfhaaDoor.P
open Go Go.Proofs Go.RowKit Go.Proofs.YtijpnlmejphfhaaDoorW.PrintWords Go.Proofs.YtijpnlmejphfhaaDoorW.PrintLast Go.Proofs.YtijpnlmejphfhaaDoorW.PrintMore
set_option linter.unusedVariables false
set_option linter.unusedSimpArgs false
attribute [local go_sem] max2_int min2_int max_two min_two max_three min_three max_four min_four

set_option maxRecDepth 100000 in
set_option maxHeartbeats 8000000 in
theorem lawDLeast.walk (a b c d : Int) (w : World) (hT : TP w := by assumption) :
    Calls Tryd.prog 10 #[.agg #[.int .i64 a, .int .i64 b, .int .i64 c, .int .i64 d]] w fun e w' => e = .returned (.bool true) ∧ Below w.heap.size w w' := by
  have HT := Aside0.mk hT
  clear hT
  go_enter Tryd.func10, Tryd.ntmps10
  go_wp2_with (first
    | ((with_reducible refine gate_ (.load 22 (.tmp 1)) rfl ?_); refine Aside0.out ?_)
    | fail)
  refine Aside0.mk ?_
  have hba := below_alloc (Below.refl w.heap.size w) (.cells #[.int .i64 a, .int .i64 b, .int .i64 c, .int .i64 d] 22)
  have hbb := blk_new w (.cells #[.int .i64 a, .int .i64 b, .int .i64 c, .int .i64 d] 22)
  obtain ⟨w1, hw1⟩ : ∃ w1, w1 = w.alloc (.cells #[.int .i64 a, .int .i64 b, .int .i64 c, .int .i64 d] 22) := ⟨_, rfl⟩
  obtain ⟨x0, hx0⟩ : ∃ x0, x0 = w.heap.size := ⟨_, rfl⟩
  rw [← hw1] at hba hbb
  rw [← hx0] at hbb
  rw [← hw1, ← hx0]
  have HB1 := Aside0.mk hba
  have HX1 := Aside0.mk hbb
  clear hba hbb hw1 hx0
  have hc0 := blk_cell HX1.out 0
  have hc1 := blk_cell HX1.out 1
  have hc2 := blk_cell HX1.out 2
  have hc3 := blk_cell HX1.out 3
  by_cases hok : wok a b c d = true
  · have HK := Aside0.mk hok
    have HA := Aside0.mk (dleast_calls a b c d (TP_of HT.out HB1.out) hok)
    clear hok
    go_wp2_with (first
      | (go_at_call 18; refine Aside0.out ?_)
      | fail)
    refine Aside0.mk ?_
    refine HA.out.mono ?_
    rintro e w2 ⟨n, rfl, hl, hb⟩
    have HL := Aside0.mk hl
    have HX2 := Aside0.mk ((hb.block x0 (blk_lt HX1.out)).trans HX1.out)
    have HB2 := Aside0.mk (below_step HB1.out hb)
    have HM := Aside0.mk (mends_calls a b c d (TP_of HT.out HB2.out) HK.out)
    clear hl hb HA HX1 HB1 hc0 hc1 hc2 hc3
    have hc0 := blk_cell HX2.out 0
    have hc1 := blk_cell HX2.out 1
    have hc2 := blk_cell HX2.out 2
    have hc3 := blk_cell HX2.out 3
    go_wp2_with (first
      | (go_at_call 22; refine Aside0.out ?_)
      | fail)
    refine Aside0.mk ?_
    refine HM.out.mono ?_
    rintro e w3 ⟨n', rfl, hl, hn', hb⟩
    have hnn : n' = n := IsLeast.same hl HL.out
    subst hnn
    have HN := Aside0.mk hn'
    have HX3 := Aside0.mk ((hb.block x0 (blk_lt HX2.out)).trans HX2.out)
    have HB3 := Aside0.mk (below_step HB2.out hb)
    have HAP := Aside0.mk (apart_calls (TP_of HT.out HB3.out))
    clear hl hb hn' HM HX2 HB2 hc0 hc1 hc2 hc3
    go_wp2_with (first
      | (go_at_call 19; refine Aside0.out ?_)
      | fail)
    refine Aside0.mk ?_
    refine HAP.out.mono ?_
    rintro e w4 ⟨rfl, hb⟩
    have HX4 := Aside0.mk ((hb.block x0 (blk_lt HX3.out)).trans HX3.out)
    have HB4 := Aside0.mk (below_step HB3.out hb)
    have hri := right_calls a b c d w4
    rw [HK.out] at hri
    have HR := Aside0.mk hri
    clear hb hri HAP HX3 HB3
    have hc0 := blk_cell HX4.out 0
    have hc1 := blk_cell HX4.out 1
    have hc2 := blk_cell HX4.out 2
    have hc3 := blk_cell HX4.out 3
    go_wp2_with (first
      | (go_at_call 23; refine Aside0.out ?_)
      | fail)
    refine Aside0.mk ?_
    refine HR.out.mono ?_
    rintro e w5 ⟨rfl, hb⟩
    have HX5 := Aside0.mk ((hb.block x0 (blk_lt HX4.out)).trans HX4.out)
    have HB5 := Aside0.mk (below_step HB4.out hb)
    have HRL := Aside0.mk (rleast_calls a b c d HK.out w5)
    clear hb HR HX4 HB4 hc0 hc1 hc2 hc3
    have hc0 := blk_cell HX5.out 0
    have hc1 := blk_cell HX5.out 1
    have hc2 := blk_cell HX5.out 2
    have hc3 := blk_cell HX5.out 3
    go_wp2_with (first
      | (go_at_call 15; refine Aside0.out ?_)
      | fail)
    refine Aside0.mk ?_
    refine HRL.out.mono ?_
    rintro e w6 ⟨n'', rfl, hl, hb⟩
    have hnn : n'' = n' := IsLeast.same hl HL.out
    subst hnn
    have HB6 := Aside0.mk (below_step HB5.out hb)
    clear hl hb HRL HX5 HB5 HK HL hc0 hc1 hc2 hc3
    obtain ⟨z, hz⟩ : ∃ z : Int, z = ((n'' : Nat) : Int) := ⟨_, rfl⟩
    obtain ⟨m, hm⟩ : ∃ m : Int, m = ((mendN n'' : Nat) : Int) := ⟨_, rfl⟩
    rw [← hz, ← hm]
    have hn := HN.out
    by_cases h0 : n'' = 0
    · subst h0
      have hz0 : z = 0 := hz
      have hm0 : m = 0 := hm
      clear hz hm HN hn
      subst hz0 hm0
      go_wp2_with fail
      have hrs : (Tryd.f10).results = #[.tmp 2] := by kernel_rfl
      refine bodyPost_ret (results_tmp hrs _ _ _) rfl ?_
      exact ⟨by simp, HB6.out⟩
    · obtain ⟨y, hy⟩ : ∃ y : Int, y = z - 1 := ⟨_, rfl⟩
      have hyb : 0 ≤ y ∧ y ≤ 1000 := by omega
      have hzb : 1 ≤ z ∧ z ≤ 1000 := by omega
      have hym : y / 2 = m := by rw [hm]; unfold mendN; omega
      have hyt : Int.tdiv y 2 = m := by rw [Int.tdiv_eq_ediv_of_nonneg hyb.1]; exact hym
      have hmb : 0 ≤ m ∧ m ≤ 1000 := by omega
      have hd1 : ¬ m < 0 := by omega
      have hy1 : z - 1 = y := hy.symm
      clear hz hm HN hn hy h0
      go_wp2_with fail
      have hrs : (Tryd.f10).results = #[.tmp 2] := by kernel_rfl
      refine bodyPost_ret (results_tmp hrs _ _ _) rfl ?_
      exact ⟨by simp, HB6.out⟩
  · have hok : wok a b c d = false := by
      cases h : wok a b c d
      · rfl
      · exact absurd h hok
    have HK := Aside0.mk hok
    have HA := Aside0.mk (dleast_bad a b c d w1 hok)
    clear hok
    go_wp2_with (first
      | (go_at_call 18; refine Aside0.out ?_)
      | fail)
    refine Aside0.mk ?_
    refine HA.out.mono ?_
    rintro e w2 ⟨rfl, hb⟩
    have HX2 := Aside0.mk ((hb.block x0 (blk_lt HX1.out)).trans HX1.out)
    have HB2 := Aside0.mk (below_step HB1.out hb)
    have HM := Aside0.mk (mends_bad a b c d w2 HK.out)
    clear hb HA HX1 HB1 hc0 hc1 hc2 hc3
    have hc0 := blk_cell HX2.out 0
    have hc1 := blk_cell HX2.out 1
    have hc2 := blk_cell HX2.out 2
    have hc3 := blk_cell HX2.out 3
    go_wp2_with (first
      | (go_at_call 22; refine Aside0.out ?_)
      | fail)
    refine Aside0.mk ?_
    refine HM.out.mono ?_
    rintro e w3 ⟨rfl, hb⟩
    have HX3 := Aside0.mk ((hb.block x0 (blk_lt HX2.out)).trans HX2.out)
    have HB3 := Aside0.mk (below_step HB2.out hb)
    have HAP := Aside0.mk (apart_calls (TP_of HT.out HB3.out))
    clear hb HM HX2 HB2 hc0 hc1 hc2 hc3
    go_wp2_with (first
      | (go_at_call 19; refine Aside0.out ?_)
      | fail)
    refine Aside0.mk ?_
    refine HAP.out.mono ?_
    rintro e w4 ⟨rfl, hb⟩
    have HX4 := Aside0.mk ((hb.block x0 (blk_lt HX3.out)).trans HX3.out)
    have HB4 := Aside0.mk (below_step HB3.out hb)
    have hri := right_calls a b c d w4
    rw [HK.out] at hri
    have HR := Aside0.mk hri
    clear hb hri HAP HX3 HB3
    have hc0 := blk_cell HX4.out 0
    have hc1 := blk_cell HX4.out 1
    have hc2 := blk_cell HX4.out 2
    have hc3 := blk_cell HX4.out 3
    go_wp2_with (first
      | (go_at_call 23; refine Aside0.out ?_)
      | fail)
    refine Aside0.mk ?_
    refine HR.out.mono ?_
    rintro e w5 ⟨rfl, hb⟩
    have HB5 := Aside0.mk (below_step HB4.out hb)
    clear hb HR HX4 HB4 hc0 hc1 hc2 hc3
    go_wp2_with fail
    have hrs : (Tryd.f10).results = #[.tmp 2] := by kernel_rfl
    refine bodyPost_ret (results_tmp hrs _ _ _) rfl ?_
    exact ⟨by simp, HB5.out⟩
end Go.Proofs.YtijpnlmejphfhaaDoor.P

-- YtijpnlmejphfhaaDoorPArrRow
namespace Go.Proofs.YtijpnlmejphfhaaDoor.P
open Go Go.WideMaps Go.ChangeShapes Go.WideShapes
section
variable {H : Type} {enc : TypeId × Value → H} {P : Program} {k e : TypeId} {q : IntKind} {W : World} {base : Nat} {sp : Nat → Bool} {held : Bool}
theorem arr_cells {n : Nat} (A : ArrKey P k e n) {r : Reach} {b0 : Nat} {v : Value} (h : Value.okWide P W r b0 k v) : ∃ l : List Value, v = .agg l.toArray ∧ l.length = n := by
  simp only [Value.okWide, A.hu] at h
  obtain ⟨cs, rfl, h2, _⟩ := h
  rw [A.size] at h2
  exact ⟨cs.toList, by simp, by simpa using h2⟩
theorem open_arr3 (A : ArrKey P k e 3) (he : P.underlying e = some (.int q)) {r : Reach} {b0 : Nat} {v : Value} {d : DataW H} {ps : List MemPlace} (hval : Value.okWide P W r b0 k v) (hd : DataW.Trod enc P W base sp held k v d ps) :
    ∃ a b c : Int, v = .agg #[.int q a, .int q b, .int q c] ∧ d = .agg [.lit (.int q a), .lit (.int q b), .lit (.int q c)] ∧ ps = [] ∧ (Lit.int q a).wf = true ∧ (Lit.int q b).wf = true ∧ (Lit.int q c).wf = true := by
  obtain ⟨l, rfl, hl⟩ := arr_cells A hval
  match l, hl with
  | [c0, c1, c2], _ =>
    obtain ⟨fuel, hf⟩ := hd
    cases fuel with
    | zero => simp [DataW.trod] at hf
    | succ n =>
      rw [DataW.trod_step] at hf
      unfold DataW.trodStep at hf
      simp only [A.hu, Value.cells] at hf
      rw [if_pos (by rw [A.size]; rfl)] at hf
      simp only [Option.map_eq_some_iff] at hf
      obtain ⟨xs, hx, e1⟩ := hf
      rw [show List.range 3 = [0, 1, 2] from rfl, List.mapM_cons, List.mapM_cons, List.mapM_cons, List.mapM_nil] at hx
      simp only [bind, Option.bind_eq_some_iff, pure, Option.some.injEq, A.one] at hx
      obtain ⟨y0, h0, _, ⟨y1, h1, _, ⟨y2, h2, _, rfl, rfl⟩, rfl⟩, rfl⟩ := hx
      obtain ⟨a, ea, rfl, wa⟩ := DataW.trod_int he h0
      obtain ⟨b, eb, rfl, wb⟩ := DataW.trod_int he h1
      obtain ⟨c, ec, rfl, wc⟩ := DataW.trod_int he h2
      simp at ea eb ec
      subst ea; subst eb; subst ec
      simp only [Prod.mk.injEq] at e1
      exact ⟨a, b, c, rfl, by rw [← e1.1]; rfl, by rw [← e1.2]; rfl, wa, wb, wc⟩
theorem open_arr4 (A : ArrKey P k e 4) (he : P.underlying e = some (.int q)) {r : Reach} {b0 : Nat} {v : Value} {d : DataW H} {ps : List MemPlace} (hval : Value.okWide P W r b0 k v) (hd : DataW.Trod enc P W base sp held k v d ps) :
    ∃ a b c f : Int, v = .agg #[.int q a, .int q b, .int q c, .int q f] ∧ d = .agg [.lit (.int q a), .lit (.int q b), .lit (.int q c), .lit (.int q f)] ∧ ps = [] ∧ (Lit.int q a).wf = true ∧ (Lit.int q b).wf = true ∧ (Lit.int q c).wf = true ∧ (Lit.int q f).wf = true := by
  obtain ⟨l, rfl, hl⟩ := arr_cells A hval
  match l, hl with
  | [c0, c1, c2, c3], _ =>
    obtain ⟨fuel, hf⟩ := hd
    cases fuel with
    | zero => simp [DataW.trod] at hf
    | succ n =>
      rw [DataW.trod_step] at hf
      unfold DataW.trodStep at hf
      simp only [A.hu, Value.cells] at hf
      rw [if_pos (by rw [A.size]; rfl)] at hf
      simp only [Option.map_eq_some_iff] at hf
      obtain ⟨xs, hx, e1⟩ := hf
      rw [show List.range 4 = [0, 1, 2, 3] from rfl, List.mapM_cons, List.mapM_cons, List.mapM_cons, List.mapM_cons, List.mapM_nil] at hx
      simp only [bind, Option.bind_eq_some_iff, pure, Option.some.injEq, A.one] at hx
      obtain ⟨y0, h0, _, ⟨y1, h1, _, ⟨y2, h2, _, ⟨y3, h3, _, rfl, rfl⟩, rfl⟩, rfl⟩, rfl⟩ := hx
      obtain ⟨a, ea, rfl, wa⟩ := DataW.trod_int he h0
      obtain ⟨b, eb, rfl, wb⟩ := DataW.trod_int he h1
      obtain ⟨c, ec, rfl, wc⟩ := DataW.trod_int he h2
      obtain ⟨f, ef, rfl, wf⟩ := DataW.trod_int he h3
      simp at ea eb ec ef
      subst ea; subst eb; subst ec; subst ef
      simp only [Prod.mk.injEq] at e1
      exact ⟨a, b, c, f, rfl, by rw [← e1.1]; rfl, by rw [← e1.2]; rfl, wa, wb, wc, wf⟩
theorem shut_arr3 (A : ArrKey P k e 3) (he : P.underlying e = some (.int q)) {a b c : Int} (wa : (Lit.int q a).wf = true) (wb : (Lit.int q b).wf = true) (wc : (Lit.int q c).wf = true) :
    DataW.Trod enc P W base sp held k (.agg #[.int q a, .int q b, .int q c]) (.agg [.lit (.int q a), .lit (.int q b), .lit (.int q c)]) [] :=
  ⟨2, by
    show DataW.trod enc P W base sp held (1 + 1) k [.int q a, .int q b, .int q c] = _
    rw [DataW.trod_step]
    unfold DataW.trodStep
    simp only [A.hu]
    rw [if_pos (by rw [A.size]; rfl), show List.range 3 = [0, 1, 2] from rfl, List.mapM_cons, List.mapM_cons, List.mapM_cons, List.mapM_nil]
    simp [A.one, DataW.trod, he, wa, wb, wc]⟩
theorem shut_arr4 (A : ArrKey P k e 4) (he : P.underlying e = some (.int q)) {a b c f : Int} (wa : (Lit.int q a).wf = true) (wb : (Lit.int q b).wf = true) (wc : (Lit.int q c).wf = true) (wf : (Lit.int q f).wf = true) :
    DataW.Trod enc P W base sp held k (.agg #[.int q a, .int q b, .int q c, .int q f]) (.agg [.lit (.int q a), .lit (.int q b), .lit (.int q c), .lit (.int q f)]) [] :=
  ⟨2, by
    show DataW.trod enc P W base sp held (1 + 1) k [.int q a, .int q b, .int q c, .int q f] = _
    rw [DataW.trod_step]
    unfold DataW.trodStep
    simp only [A.hu]
    rw [if_pos (by rw [A.size]; rfl), show List.range 4 = [0, 1, 2, 3] from rfl, List.mapM_cons, List.mapM_cons, List.mapM_cons, List.mapM_cons, List.mapM_nil]
    simp [A.one, DataW.trod, he, wa, wb, wc, wf]⟩
end
end Go.Proofs.YtijpnlmejphfhaaDoor.P
