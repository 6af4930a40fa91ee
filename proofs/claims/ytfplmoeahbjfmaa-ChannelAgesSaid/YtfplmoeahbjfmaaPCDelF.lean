/- slices.DeleteFunc over the closure of channel.Channel's Step, by hand. No condition but bounds. -/
import Derived.Test.YtfplmoeahbjfmaaPCIdx
namespace Go.Proofs.Ytfplmoeahbjfmaa.P
open Go Go.Proofs Go.RowKit Go.Shelf Go.Proofs.YtfplmoeahbjfmaaW.PrintWords Go.Proofs.YtfplmoeahbjfmaaW.PrintLast Go.Proofs.YtfplmoeahbjfmaaW.PrintMore
set_option linter.unusedVariables false
set_option linter.unusedSimpArgs false

variable {n₀ g : Nat} {age now : Int} {v : Value} {L : List Fl}
theorem Cap.grown {w w' : World} {B gr : Nat} (h : Cap w B g age now v) (hg : w.grownBy w' (some gr)) (h1 : B ≠ gr) (h2 : g ≠ gr) : Cap w' B g age now v :=
  ⟨(hg.block B (blk_lt h.box) (fun e => h1 (by injection e))).trans h.box, (hg.block g (blk_lt h.blk) (fun e => h2 (by injection e))).trans h.blk⟩
def keepL (age now : Int) (L : List Fl) : List Fl := L.filter fun f => !oldB age now f.2.2
theorem idx_cases (age now : Int) : ∀ (L : List Fl) (i : Int), (idxOld age now L i = -1 ∧ keepL age now L = L) ∨ ∃ j, j < L.length ∧ idxOld age now L i = i + (j : Int) ∧ keepL age now (L.take j) = L.take j ∧ ∀ f, L[j]? = some f → oldB age now f.2.2 = true := by
  intro L
  induction L with
  | nil => intro i; exact .inl ⟨rfl, rfl⟩
  | cons f L ih =>
    intro i
    unfold idxOld
    cases hf : oldB age now f.2.2 with
    | true => exact .inr ⟨0, by simp, by simp, by simp [keepL], fun f' h => by simp at h; rw [← h]; exact hf⟩
    | false =>
      rcases ih (i + 1) with ⟨h1, h2⟩ | ⟨j, h1, h2, h3, h4⟩
      · refine .inl ⟨by simp [h1], ?_⟩
        unfold keepL at h2 ⊢
        rw [List.filter_cons, hf, h2]; simp
      · refine .inr ⟨j + 1, by simp; omega, by simp [h2]; omega, ?_, fun f' h => h4 f' (by simpa using h)⟩
        unfold keepL at h3 ⊢
        rw [List.take_succ_cons, List.filter_cons, hf, h3]; simp
theorem grownBy_trans {a b c : World} {r : Option Nat} (h : a.grownBy b r) (k : b.grownBy c r) : a.grownBy c r :=
  ⟨k.os.trans h.os, k.tape.trans h.tape, k.output.trans h.output, Nat.le_trans h.size k.size, fun i hi hr => (k.block i (Nat.lt_of_lt_of_le hi h.size) hr).trans (h.block i hi hr)⟩
theorem grownBy_below {a b : World} {r : Option Nat} (h : Below a.heap.size a b) : a.grownBy b r := ⟨h.os, h.tape, h.output, h.size, fun i hi _ => h.block i hi⟩
theorem store_M {w w1 : World} {ok : Nat → Prop} {f : Fl} {A1 A2 : Option Addr} {c1 c2 n1 n2 : Nat} {s : Int} {cI : List Value} (hc : cI.length = 3) (h1 : Kd.R (Kd.int .u8) 5 w n₀ ok (.slice A1 f.1.length c1) f.1) (h2 : Kd.R (Kd.int .u8) 5 w n₀ ok (.slice A2 f.2.1.length c2) f.2.1)
    (e1 : n1 = f.1.length) (e2 : n2 = f.2.1.length) (e3 : s = f.2.2) (hb : Below w.heap.size w w1) : kFl.M w1 n₀ ok f (cI.take 0 ++ [.slice A1 n1 c1, .slice A2 n2 c2, .int .i64 s] ++ cI.drop (0 + 3)) := by
  subst e1; subst e2; subst e3
  rw [List.take_zero, List.nil_append, List.drop_of_length_le (by omega), List.append_nil]
  exact ⟨[.slice A1 f.1.length c1], [.slice A2 f.2.1.length c2, .int .i64 f.2.2], rfl, ⟨_, rfl, Kd.R_below h1 hb⟩, [.slice A2 f.2.1.length c2], [.int .i64 f.2.2], rfl, ⟨_, rfl, Kd.R_below h2 hb⟩, rfl⟩
/-- How far the row is sifted. -/
structure Sift (age now : Int) (L M : List Fl) (n i j : Nat) : Prop where
  lt : i < j
  le : j ≤ n
  len : M.length = n
  pre : M.take i = keepL age now (L.take j)
  suf : M.drop j = L.drop j
theorem Sift.get {M : List Fl} {n i j : Nat} (h : Sift age now L M n i j) (hn : n = L.length) (hj : j < n) : M[j]? = L[j]? := by
  have := congrArg (fun l => l[0]?) h.suf
  simpa [List.getElem?_drop] using this
theorem Sift.skip {M : List Fl} {n i j : Nat} (h : Sift age now L M n i j) (hn : n = L.length) (hj : j < n) {f : Fl} (hf : L[j]? = some f) (ho : oldB age now f.2.2 = true) : Sift age now L M n i (j + 1) := by
  have hl := h.lt
  refine ⟨by omega, by omega, h.len, ?_, ?_⟩
  · rw [h.pre]
    unfold keepL
    have hjl : j < L.length := by omega
    rw [List.take_succ_eq_append_getElem hjl, List.filter_append]
    rw [List.getElem?_eq_getElem hjl] at hf
    injection hf with hf
    simp [hf, ho]
  · have := congrArg (List.drop 1) h.suf
    simpa [List.drop_drop] using this
theorem Sift.put {M : List Fl} {n i j : Nat} (h : Sift age now L M n i j) (hn : n = L.length) (hj : j < n) {f : Fl} (hf : L[j]? = some f) (ho : oldB age now f.2.2 = false) : Sift age now L (M.set i f) n (i + 1) (j + 1) := by
  have hl := h.lt
  have hlen := h.len
  refine ⟨by omega, by omega, by rw [List.length_set]; exact h.len, ?_, ?_⟩
  · have hjl : j < L.length := by omega
    unfold keepL
    rw [List.take_succ_eq_append_getElem hjl, List.filter_append]
    rw [List.getElem?_eq_getElem hjl] at hf
    injection hf with hf
    have hp := h.pre
    unfold keepL at hp
    rw [← hp, List.take_succ_eq_append_getElem (by rw [List.length_set]; omega), List.getElem_set_self]
    simp [hf, ho, List.take_set_of_le]
  · rw [List.drop_set_of_lt (by omega)]
    have := congrArg (List.drop 1) h.suf
    simpa [List.drop_drop] using this
set_option maxRecDepth 100000 in
set_option maxHeartbeats 8000000 in
theorem delf_calls {w : World} {B gr n cap : Nat} {ok : Nat → Prop} (h : Cap w B g age now v) (hr : Kd.R kFl 50 w n₀ ok (.slice (some ⟨gr, 0, none⟩) n cap) L) (hn5 : n ≤ 5000) (hn : 0 ≤ now ∧ now ≤ 100000) (hs : Since now L) :
    Calls Try.prog 35 #[.slice (some ⟨gr, 0, none⟩) n cap, .func (.func 36) #[] #[.pointer (some ⟨B, 0, none⟩)]] w fun e w' =>
      ∃ m, e = .returned (.slice (some ⟨gr, 0, none⟩) m cap) ∧ Kd.R kFl 50 w' n₀ ok (.slice (some ⟨gr, 0, none⟩) m cap) (keepL age now L) ∧ w.grownBy w' (some gr) := by
  have hnl : n = L.length := (Kd.R_reads' hr).1
  have HI := Aside0.mk (idx_calls h hr hn5 hn hs)
  obtain ⟨hbt, hgt⟩ : B ≠ gr ∧ g ≠ gr := by
    obtain ⟨cells, hc⟩ := Kd.R_typed hr gr (by simp [Value.ownBlock])
    refine ⟨fun e => ?_, fun e => ?_⟩
    · have hb := h.box; rw [e, hc] at hb; injection hb with hb; injection hb with _ hb; exact absurd hb (by decide)
    · have hb := h.blk; rw [e, hc] at hb; injection hb with hb; injection hb with _ hb; exact absurd hb (by decide)
  have HH := Aside0.mk h
  have HR := Aside0.mk hr
  have HS := Aside0.mk hs
  have HN := Aside0.mk hn
  have HNL := Aside0.mk hnl
  have HNE := Aside0.mk (And.intro hbt hgt)
  have hcap : n ≤ cap := (Kd.R_reads' hr).2.1
  rcases idx_cases age now L 0 with ⟨h1, h2⟩ | ⟨j0, h1, h2, h3, h4⟩
  · rw [h1] at HI
    have H2 := Aside0.mk h2
    clear h hr hs hn hnl h1 h2 hbt hgt
    go_enter Try.func35, Try.ntmps35
    go_wp2_with (go_at_call 52; refine HI.out.mono ?_; rintro e w1 ⟨rfl, hb⟩; have HB1 := Aside0.mk hb; clear hb)
    go_ret
    exact ⟨n, by simp, by rw [H2.out]; exact Kd.R_below HR.out HB1.out, grownBy_below HB1.out⟩
  · rw [h2, Int.zero_add] at HI
    have hj0 : j0 < n := by omega
    obtain ⟨f0, hf0⟩ : ∃ f0, L[j0]? = some f0 := ⟨_, List.getElem?_eq_getElem h1⟩
    have HS0 := Aside0.mk (show Sift age now L L n j0 (j0 + 1) from by
      refine ⟨by omega, by omega, hnl.symm, ?_, rfl⟩
      unfold keepL at h3 ⊢
      rw [List.take_succ_eq_append_getElem h1, List.filter_append, h3]
      have := h4 f0 hf0
      rw [List.getElem?_eq_getElem h1] at hf0
      injection hf0 with hf0
      simp [hf0, this])
    have hj1 : ((j0 : Int) == -1) = false := by rw [beq_eq_false_iff_ne]; omega
    clear h hr hs hn hnl h1 h2 h3 h4 hbt hgt hf0
    go_enter Try.func35, Try.ntmps35
    go_wp2_with (go_at_call 52; refine HI.out.mono ?_; rintro e w1 ⟨rfl, hb⟩; have HG1 := Aside0.mk (grownBy_below (r := some gr) hb); have HR1 := Aside0.mk (Kd.R_below HR.out hb); clear hb)
    go_loopw [5, 6] (fun v5 v6 wr => ∃ (i j : Nat) (M : List Fl), v5 = .int .i64 (i : Int) ∧ v6 = .int .i64 (j : Int) ∧ i < j ∧ j ≤ n ∧ Aside0 (Sift age now L M n i j) ∧ Aside0 (Kd.R kFl 50 wr n₀ ok (.slice (some ⟨gr, 0, none⟩) n cap) M) ∧ Aside0 (w.grownBy wr (some gr))) (fun _ v6 _ => n - (intOf v6).toNat)
    case atStart => exact ⟨j0, j0 + 1, L, by simp, by simp, by omega, by omega, HS0, HR1, HG1⟩
    case round =>
      clear HG1 HR1 HS0 HI hj1 hj0
      obtain ⟨i, j, M, rfl, rfl, hij, hjn, HSI, HRM, HG⟩ := hrel
      by_cases hlt : j < n
      · have hlb : decide ((j : Int) < (n : Int)) = true := decide_eq_true (by omega)
        obtain ⟨f, A1, c1, A2, c2, hMj, hf0, hf1, hf2, hr1, hr2⟩ := fl_get HRM.out j hlt
        have hLj := hMj
        rw [HSI.out.get HNL.out hlt] at hLj
        have hsb := HS.out f (List.mem_of_getElem? hLj)
        obtain ⟨s, hs⟩ : ∃ s, s = f.2.2 := ⟨_, rfl⟩
        rw [← hs] at hf2 hsb
        obtain ⟨n1, hn1⟩ : ∃ n1, n1 = f.1.length := ⟨_, rfl⟩
        obtain ⟨n2, hn2⟩ : ∃ n2, n2 = f.2.1.length := ⟨_, rfl⟩
        rw [← hn1] at hf0
        rw [← hn2] at hf1
        obtain ⟨z, hz⟩ : ∃ z, z = oldB age now s := ⟨_, rfl⟩
        have hba := below_alloc (Below.refl wr.heap.size wr) (.cells #[.slice A1 n1 c1, .slice A2 n2 c2, .int .i64 s] 50)
        have HO := Aside0.mk (old_calls ((HH.out.grown HG.out HNE.out.1 HNE.out.2).below hba) A1 A2 n1 c1 n2 c2 s HN.out hsb)
        rw [← hz] at HO
        have HBA := Aside0.mk hba
        have HZ := Aside0.mk hz
        have HLJ := Aside0.mk hLj
        have HRR := Aside0.mk (And.intro hr1 hr2)
        have HNS := Aside0.mk (And.intro hn1 (And.intro hn2 hs))
        clear hr1 hr2 hn1 hn2 hs hsb hLj hMj hz hba
        cases z with
        | true =>
          go_wp2_with (go_at_call 36; refine HO.out.mono ?_; rintro e w1 ⟨rfl, hb⟩; have HB1 := Aside0.mk (below_step HBA.out hb); clear hb)
          go_roundw
          case rel => exact ⟨i, j + 1, M, by simp, by simp, by omega, by omega, ⟨HSI.out.skip HNL.out hlt HLJ.out (by rw [← HNS.out.2.2]; exact HZ.out.symm)⟩, ⟨Kd.R_below HRM.out HB1.out⟩, ⟨grownBy_trans HG.out (grownBy_below HB1.out)⟩⟩
          case measure => simp [intOf]; omega
        | false =>
          obtain ⟨cI, hcI, _, hccI, _⟩ := Kd.R_elem HRM.out ([], [], 0) (i : Int) (by omega) (by omega)
          have HCI := Aside0.mk (And.intro hcI hccI)
          clear hcI hccI
          go_wp2_with (first | (go_at_call 36; refine HO.out.mono ?_; rintro e w1 ⟨rfl, hb⟩; have HB1 := Aside0.mk (below_step HBA.out hb); have hb7 := (hb.block wr.heap.size (by rw [World.size_alloc]; omega)).trans (blk_new _ _); have hd0 : w1.cell? ⟨wr.heap.size, 0, none⟩ = some (.slice A1 n1 c1) := blk_cell hb7 0; have hd1 : w1.cell? ⟨wr.heap.size, 1, none⟩ = some (.slice A2 n2 c2) := blk_cell hb7 1; have hd2 : w1.cell? ⟨wr.heap.size, 2, none⟩ = some (.int .i64 s) := blk_cell hb7 2; clear hb hb7) | ((with_reducible refine gate_ (.store 50 (.tmp 33) (.tmp 32)) rfl ?_); refine Kd.R_store kFl (w0 := w1) n₀ rfl rfl 50 (.tmp 33) (.tmp 32) rfl 50 (g := gr) (n := n) (cap := cap) (o' := i * 3) (i : Int) 0 M f (.agg #[.slice A1 n1 c1, .slice A2 n2 c2, .int .i64 s]) [.slice A1 n1 c1, .slice A2 n2 c2, .int .i64 s] cI ok (fun k => ok k ∧ k ≠ gr) ?s1 ?s2 ?s3 rfl fl_size ?s4 (Kd.R_below HRM.out HB1.out) ?s5 ?s6 HCI.out.1 ?s7 ?s8 ?s9 (fun _ hk => hk) (Below.refl _ _) ?_; (case s1 => first | rfl | (go_simp; done)); (case s2 => rw [Int.toNat_natCast]; rfl); (case s3 => first | rfl | (go_simp; done)); (case s4 => intro q hq; simp at hq; rcases hq with rfl | rfl | rfl <;> rfl); (case s5 => omega); (case s6 => omega); (case s7 => intro q u hu; rw [(HB1.out.cell (p := ⟨gr, _, none⟩) (Kd.R_lt HRM.out gr (by simp [Value.ownBlock])))]; exact HCI.out.2 q u hu); (case s8 => exact Nat.le_refl _); (case s9 => exact store_M HCI.out.1 HRR.out.1 HRR.out.2 HNS.out.1 HNS.out.2.1 HNS.out.2.2 HB1.out); intro w2 ho hb hg; have HRM2 := Aside0.mk ho; have HG2 := Aside0.mk (grownBy_trans (grownBy_trans HG.out (grownBy_below HB1.out)) hg); clear ho hb hg))
          go_roundw
          case rel => exact ⟨i + 1, j + 1, M.set i f, by simp, by simp, by omega, by omega, ⟨HSI.out.put HNL.out hlt HLJ.out (by rw [← HNS.out.2.2]; exact HZ.out.symm)⟩, ⟨by have := HRM2.out; rw [Int.toNat_natCast] at this; exact this⟩, HG2⟩
          case measure => simp [intOf]; omega
      · have hlb : decide ((j : Int) < (n : Int)) = false := decide_eq_false (by omega)
        obtain rfl : j = n := by omega
        obtain ⟨cur, hcur, hcs⟩ := R_block HRM.out
        obtain ⟨vs, hvl, hclr⟩ := clear_fl wr gr (i * 3) (j - i) (cap - i) cur hcur (by rw [hcs]; show _ ≤ cap * 3; omega) (by omega)
        have HT := Aside0.mk (R_tail (Kd.R_take HRM.out (m := i) (by rw [HSI.out.len]; omega)) (o := i * 3) (vs := vs) (Nat.le_refl _) (by rw [hvl]; show _ ≤ cap * 3; omega))
        clear hcur hcs hvl
        go_wp2
        go_ret
        refine ⟨i, by simp, ?_, grownBy_trans HG.out HT.out.2⟩
        have h1 := HT.out.1
        rw [HSI.out.pre, List.take_of_length_le (by rw [HNL.out]; exact Nat.le_refl _)] at h1
        exact h1
end Go.Proofs.Ytfplmoeahbjfmaa.P
