/- slices.Delete of one datagram, by hand. No condition but bounds. -/
import Derived.Test.YtfplmoeahbjfmaaPCTwice
namespace Go.Proofs.Ytfplmoeahbjfmaa.P
open Go Go.Proofs Go.RowKit Go.Shelf Go.Proofs.YtfplmoeahbjfmaaW.PrintWords Go.Proofs.YtfplmoeahbjfmaaW.PrintLast Go.Proofs.YtfplmoeahbjfmaaW.PrintMore
set_option linter.unusedVariables false
set_option linter.unusedSimpArgs false

variable {n₀ g : Nat} {age now : Int} {v : Value} {L : List Fl}
/-- Cells behind a row's end are written. -/
theorem R_tail {α : Type} {d : Kd α} {e base n cap gr : Nat} {ok : Nat → Prop} {w : World} {xs : List α} (h : Kd.R d e w base ok (.slice (some ⟨gr, 0, none⟩) n cap) xs) {o : Nat} {vs : List Value} (ho : n * d.sz ≤ o) (hl : o + vs.length ≤ cap * d.sz) :
    Kd.R d e (w.setCells gr o vs) base ok (.slice (some ⟨gr, 0, none⟩) n cap) xs ∧ w.grownBy (w.setCells gr o vs) (some gr) := by
  have hn := (Kd.R_reads' h).1
  obtain ⟨h0, inner, ⟨hlen, ho2⟩, hr⟩ := h
  rcases ho2 with ⟨hv, _⟩ | ⟨g', cap', cur, hv, hb, hh, hnc, hcm, hcs, ht⟩
  · cases hv
  injection hv with ha _ hc
  injection ha with ha
  injection ha with hg
  subst hg; subst hc
  obtain ⟨cur', h3, h4, h5⟩ := setCells_row vs o w cur hh (by omega)
  obtain ⟨s1, s2, s3, s4⟩ := setCells_same gr vs o w
  have hfar : ∀ k, k ≠ gr → (w.setCells gr o vs).heap[k]? = w.heap[k]? := fun k hk => setCells_far vs _ k hk
  have hgr : w.grownBy (w.setCells gr o vs) (some gr) := ⟨s1, s2, s3, by omega, fun k _ hk => hfar k (fun e => hk (by rw [e]))⟩
  refine ⟨⟨h0, inner, ⟨hlen, .inr ⟨gr, cap, cur', by rw [hn], hb, h3, by omega, hcm, by omega, ?_⟩⟩, hr.imp_ (fun x c hm => d.M_move (fun k hk => hfar k (fun e => hk.2 (by rw [e]; simp [Value.ownBlock]))) hm)⟩, hgr⟩
  rw [h5]
  have hcl : cur.toList.length = cap * d.sz := by rw [Array.length_toList]; exact hcs
  rw [List.append_assoc, List.take_append_of_le_length (by rw [List.length_take, hcl]; rw [← hn]; omega), List.take_take, Nat.min_eq_left (by rw [← hn]; omega)]
  exact ht
/-- clear(s), s a slice of m datagrams inside a row's block. -/
theorem clear_fl (w : World) (gr o m c : Nat) (cur : Array Value) (hb : w.heap[gr]? = some (.cells cur 50 (0, 0))) (hl : o + 3 * m ≤ cur.size) (hm : 0 < m) :
    ∃ vs : List Value, vs.length = 3 * m ∧ (Builtin.clear_ #[65] 0 #[.slice (some ⟨gr, o, none⟩) m c]).run Try.prog w = .ok (.tuple #[]) (w.setCells gr o vs) := by
  have hz : (zeroValue 50).run Try.prog w = .ok (.agg #[.slice none 0 0, .slice none 0 0, .int .i64 0]) w := by kernel_rfl
  have hlen : (Builtin.zeroCells (Value.agg #[.slice none 0 0, .slice none 0 0, .int .i64 0]).cells m).toList.length = 3 * m := by simp [Builtin.zeroCells, Value.cells]; omega
  have hone : ∀ u ∈ (Builtin.zeroCells (Value.agg #[.slice none 0 0, .slice none 0 0, .int .i64 0]).cells m).toList, u.oneCell' = true := by
    intro u hu
    simp only [Builtin.zeroCells, Array.toList_map, List.mem_map] at hu
    obtain ⟨j, _, rfl⟩ := hu
    have : j % (Value.agg #[.slice none 0 0, .slice none 0 0, .int .i64 0]).cells.size < 3 := Nat.mod_lt _ (by decide)
    generalize j % (Value.agg #[.slice none 0 0, .slice none 0 0, .int .i64 0]).cells.size = q at this
    match q, this with
    | 0, _ => rfl
    | 1, _ => rfl
    | 2, _ => rfl
  refine ⟨_, hlen, ?_⟩
  have hst := run_storeCells_cells (P := Try.prog) gr o (Builtin.zeroCells (Value.agg #[.slice none 0 0, .slice none 0 0, .int .i64 0]).cells m).toList 0 w
    (fun j hj => by rw [cell_of_row w gr _ cur 50 (0, 0) hb]; simp; omega) (fun j _ => blk_frozen hb _) hone
  simp only [Nat.add_zero] at hst
  obtain ⟨m', rfl⟩ : ∃ m', m = m' + 1 := ⟨m - 1, by omega⟩
  simp [Builtin.clear_, run_underlying Try.underlying65, hz, hst]
theorem R_block {α : Type} {d : Kd α} {e base n cap gr : Nat} {ok : Nat → Prop} {w : World} {xs : List α} (h : Kd.R d e w base ok (.slice (some ⟨gr, 0, none⟩) n cap) xs) :
    ∃ cur, w.heap[gr]? = some (.cells cur e (0, 0)) ∧ cur.size = cap * d.sz := by
  obtain ⟨h0, inner, ⟨hlen, ho2⟩, hr⟩ := h
  rcases ho2 with ⟨hv, _⟩ | ⟨g', cap', cur, hv, hb, hh, hnc, hcm, hcs, ht⟩
  · cases hv
  injection hv with ha _ hc
  injection ha with ha
  injection ha with hg
  subst hg; subst hc
  exact ⟨cur, hh, hcs⟩
def del5.T : Bool × List (List Nat × List Nat) := (true, [([], []), ([], []), ([0, 1], [0, 1]), ([], []), ([], []), ([3, 4], [3, 4]), ([2, 5], [2, 5]), ([6, 6, 0, 1, 2, 3, 4, 5, 6], [0, 3, 6])])
def del5.B : List Nat := [0, 0, 3, 0, 0, 24, 63, 127]
theorem del5.tab : rtab .any (opsOf Try.f44 5) = del5.T := by kernel_rfl
theorem del5.bits : waitsOk del5.T.2 del5.B = true := by kernel_rfl
set_option maxRecDepth 100000 in
set_option maxHeartbeats 8000000 in
theorem del_calls {w : World} {gr n cap : Nat} {ok : Nat → Prop} (h : Kd.R kFl 50 w n₀ ok (.slice (some ⟨gr, 0, none⟩) n cap) L) (k : Nat) (hk : k < n) (hn5 : n ≤ 5000) :
    Calls Try.prog 44 #[.slice (some ⟨gr, 0, none⟩) n cap, .int .i64 (k : Int), .int .i64 ((k : Int) + 1)] w fun e w' =>
      e = .returned (.slice (some ⟨gr, 0, none⟩) (n - 1) cap) ∧ Kd.R kFl 50 w' n₀ ok (.slice (some ⟨gr, 0, none⟩) (n - 1) cap) (L.eraseIdx k) ∧ w.grownBy w' (some gr) := by
  have hne : ((k : Int) == (k : Int) + 1) = false := by rw [beq_eq_false_iff_ne]; omega
  have hcap : n ≤ cap := (Kd.R_reads' h).2.1
  obtain ⟨i0, hi, hz0, hsz, hz2⟩ := info_parts fl_info
  have hct := cut_to (P := Try.prog) 65 50 .i64 Try.underlying65 hi (some ⟨gr, 0, none⟩) n cap (k : Int) (by omega) (by omega) hcap
  have hcf := cut_from (P := Try.prog) 65 50 .i64 Try.underlying65 hi 3 hsz (some ⟨gr, 0, none⟩) n cap ((k : Int) + 1) (by omega) (by omega)
  have ek : ((k : Int) + 1).toNat = k + 1 := by omega
  rw [Int.toNat_natCast] at hct
  rw [ek] at hcf
  obtain ⟨As, hAs⟩ : ∃ As, As = (if cap = k + 1 then some (⟨gr, 0, none⟩ : Addr) else (some (⟨gr, 0, none⟩ : Addr)).map (·.add ((k + 1) * 3))) := ⟨_, rfl⟩
  rw [← hAs] at hcf
  have HA := Aside0.mk hAs
  have H := Aside0.mk h
  clear hAs h hz0 hz2 ek
  go_enter Try.func44, Try.ntmps44
  go_wp2_with fail
  refine start_ (n := 8) (S := fun _ => True) (ds := []) #[false, false, false, false, false, false, false, false] (by kernel_rfl) rfl rfl trivial (fun hHeld => ?_)
  refine with_tabW del5.tab del5.bits (fun HT_ HW_ => ?_)
  refine pure_ (i := 0) (N := some 20) (v := ?_) (a' := ?_) #[true, false, false, false, false, false, false, false] rfl rfl (any_of HT_.out (by kernel_rfl)) (fun _ _ _ h => h) (Or.inl ⟨by rfl, ?_⟩) ?_ ?_
  rotate_left
  · intro w'
    go_simp
    with_reducible rfl
  rotate_left
  · simp only [Act.put, List.setIfInBounds_toArray, List.set_cons_zero, List.set_cons_succ, i64_w, i32_w]
    rfl
  refine pure_ (i := 1) (N := some 21) (v := ?_) (a' := ?_) #[true, true, false, false, false, false, false, false] rfl rfl (any_of HT_.out (by kernel_rfl)) (fun _ _ _ h => h) (Or.inl ⟨by rfl, ?_⟩) ?_ ?_
  rotate_left
  · intro w'
    go_simp
    with_reducible rfl
  rotate_left
  · simp only [Act.put, List.setIfInBounds_toArray, List.set_cons_zero, List.set_cons_succ, i64_w, i32_w]
    rfl
  refine pure_ (i := 2) (N := some 22) (v := ?_) (a' := ?_) #[true, true, true, false, false, false, false, false] rfl rfl (any_of HT_.out (by kernel_rfl)) (fun _ _ _ h => h) (Or.inl ⟨by rfl, ?_⟩) ?_ ?_
  rotate_left
  · intro w'
    go_simp
    with_reducible rfl
  rotate_left
  · simp only [Act.put, List.setIfInBounds_toArray, List.set_cons_zero, List.set_cons_succ, i64_w, i32_w]
    rfl
  refine pure_ (i := 3) (N := some 23) (v := ?_) (a' := ?_) #[true, true, true, true, false, false, false, false] rfl rfl (any_of HT_.out (by kernel_rfl)) (fun _ _ _ h => h) (Or.inl ⟨by rfl, ?_⟩) ?_ ?_
  rotate_left
  · intro w'
    go_simp
    with_reducible rfl
  rotate_left
  · simp only [Act.put, List.setIfInBounds_toArray, List.set_cons_zero, List.set_cons_succ, i64_w, i32_w]
    rfl
  refine pure_ (i := 4) (N := some 24) (v := ?_) (a' := ?_) #[true, true, true, true, true, false, false, false] rfl rfl (any_of HT_.out (by kernel_rfl)) (fun _ _ _ h => h) (Or.inl ⟨by rfl, ?_⟩) ?_ ?_
  rotate_left
  · intro w'
    go_simp
    with_reducible rfl
  rotate_left
  · simp only [Act.put, List.setIfInBounds_toArray, List.set_cons_zero, List.set_cons_succ, i64_w, i32_w]
    rfl
  refine pure_ (i := 5) (N := some 25) (v := ?_) (a' := ?_) #[true, true, true, true, true, true, false, false] rfl rfl (any_of HT_.out (by kernel_rfl)) (fun _ _ _ h => h) (Or.inl ⟨by rfl, ?_⟩) ?_ ?_
  rotate_left
  · intro w'
    go_simp
    with_reducible rfl
  rotate_left
  · simp only [Act.put, List.setIfInBounds_toArray, List.set_cons_zero, List.set_cons_succ, i64_w, i32_w]
    rfl
  refine one_ (i := 6) (N := some 26) #[true, true, true, true, true, true, true, false] rfl rfl (one_of HT_.out (by kernel_rfl)) (by decide) (fun K hK => ?_)
  refine Kd.R_delete_step kFl (w0 := w.drew) n₀ (by rfl) (.tmp 22) (.tmp 25) 65 50 rfl Try.underlying65 fl_size (g := gr) (n := n) (c := cap) (k := k) (m := n - (k + 1)) (c2 := cap - (k + 1)) (A := As) (xs := L) (ok := ok) (by first | rfl | (go_simp; done)) (by first | rfl | (go_simp; done)) HA.out rfl (Kd.R_drew H.out) hk (Below.refl _ _) (by have := Kd.R_base H.out gr (by simp [Value.ownBlock]); have := Kd.R_lt H.out gr (by simp [Value.ownBlock]); show n₀ ≤ w.heap.size; omega) ?_
  intro w1 ho hb hg
  have HO := Aside0.mk ho
  have HG := Aside0.mk hg
  clear ho hb hg
  refine hK.out _ _ trivial (fun hHeld => ?_)
  clear hK K
  refine norm_ (a' := ?_) ?_ ?_
  rotate_left
  · show Act.put _ (some 26) _ = _
    simp only [Act.put, List.setIfInBounds_toArray, List.set_cons_zero, List.set_cons_succ, i64_w, i32_w]
    rfl
  refine pure_ (i := 7) (N := some 0) (v := ?_) (a' := ?_) #[true, true, true, true, true, true, true, true] rfl rfl (any_of HT_.out (by kernel_rfl)) (fun _ _ _ h => h) (Or.inl ⟨by rfl, ?_⟩) ?_ ?_
  rotate_left
  · intro w'
    go_simp
    with_reducible rfl
  rotate_left
  · simp only [Act.put, List.setIfInBounds_toArray, List.set_cons_zero, List.set_cons_succ, i64_w, i32_w]
    rfl
  refine done_ (done_of HT_.out (by kernel_rfl)) ?_
  clear hct hcf
  obtain ⟨cur, hcur, hcs⟩ := R_block HO.out
  obtain ⟨vs, hvl, hclr⟩ := clear_fl w1 gr ((n - 1) * 3) (n - (n - 1)) (cap - (n - 1)) cur hcur (by rw [hcs]; show _ ≤ cap * 3; omega) (by omega)
  have HT := Aside0.mk (R_tail HO.out (o := (n - 1) * 3) (vs := vs) (Nat.le_refl _) (by rw [hvl]; show _ ≤ cap * 3; omega))
  clear hcur hcs hvl
  go_wp2
  go_ret
  refine ⟨by simp, HT.out.1, ?_⟩
  have h1 := HG.out
  have h2 := HT.out.2
  exact ⟨h2.os.trans h1.os, h2.tape.trans h1.tape, h2.output.trans h1.output, Nat.le_trans h1.size h2.size, fun k hk hne => (h2.block k (Nat.lt_of_lt_of_le hk h1.size) hne).trans (h1.block k hk hne)⟩
end Go.Proofs.Ytfplmoeahbjfmaa.P
