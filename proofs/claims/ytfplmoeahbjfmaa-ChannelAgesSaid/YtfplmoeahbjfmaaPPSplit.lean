/- pieces.Split by hand: a text's messages. No condition but lengths. -/
import Derived.Test.YtfplmoeahbjfmaaPCollect
import Derived.Laws.BitsAllLaws
import Derived.Test.YtfplmoeahbjfmaaWRepsOne
namespace Go.Proofs.Ytfplmoeahbjfmaa.P
open Go Go.Proofs Go.RowKit Go.Shelf Go.Proofs.YtfplmoeahbjfmaaW.PrintWords Go.Proofs.YtfplmoeahbjfmaaW.PrintLast Go.Proofs.YtfplmoeahbjfmaaW.PrintMore
set_option linter.unusedVariables false
set_option linter.unusedSimpArgs false

/-- The parts' numbers are those below. -/
def partN (ad : Addr) (len i : Nat) : Value := if len = 0 then .slice none 0 0 else .slice (some (ad.add (63 * i))) (min 63 (len - 63 * i)) (min 63 (len - 63 * i))
theorem partN_one (ad : Addr) (len i : Nat) : (partN ad len i).oneCell' = true := by unfold partN; split <;> rfl
def mcount (len : Nat) : Nat := max 1 ((len + 62) / 63)
theorem parts_of (ad : Addr) (len : Nat) (h : 0 < len) (ys : List (Part63 len)) (hy : ys.map (·.1) = List.range ((len + 62) / 63)) : ys.map (partV63 ad len) = (List.range (mcount len)).map (partN ad len) ∧ ys.length = mcount len := by
  have e : mcount len = (len + 62) / 63 := by unfold mcount; omega
  constructor
  · rw [e, ← hy, List.map_map]
    refine List.map_congr_left fun x _ => ?_
    show partV63 ad len x = partN ad len x.1
    unfold partV63 partN
    rw [if_neg (by omega)]
  · have := congrArg List.length hy
    rw [List.length_map, List.length_range] at this
    omega
/-- A part's bytes. -/
def cont (l : List Int) (i : Nat) : List Int := (l.take (63 * i + 63)).drop (63 * i)
theorem cont_length (l : List Int) (i : Nat) : (cont l i).length = min 63 (l.length - 63 * i) := by unfold cont; rw [List.length_drop, List.length_take]; omega
theorem part_C {W : World} {A : Option Addr} {l : List Int} (h : Kd.C (Kd.int .u8) W A l.length l) (ad : Addr) (hA : 0 < l.length → A = some ad) (i : Nat) (hi : i < mcount l.length) :
    ∃ Ap, partN ad l.length i = .slice Ap (cont l i).length (cont l i).length ∧ Kd.C (Kd.int .u8) W Ap (cont l i).length (cont l i) := by
  by_cases h0 : l.length = 0
  · have e : l = [] := List.eq_nil_of_length_eq_zero h0
    subst e
    refine ⟨none, ?_, ?_⟩
    · simp [partN, cont]
    · simp [cont]; exact Kd.C_nil _ _
  · obtain rfl := hA (by omega)
    have hi2 : 63 * i < l.length := by unfold mcount at hi; omega
    have hm := Kd.C_mid (c := l.length + 1) (lo := 63 * i) (hi := min (63 * i + 63) l.length) h (by omega) (by omega) (by omega)
    rw [if_neg (by omega)] at hm
    have ec : (l.take (min (63 * i + 63) l.length)).drop (63 * i) = cont l i := by
      unfold cont
      congr 1
      by_cases q : 63 * i + 63 ≤ l.length
      · rw [show min (63 * i + 63) l.length = 63 * i + 63 by omega]
      · rw [show min (63 * i + 63) l.length = l.length by omega, List.take_of_length_le (by omega), List.take_of_length_le (by omega)]
    rw [ec] at hm
    refine ⟨some (ad.add (63 * i)), ?_, ?_⟩
    · unfold partN; rw [if_neg h0, cont_length]
    · simpa [Kd.int, Kd.scalar] using hm
set_option maxRecDepth 100000 in
set_option maxHeartbeats 4000000 in
theorem collect_calls (Bs Bn : Nat) (A0 : Option Addr) (ad : Addr) (len c0 : Nat) (w : World) (hA : 0 < len → A0 = some ad) (hlen : len ≤ 1000000) (hcap : len ≤ c0) (bS : Boxed w Bs 31 (.slice A0 len c0)) (bN : Boxed w Bn 3 (.int .i64 63)) :
    Calls Try.prog 39 #[.func (.func 54) #[] #[.pointer (some ⟨Bs, 0, none⟩), .pointer (some ⟨Bn, 0, none⟩)]] w fun e w' =>
      ∃ v, ∃ ys : List (Part63 len), e = .returned v ∧ w'.ownsRow w.heap.size 31 1 v ys.length (ys.map (partV63 ad len)) ∧ ys.map (·.1) = List.range ((len + 62) / 63) ∧ Below w.heap.size w w' := by
  go_enter Try.func39, Try.ntmps39
  go_wp2_with (go_at_call 53; refine (appendSeq_calls Bs Bn A0 ad len c0 _ hA hlen hcap bS bN).mono ?_; rintro e w1 ⟨v, ys, rfl, hr, hy, hb⟩)
  go_ret
  exact ⟨v, ys, by simp, hr, hy, hb⟩
/-- A message's first byte. -/
def headOf (m i : Nat) : Int := ((i % 64 + (if i = 0 then 128 else 0) + (if i + 1 = m then 64 else 0) : Nat) : Int)
def msg (l : List Int) (i : Nat) : List Int := headOf (mcount l.length) i :: cont l i
def msgs (l : List Int) (n : Nat) : List (List Int) := (List.range n).map (msg l)
theorem msgs_succ (l : List Int) (n : Nat) : msgs l (n + 1) = msgs l n ++ [msg l n] := by simp [msgs, List.range_succ]
abbrev kPart (ad : Addr) (len : Nat) : Kd Nat := Kd.scalar (partN ad len) (partN_one ad len)
abbrev kRow : Kd (List Int) := Kd.slice 5 (Kd.int .u8)
theorem or_i64 (a b : Nat) (ha : a < 9223372036854775808) (hb : b < 9223372036854775808) : Go.bits .or .i64 (a : Int) (b : Int) = ((a ||| b : Nat) : Int) := by
  have hx : a ||| b < 2 ^ 63 := Nat.or_lt_two_pow (by omega) (by omega)
  show IntKind.i64.wrap ((BitVec.ofInt 64 (a : Int) ||| BitVec.ofInt 64 (b : Int)).toNat : Int) = _
  rw [BitVec.toNat_or, Go.ofInt_u64 a (by omega), Go.ofInt_u64 b (by omega)]
  generalize hm : a ||| b = m at hx ⊢
  have hm2 : (m : Int) ≤ 9223372036854775807 := by omega
  rw [IntKind.wrap_i64]; omega
theorem or64 (i : Nat) : Go.bits .or .i64 ((i : Int) % 64) 64 = ((i % 64 + 64 : Nat) : Int) := by
  have h := or_i64 (i % 64) 64 (by omega) (by decide)
  have e := Nat.two_pow_add_eq_or_of_lt (i := 6) (b := i % 64) (by omega) 1
  rw [show ((i : Int) % 64) = ((i % 64 : Nat) : Int) from rfl, show (64 : Int) = ((64 : Nat) : Int) from rfl, h]
  congr 1
  rw [show 2 ^ 6 * 1 = 64 from rfl] at e
  rw [Nat.or_comm]
  omega
theorem or128 (i : Nat) (h : i = 0) : Go.bits .or .i64 ((i : Int) % 64) 128 = ((128 : Nat) : Int) := by subst h; decide +kernel
theorem Below.of_grown {W W1 : World} (hg : W.grownBy W1 none) : Below W.heap.size W W1 := ⟨hg.os, hg.tape, hg.output, hg.size, fun k hk => hg.block k hk (by simp)⟩
theorem ownsRow_slice {W : World} {base n e : Nat} {v : Value} {xs : List Value} (h : W.ownsRow base e 1 v n xs) : ∃ A c, v = .slice A n c := by
  rcases h.2 with ⟨rfl, rfl⟩ | ⟨g, cap, cur, rfl, _⟩
  · exact ⟨none, 0, rfl⟩
  · exact ⟨_, _, rfl⟩
theorem gen3 {P : Program} {C : Code} {Q : Exit → Act → World → Prop} {t : Array Value} {W : World} (a b c : Nat) (F : Array Value → Nat → Nat → Nat → Array Value) (hF : F t a b c = t) (R : Nat → Nat → Nat → World → Prop) (hR : R a b c W)
    (h : ∀ a b c W, R a b c W → Code.wp P C Q { tmps := F t a b c, defers := [] } W) : Code.wp P C Q { tmps := t, defers := [] } W := by
  have := h a b c W hR
  rwa [hF] at this
theorem u8_infoS : (Try.prog.info? 5).map (fun i => (i.zero, i.size, i.bytes)) = some (some (.int .u8 0), 1, 1) := by kernel_rfl
theorem row_infoS : (Try.prog.info? 31).map (fun i => (i.zero, i.size, i.bytes)) = some (some (.slice none 0 0), 1, 24) := by kernel_rfl
set_option maxRecDepth 100000 in
set_option maxHeartbeats 8000000 in
theorem split_calls (A0 : Option Addr) (c0 : Nat) (l : List Int) (w : World) (hr : Kd.C (Kd.int .u8) w A0 l.length l) (hc : l.length ≤ c0) (hl : l.length ≤ 1000000) :
    Calls Try.prog 16 #[.slice A0 l.length c0] w fun e w' => ∃ v, (if l.length ≤ 65536 then e = .returned (.tuple #[v, .int .i64 0]) ∧ Kd.R kRow 31 w' w.heap.size (fun _ => True) v (msgs l (mcount l.length)) else e = .returned (.tuple #[.slice none 0 0, .int .i64 7])) ∧ Below w.heap.size w w' := by
  by_cases hbig : l.length ≤ 65536
  · have hb1 : decide ((l.length : Int) > 65536) = false := decide_eq_false (by omega)
    have hb2 : decide ((65536 : Int) < (l.length : Int)) = false := decide_eq_false (by omega)
    simp only [if_pos hbig]
    obtain ⟨ad, hA⟩ : ∃ ad, 0 < l.length → A0 = some ad := by
      by_cases hp : 0 < l.length
      · obtain ⟨ad, ha, _⟩ := hr.2.2 hp; exact ⟨ad, fun _ => ha⟩
      · exact ⟨⟨0, 0, none⟩, fun h => absurd h hp⟩
    have HA := Aside0.mk hA
    clear hA
    go_enter Try.func16, Try.ntmps16
    go_wp2_with (go_at_call 40; refine ((callsIn_wide (n := 4)).1 (chunk63_in Fence.wide 4 trivial rfl A0 l.length c0 _)).mono ?_; rintro e w1 ⟨rfl, hw1⟩; have HW1 := Aside0.mk hw1; clear hw1)
    have bS0 := Boxed.new w 31 (.slice A0 l.length c0)
    have bS : Boxed w1 w.heap.size 31 (.slice A0 l.length c0) := by rw [HW1.out]; exact bS0.alloc _
    have bN : Boxed w1 (w.heap.size + 1) 3 (.int .i64 63) := by
      have h := Boxed.new (w.alloc (.cells #[.slice A0 l.length c0] 31)) 3 (.int .i64 63)
      rw [World.size_alloc] at h
      rw [HW1.out]; exact h
    have HB1 := Aside0.mk (show Below w.heap.size w w1 by rw [HW1.out]; exact below_alloc (below_alloc (Below.refl _ _) _) _)
    have HCC := Aside0.mk (collect_calls w.heap.size (w.heap.size + 1) A0 ad l.length c0 w1 HA.out hl hc bS bN)
    clear bS0 bS bN HW1
    go_wp2_with fail
    refine HCC.out.mono ?_
    rintro e w2 ⟨v4, ys, rfl, hro, hys, hb⟩
    have HB := Aside0.mk (below_step HB1.out hb)
    have HRO := Aside0.mk hro
    have HYS := Aside0.mk hys
    clear hb hro hys
    obtain ⟨A4, c4, e4⟩ := ownsRow_slice HRO.out
    subst e4
    clear HCC
    obtain ⟨n1, hn1⟩ : ∃ n1, n1 = w1.heap.size := ⟨_, rfl⟩
    rw [← hn1] at HRO
    have hrr := Aside0.mk hr
    have hn01 : w.heap.size ≤ n1 := by rw [hn1]; exact HB1.out.size
    clear hn1 hr HB1
    by_cases h0 : l.length = 0
    · have hy0 : ys.length = 0 := by
        have := congrArg List.length HYS.out
        rw [List.length_map, List.length_range] at this; omega
      rw [hy0]
      clear hn01
      go_wp2_with fail
      have HPN := Aside0.mk (show partN ad l.length 0 = .slice none 0 0 by unfold partN; rw [if_pos h0])
      have hnew := Kd.R_of_own (enc := partN ad l.length) (h1 := partN_one ad l.length) (ok := fun _ => True) (xs := [0]) (show (w2.alloc (.cells #[.slice none 0 0] 31)).ownsRow w.heap.size 31 1 (.slice (some ⟨w2.heap.size, 0, none⟩) 1 1) [0].length (encs (partN ad l.length) [0]) by
        have h := World.ownsRow_lit (base := w.heap.size) (e := 31) (size := 1) w2 #[.slice none 0 0] 1 HB.out.size (by decide) (by rfl)
        simpa [encs, HPN.out] using h) (fun _ _ => trivial)
      refine gen3 1 1 w2.heap.size (fun t mc c4 g4 => ((((t.setIfInBounds 4 (.slice (some ⟨g4, 0, none⟩) mc c4)).setIfInBounds 19 (.slice (some ⟨g4, 0, none⟩) mc c4)).setIfInBounds 20 (.int .i64 (mc : Int))))) rfl (fun mc c4 g4 w3 => Aside0 (mc = mcount l.length) ∧ Aside0 (Below w.heap.size w w3) ∧ Aside0 (Kd.R (kPart ad l.length) 31 w3 w.heap.size (fun _ => True) (.slice (some ⟨g4, 0, none⟩) mc c4) (List.range mc))) ⟨⟨by unfold mcount; omega⟩, ⟨HB.out.alloc HB.out.size _⟩, ⟨hnew⟩⟩ ?_
      clear HB hnew HPN HRO HYS hy0
      intro mc c4 g4 w3 ⟨HMD, HB, HP1⟩
      simp only [List.setIfInBounds_toArray, List.set_cons_zero, List.set_cons_succ]
      have HMC := Aside0.mk (show 0 < mc by rw [HMD.out]; unfold mcount; omega)
      obtain ⟨n2, hn2⟩ : ∃ n2, n2 = w3.heap.size := ⟨_, rfl⟩
      have HP2 := Aside0.mk (Kd.R_mono (Kd.R_bound HP1.out) (ok' := fun k => k < n2) (fun k ok => by rw [hn2]; exact ok.2.2.1))
      have hn02 : w.heap.size ≤ n2 := by rw [hn2]; exact HB.out.size
      have hn2s : n2 ≤ w3.heap.size := by omega
      have HN2 := Aside0.mk hn2s
      clear hn2 HP1 hn2s
      go_loopw [5, 21] (fun v5 v21 wr => ∃ (i : Nat), v21 = .int .i64 (i : Int) ∧ i ≤ mc ∧ Aside0 (Kd.R (kPart ad l.length) 31 wr w.heap.size (fun k => k < n2) (.slice (some ⟨g4, 0, none⟩) mc c4) (List.range mc)) ∧ Aside0 (Kd.R kRow 31 wr w.heap.size (fun k => n2 ≤ k) v5 (msgs l i)) ∧ Aside0 (n2 ≤ wr.heap.size) ∧ Aside0 (Below w.heap.size w wr)) (fun _ v21 _ => mc - (intOf v21).toNat)
      case atStart => exact ⟨0, by simp, by omega, HP2, ⟨Kd.R_nil _ _ _ _ _⟩, HN2, HB⟩
      case round =>
        clear HP2 HN2 HB
        obtain ⟨i, rfl, hi, HP, HO, HN, HB⟩ := hrel
        by_cases hlt : i < mc
        · have hltb : decide ((i : Int) < (mc : Int)) = true := decide_eq_true (by omega)
          have hcl := Kd.R_celln (0 : Nat) HP.out (i : Int) (by omega) (by omega)
          have hrd : rdOf 0 (List.range mc) (i : Int) = i := by simp [rdOf, List.getD_eq_getElem?_getD, List.getElem?_range, hlt]
          obtain ⟨Ap, epv, hCp⟩ := part_C (Kd.C_below hrr.out HB.out) ad HA.out i (by rw [← HMD.out]; exact hlt)
          rw [hrd, epv, Int.toNat_natCast] at hcl
          obtain ⟨hc1, hc2⟩ := hcl
          have HCP := Aside0.mk hCp
          clear hrd epv hCp
          obtain ⟨z, hz⟩ : ∃ z : Bool, z = decide (i = 0) := ⟨_, rfl⟩
          obtain ⟨y, hy⟩ : ∃ y : Bool, y = decide (i + 1 = mc) := ⟨_, rfl⟩
          have hz1 : ((i : Int) == 0) = z := by rw [hz]; by_cases q : i = 0 <;> simp [q]
          have hy1 : ((i : Int) == (mc : Int) - 1) = y := by
            rw [hy]
            by_cases q : i + 1 = mc
            · rw [decide_eq_true q, beq_iff_eq]; omega
            · rw [decide_eq_false q, beq_eq_false_iff_ne]; omega
          have HZ := Aside0.mk hz
          have HY := Aside0.mk hy
          clear hz hy
          obtain ⟨n8, hn8⟩ : ∃ n8, n8 = wr.heap.size := ⟨_, rfl⟩
          have HN8 := Aside0.mk (show n8 ≤ wr.heap.size by omega)
          have HN8b := Aside0.mk (show n2 ≤ n8 by have := HN.out; omega)
          have HO8 := Aside0.mk (show ∀ k, u5.ownBlock = some k → k < n8 from fun k hk => by rw [hn8]; exact Kd.R_lt HO.out k hk)
          have HOL := Aside0.mk (show ∀ k, u5.ownBlock = some k → n2 ≤ k from fun k hk => HO.out.1 k hk)
          have HOb := Aside0.mk (Kd.R_mono (Kd.R_bound HO.out) (ok' := fun k => n2 ≤ k ∧ k < n8) (fun k ok => ⟨ok.1, by rw [hn8]; exact ok.2.2.1⟩))
          clear HO
          have HO := HOb
          clear HOb
          have HCL := Aside0.mk (show (cont l i).length ≤ 63 by rw [cont_length]; omega)
          have hmcu : mc ≤ 2000 := by have := HMD.out; unfold mcount at this; omega
          have hwr : wrap64 ((mc : Int) - 1) = (mc : Int) - 1 := by unfold wrap64; omega
          have HLM := Aside0.mk (show i ≤ 1100 by have := HMD.out; unfold mcount at this; omega)
          clear hn8
          cases z with
          | false =>
            cases y with
            | false =>
              obtain ⟨hd, hhd⟩ : ∃ hd, hd = headOf mc i := ⟨_, rfl⟩
              have HHD := Aside0.mk hhd
              have hv : (i : Int) % 64 = hd := by rw [hhd]; unfold headOf; have h1 := of_decide_eq_false HZ.out.symm; have h2 := of_decide_eq_false HY.out.symm; rw [if_neg h1, if_neg h2]; omega
              clear hhd
              have HMSG := Aside0.mk (show msg l i = [hd] ++ cont l i by unfold msg; rw [← HMD.out, ← HHD.out]; rfl)
              go_wp2_with (first | ((with_reducible refine gate_dst (N := 42) rfl ?_); refine Kd.R_lit (Kd.int .u8) (w0 := w) w.heap.size 5 ?hg (N := 42) ?hd (xs := [hd]) (inner := [.int .u8 hd]) (ok := fun k => n8 ≤ k) (okp := fun _ => False) ?hr ?hp (fun _ hk => hk.elim) HN8.out HB.out HB.out.size (by simp) ?_; (case hd => rfl); (case hg => rfl); (case hr => first | (go_simp; done) | (go_simp; rfl)); (case hp => exact Reps.one rfl (Reps.none _ _)); intro v42 w42 ho hb hg hn; have H42 := Aside0.mk ho; have HQ42 := Aside0.mk (show ∀ k, n8 ≤ k → some k ≠ none by simp); have n0 := Aside0.mk hb; have n1 := Aside0.mk (Kd.R_grown HP.out hg (fun k ok => by simp)); have n2_ := Aside0.mk (Kd.R_grown HO.out hg (fun k ok => by simp)); have n3 := Aside0.mk (Nat.le_trans HN.out hg.size); have n4 := Aside0.mk (Kd.C_below HCP.out (Below.of_grown hg)); have n5 := Aside0.mk (Nat.le_trans HN8.out hg.size); clear HB HP HO HN HCP HN8 HQ42 ho hb hg hn; have HB := n0; have HP := n1; have HO := n2_; have HN := n3; have HCP := n4; have HN8 := n5; clear n0 n1 n2_ n3 n4 n5) | ((with_reducible refine gate_builtin (b := .append) (xs := #[.tmp 42, .tmp 43]) rfl ?_); at_builtin; refine Kd.R_append_rows (Kd.int .u8) (w0 := w) w.heap.size rfl (.tmp 42) (.tmp 43) 31 5 (.int .u8 0) 1 rfl Try.underlying31 u8_infoS rfl (by decide) (by omega) v42 [hd] (cont l i) Ap (cont l i).length (cont l i).length (fun k => n8 ≤ k) (fun _ => False) rfl rfl H42.out HCP.out (fun _ _ h => h) (fun _ h => h.elim) (fun k hk => Nat.le_trans HN8.out hk) HB.out HB.out.size (by have := HCL.out; simp only [List.length_cons, List.length_nil]; omega) ?_; intro v44 w44 ho hb hg hat; have H44 := Aside0.mk ho; obtain ⟨A44, n44, c44, e44⟩ : ∃ A n c, v44 = Value.slice A n c := (by obtain ⟨A, c, e⟩ := Kd.R_slice ho; exact ⟨A, _, c, e⟩); subst e44; have n0 := Aside0.mk hb; have n1 := Aside0.mk (Kd.R_grown HP.out hg (fun k ok e => by have := H42.out.1 k e.symm; have := HN8b.out; omega)); have n2_ := Aside0.mk (Kd.R_grown HO.out hg (fun k ok e => by have := H42.out.1 k e.symm; omega)); have n3 := Aside0.mk (Nat.le_trans HN.out hg.size); have n5 := Aside0.mk (Nat.le_trans HN8.out hg.size); clear HB HP HO HN HCP HN8 H42 ho hb hg hat; have HB := n0; have HP := n1; have HO := n2_; have HN := n3; have HN8 := n5; clear n0 n1 n2_ n3 n5) | ((with_reducible refine gate_builtin (b := .append) (xs := #[.tmp 39, .tmp 45]) rfl ?_); at_builtin; refine Kd.R_append kRow (w0 := w) w.heap.size rfl (.tmp 39) (.tmp 45) 36 31 (.slice none 0 0) 24 rfl Try.underlying36 row_infoS rfl (by decide) (by omega) u5 (msgs l i) (msg l i) [.slice A44 n44 c44] (fun k => n2 ≤ k) (fun k => n8 ≤ k) rfl (by first | (go_simp; done) | (go_simp; rfl)) ⟨.slice A44 n44 c44, rfl, by rw [HMSG.out]; exact H44.out⟩ (fun k hk => ⟨Nat.le_trans HN8b.out hk, fun e => by have := HO8.out k e.symm; omega⟩) (fun k hk => Nat.le_trans HN.out hk) (Kd.R_mono HO.out (fun k hk => hk.1)) HB.out HB.out.size (by have := HLM.out; simp only [msgs, List.length_map, List.length_range]; omega) ?_; intro v46 w46 ho hb hg hat; rw [← msgs_succ] at ho; have n0 := Aside0.mk hb; have n1 := Aside0.mk (Kd.R_grown HP.out hg (fun k ok e => by have := HOL.out k e.symm; omega)); have n2_ := Aside0.mk ho; have n3 := Aside0.mk (Nat.le_trans HN.out hg.size); clear HB HP HO HN HN8 H44 ho hb hg hat; have HB := n0; have HP := n1; have HO := n2_; have HN := n3; clear n0 n1 n2_ n3) | fail)
              go_roundw
              exact ⟨i + 1, by simp, by omega, HP, HO, HN, HB⟩
              case measure => simp only [intOf]; omega
            | true =>
              obtain ⟨hd, hhd⟩ : ∃ hd, hd = headOf mc i := ⟨_, rfl⟩
              have HHD := Aside0.mk hhd
              obtain ⟨k1, hk1, hk1v⟩ : ∃ k1 : Nat, Go.bits .or .i64 ((i : Int) % 64) 64 = (k1 : Int) ∧ k1 = i % 64 + 64 := ⟨_, or64 i, rfl⟩
              have hv : (k1 : Int) % 256 = hd := by rw [hhd, hk1v]; unfold headOf; have h1 := of_decide_eq_false HZ.out.symm; have h2 := of_decide_eq_true HY.out.symm; rw [if_neg h1, if_pos h2]; omega
              clear hk1v
              clear hhd
              have HMSG := Aside0.mk (show msg l i = [hd] ++ cont l i by unfold msg; rw [← HMD.out, ← HHD.out]; rfl)
              go_wp2_with (first | ((with_reducible refine gate_dst (N := 42) rfl ?_); refine Kd.R_lit (Kd.int .u8) (w0 := w) w.heap.size 5 ?hg (N := 42) ?hd (xs := [hd]) (inner := [.int .u8 hd]) (ok := fun k => n8 ≤ k) (okp := fun _ => False) ?hr ?hp (fun _ hk => hk.elim) HN8.out HB.out HB.out.size (by simp) ?_; (case hd => rfl); (case hg => rfl); (case hr => first | (go_simp; done) | (go_simp; rfl)); (case hp => exact Reps.one rfl (Reps.none _ _)); intro v42 w42 ho hb hg hn; have H42 := Aside0.mk ho; have HQ42 := Aside0.mk (show ∀ k, n8 ≤ k → some k ≠ none by simp); have n0 := Aside0.mk hb; have n1 := Aside0.mk (Kd.R_grown HP.out hg (fun k ok => by simp)); have n2_ := Aside0.mk (Kd.R_grown HO.out hg (fun k ok => by simp)); have n3 := Aside0.mk (Nat.le_trans HN.out hg.size); have n4 := Aside0.mk (Kd.C_below HCP.out (Below.of_grown hg)); have n5 := Aside0.mk (Nat.le_trans HN8.out hg.size); clear HB HP HO HN HCP HN8 HQ42 ho hb hg hn; have HB := n0; have HP := n1; have HO := n2_; have HN := n3; have HCP := n4; have HN8 := n5; clear n0 n1 n2_ n3 n4 n5) | ((with_reducible refine gate_builtin (b := .append) (xs := #[.tmp 42, .tmp 43]) rfl ?_); at_builtin; refine Kd.R_append_rows (Kd.int .u8) (w0 := w) w.heap.size rfl (.tmp 42) (.tmp 43) 31 5 (.int .u8 0) 1 rfl Try.underlying31 u8_infoS rfl (by decide) (by omega) v42 [hd] (cont l i) Ap (cont l i).length (cont l i).length (fun k => n8 ≤ k) (fun _ => False) rfl rfl H42.out HCP.out (fun _ _ h => h) (fun _ h => h.elim) (fun k hk => Nat.le_trans HN8.out hk) HB.out HB.out.size (by have := HCL.out; simp only [List.length_cons, List.length_nil]; omega) ?_; intro v44 w44 ho hb hg hat; have H44 := Aside0.mk ho; obtain ⟨A44, n44, c44, e44⟩ : ∃ A n c, v44 = Value.slice A n c := (by obtain ⟨A, c, e⟩ := Kd.R_slice ho; exact ⟨A, _, c, e⟩); subst e44; have n0 := Aside0.mk hb; have n1 := Aside0.mk (Kd.R_grown HP.out hg (fun k ok e => by have := H42.out.1 k e.symm; have := HN8b.out; omega)); have n2_ := Aside0.mk (Kd.R_grown HO.out hg (fun k ok e => by have := H42.out.1 k e.symm; omega)); have n3 := Aside0.mk (Nat.le_trans HN.out hg.size); have n5 := Aside0.mk (Nat.le_trans HN8.out hg.size); clear HB HP HO HN HCP HN8 H42 ho hb hg hat; have HB := n0; have HP := n1; have HO := n2_; have HN := n3; have HN8 := n5; clear n0 n1 n2_ n3 n5) | ((with_reducible refine gate_builtin (b := .append) (xs := #[.tmp 39, .tmp 45]) rfl ?_); at_builtin; refine Kd.R_append kRow (w0 := w) w.heap.size rfl (.tmp 39) (.tmp 45) 36 31 (.slice none 0 0) 24 rfl Try.underlying36 row_infoS rfl (by decide) (by omega) u5 (msgs l i) (msg l i) [.slice A44 n44 c44] (fun k => n2 ≤ k) (fun k => n8 ≤ k) rfl (by first | (go_simp; done) | (go_simp; rfl)) ⟨.slice A44 n44 c44, rfl, by rw [HMSG.out]; exact H44.out⟩ (fun k hk => ⟨Nat.le_trans HN8b.out hk, fun e => by have := HO8.out k e.symm; omega⟩) (fun k hk => Nat.le_trans HN.out hk) (Kd.R_mono HO.out (fun k hk => hk.1)) HB.out HB.out.size (by have := HLM.out; simp only [msgs, List.length_map, List.length_range]; omega) ?_; intro v46 w46 ho hb hg hat; rw [← msgs_succ] at ho; have n0 := Aside0.mk hb; have n1 := Aside0.mk (Kd.R_grown HP.out hg (fun k ok e => by have := HOL.out k e.symm; omega)); have n2_ := Aside0.mk ho; have n3 := Aside0.mk (Nat.le_trans HN.out hg.size); clear HB HP HO HN HN8 H44 ho hb hg hat; have HB := n0; have HP := n1; have HO := n2_; have HN := n3; clear n0 n1 n2_ n3) | fail)
              go_roundw
              exact ⟨i + 1, by simp, by omega, HP, HO, HN, HB⟩
              case measure => simp only [intOf]; omega
          | true =>
            cases y with
            | false =>
              obtain ⟨hd, hhd⟩ : ∃ hd, hd = headOf mc i := ⟨_, rfl⟩
              have HHD := Aside0.mk hhd
              obtain ⟨k1, hk1, hk1v⟩ : ∃ k1 : Nat, Go.bits .or .i64 ((i : Int) % 64) 128 = (k1 : Int) ∧ k1 = 128 := ⟨_, or128 i (of_decide_eq_true HZ.out.symm), rfl⟩
              have hv : (k1 : Int) % 256 = hd := by rw [hhd, hk1v]; unfold headOf; have h1 := of_decide_eq_true HZ.out.symm; have h2 := of_decide_eq_false HY.out.symm; rw [if_pos h1, if_neg h2]; omega
              clear hk1v
              clear hhd
              have HMSG := Aside0.mk (show msg l i = [hd] ++ cont l i by unfold msg; rw [← HMD.out, ← HHD.out]; rfl)
              go_wp2_with (first | ((with_reducible refine gate_dst (N := 42) rfl ?_); refine Kd.R_lit (Kd.int .u8) (w0 := w) w.heap.size 5 ?hg (N := 42) ?hd (xs := [hd]) (inner := [.int .u8 hd]) (ok := fun k => n8 ≤ k) (okp := fun _ => False) ?hr ?hp (fun _ hk => hk.elim) HN8.out HB.out HB.out.size (by simp) ?_; (case hd => rfl); (case hg => rfl); (case hr => first | (go_simp; done) | (go_simp; rfl)); (case hp => exact Reps.one rfl (Reps.none _ _)); intro v42 w42 ho hb hg hn; have H42 := Aside0.mk ho; have HQ42 := Aside0.mk (show ∀ k, n8 ≤ k → some k ≠ none by simp); have n0 := Aside0.mk hb; have n1 := Aside0.mk (Kd.R_grown HP.out hg (fun k ok => by simp)); have n2_ := Aside0.mk (Kd.R_grown HO.out hg (fun k ok => by simp)); have n3 := Aside0.mk (Nat.le_trans HN.out hg.size); have n4 := Aside0.mk (Kd.C_below HCP.out (Below.of_grown hg)); have n5 := Aside0.mk (Nat.le_trans HN8.out hg.size); clear HB HP HO HN HCP HN8 HQ42 ho hb hg hn; have HB := n0; have HP := n1; have HO := n2_; have HN := n3; have HCP := n4; have HN8 := n5; clear n0 n1 n2_ n3 n4 n5) | ((with_reducible refine gate_builtin (b := .append) (xs := #[.tmp 42, .tmp 43]) rfl ?_); at_builtin; refine Kd.R_append_rows (Kd.int .u8) (w0 := w) w.heap.size rfl (.tmp 42) (.tmp 43) 31 5 (.int .u8 0) 1 rfl Try.underlying31 u8_infoS rfl (by decide) (by omega) v42 [hd] (cont l i) Ap (cont l i).length (cont l i).length (fun k => n8 ≤ k) (fun _ => False) rfl rfl H42.out HCP.out (fun _ _ h => h) (fun _ h => h.elim) (fun k hk => Nat.le_trans HN8.out hk) HB.out HB.out.size (by have := HCL.out; simp only [List.length_cons, List.length_nil]; omega) ?_; intro v44 w44 ho hb hg hat; have H44 := Aside0.mk ho; obtain ⟨A44, n44, c44, e44⟩ : ∃ A n c, v44 = Value.slice A n c := (by obtain ⟨A, c, e⟩ := Kd.R_slice ho; exact ⟨A, _, c, e⟩); subst e44; have n0 := Aside0.mk hb; have n1 := Aside0.mk (Kd.R_grown HP.out hg (fun k ok e => by have := H42.out.1 k e.symm; have := HN8b.out; omega)); have n2_ := Aside0.mk (Kd.R_grown HO.out hg (fun k ok e => by have := H42.out.1 k e.symm; omega)); have n3 := Aside0.mk (Nat.le_trans HN.out hg.size); have n5 := Aside0.mk (Nat.le_trans HN8.out hg.size); clear HB HP HO HN HCP HN8 H42 ho hb hg hat; have HB := n0; have HP := n1; have HO := n2_; have HN := n3; have HN8 := n5; clear n0 n1 n2_ n3 n5) | ((with_reducible refine gate_builtin (b := .append) (xs := #[.tmp 39, .tmp 45]) rfl ?_); at_builtin; refine Kd.R_append kRow (w0 := w) w.heap.size rfl (.tmp 39) (.tmp 45) 36 31 (.slice none 0 0) 24 rfl Try.underlying36 row_infoS rfl (by decide) (by omega) u5 (msgs l i) (msg l i) [.slice A44 n44 c44] (fun k => n2 ≤ k) (fun k => n8 ≤ k) rfl (by first | (go_simp; done) | (go_simp; rfl)) ⟨.slice A44 n44 c44, rfl, by rw [HMSG.out]; exact H44.out⟩ (fun k hk => ⟨Nat.le_trans HN8b.out hk, fun e => by have := HO8.out k e.symm; omega⟩) (fun k hk => Nat.le_trans HN.out hk) (Kd.R_mono HO.out (fun k hk => hk.1)) HB.out HB.out.size (by have := HLM.out; simp only [msgs, List.length_map, List.length_range]; omega) ?_; intro v46 w46 ho hb hg hat; rw [← msgs_succ] at ho; have n0 := Aside0.mk hb; have n1 := Aside0.mk (Kd.R_grown HP.out hg (fun k ok e => by have := HOL.out k e.symm; omega)); have n2_ := Aside0.mk ho; have n3 := Aside0.mk (Nat.le_trans HN.out hg.size); clear HB HP HO HN HN8 H44 ho hb hg hat; have HB := n0; have HP := n1; have HO := n2_; have HN := n3; clear n0 n1 n2_ n3) | fail)
              go_roundw
              exact ⟨i + 1, by simp, by omega, HP, HO, HN, HB⟩
              case measure => simp only [intOf]; omega
            | true =>
              obtain ⟨hd, hhd⟩ : ∃ hd, hd = headOf mc i := ⟨_, rfl⟩
              have HHD := Aside0.mk hhd
              obtain ⟨k1, hk1, hk1v⟩ : ∃ k1 : Nat, Go.bits .or .i64 ((i : Int) % 64) 128 = (k1 : Int) ∧ k1 = 128 := ⟨_, or128 i (of_decide_eq_true HZ.out.symm), rfl⟩
              obtain ⟨k2, hk2, hk2v⟩ : ∃ k2 : Nat, Go.bits .or .i64 (k1 : Int) 64 = (k2 : Int) ∧ k2 = 192 := ⟨192, by rw [hk1v]; decide +kernel, rfl⟩
              have hv : (k2 : Int) % 256 = hd := by rw [hhd, hk2v]; unfold headOf; have h1 := of_decide_eq_true HZ.out.symm; have h2 := of_decide_eq_true HY.out.symm; rw [if_pos h1, if_pos h2]; omega
              clear hk1v hk2v
              clear hhd
              have HMSG := Aside0.mk (show msg l i = [hd] ++ cont l i by unfold msg; rw [← HMD.out, ← HHD.out]; rfl)
              go_wp2_with (first | ((with_reducible refine gate_dst (N := 42) rfl ?_); refine Kd.R_lit (Kd.int .u8) (w0 := w) w.heap.size 5 ?hg (N := 42) ?hd (xs := [hd]) (inner := [.int .u8 hd]) (ok := fun k => n8 ≤ k) (okp := fun _ => False) ?hr ?hp (fun _ hk => hk.elim) HN8.out HB.out HB.out.size (by simp) ?_; (case hd => rfl); (case hg => rfl); (case hr => first | (go_simp; done) | (go_simp; rfl)); (case hp => exact Reps.one rfl (Reps.none _ _)); intro v42 w42 ho hb hg hn; have H42 := Aside0.mk ho; have HQ42 := Aside0.mk (show ∀ k, n8 ≤ k → some k ≠ none by simp); have n0 := Aside0.mk hb; have n1 := Aside0.mk (Kd.R_grown HP.out hg (fun k ok => by simp)); have n2_ := Aside0.mk (Kd.R_grown HO.out hg (fun k ok => by simp)); have n3 := Aside0.mk (Nat.le_trans HN.out hg.size); have n4 := Aside0.mk (Kd.C_below HCP.out (Below.of_grown hg)); have n5 := Aside0.mk (Nat.le_trans HN8.out hg.size); clear HB HP HO HN HCP HN8 HQ42 ho hb hg hn; have HB := n0; have HP := n1; have HO := n2_; have HN := n3; have HCP := n4; have HN8 := n5; clear n0 n1 n2_ n3 n4 n5) | ((with_reducible refine gate_builtin (b := .append) (xs := #[.tmp 42, .tmp 43]) rfl ?_); at_builtin; refine Kd.R_append_rows (Kd.int .u8) (w0 := w) w.heap.size rfl (.tmp 42) (.tmp 43) 31 5 (.int .u8 0) 1 rfl Try.underlying31 u8_infoS rfl (by decide) (by omega) v42 [hd] (cont l i) Ap (cont l i).length (cont l i).length (fun k => n8 ≤ k) (fun _ => False) rfl rfl H42.out HCP.out (fun _ _ h => h) (fun _ h => h.elim) (fun k hk => Nat.le_trans HN8.out hk) HB.out HB.out.size (by have := HCL.out; simp only [List.length_cons, List.length_nil]; omega) ?_; intro v44 w44 ho hb hg hat; have H44 := Aside0.mk ho; obtain ⟨A44, n44, c44, e44⟩ : ∃ A n c, v44 = Value.slice A n c := (by obtain ⟨A, c, e⟩ := Kd.R_slice ho; exact ⟨A, _, c, e⟩); subst e44; have n0 := Aside0.mk hb; have n1 := Aside0.mk (Kd.R_grown HP.out hg (fun k ok e => by have := H42.out.1 k e.symm; have := HN8b.out; omega)); have n2_ := Aside0.mk (Kd.R_grown HO.out hg (fun k ok e => by have := H42.out.1 k e.symm; omega)); have n3 := Aside0.mk (Nat.le_trans HN.out hg.size); have n5 := Aside0.mk (Nat.le_trans HN8.out hg.size); clear HB HP HO HN HCP HN8 H42 ho hb hg hat; have HB := n0; have HP := n1; have HO := n2_; have HN := n3; have HN8 := n5; clear n0 n1 n2_ n3 n5) | ((with_reducible refine gate_builtin (b := .append) (xs := #[.tmp 39, .tmp 45]) rfl ?_); at_builtin; refine Kd.R_append kRow (w0 := w) w.heap.size rfl (.tmp 39) (.tmp 45) 36 31 (.slice none 0 0) 24 rfl Try.underlying36 row_infoS rfl (by decide) (by omega) u5 (msgs l i) (msg l i) [.slice A44 n44 c44] (fun k => n2 ≤ k) (fun k => n8 ≤ k) rfl (by first | (go_simp; done) | (go_simp; rfl)) ⟨.slice A44 n44 c44, rfl, by rw [HMSG.out]; exact H44.out⟩ (fun k hk => ⟨Nat.le_trans HN8b.out hk, fun e => by have := HO8.out k e.symm; omega⟩) (fun k hk => Nat.le_trans HN.out hk) (Kd.R_mono HO.out (fun k hk => hk.1)) HB.out HB.out.size (by have := HLM.out; simp only [msgs, List.length_map, List.length_range]; omega) ?_; intro v46 w46 ho hb hg hat; rw [← msgs_succ] at ho; have n0 := Aside0.mk hb; have n1 := Aside0.mk (Kd.R_grown HP.out hg (fun k ok e => by have := HOL.out k e.symm; omega)); have n2_ := Aside0.mk ho; have n3 := Aside0.mk (Nat.le_trans HN.out hg.size); clear HB HP HO HN HN8 H44 ho hb hg hat; have HB := n0; have HP := n1; have HO := n2_; have HN := n3; clear n0 n1 n2_ n3) | fail)
              go_roundw
              exact ⟨i + 1, by simp, by omega, HP, HO, HN, HB⟩
              case measure => simp only [intOf]; omega
        · obtain rfl : mc = i := by omega
          have hltb : decide ((mc : Int) < (mc : Int)) = false := decide_eq_false (by omega)
          rw [HMD.out] at HO
          go_wp2
          go_ret2
          exact ⟨_, ⟨by simp, Kd.R_mono HO.out (fun _ _ => trivial)⟩, HB.out⟩
    · obtain ⟨hp, hlp⟩ := parts_of ad l.length (by omega) ys HYS.out
      rw [hp, hlp] at HRO
      rw [hlp]
      have hpr : Kd.R (kPart ad l.length) 31 w2 n1 (fun _ => True) (.slice A4 (mcount l.length) c4) (List.range (mcount l.length)) := Kd.R_of_own (by rw [List.length_range]; exact HRO.out) (fun _ _ => trivial)
      clear hp hlp HRO HYS
      have HP1 := Aside0.mk (Kd.R_lower hpr hn01)
      clear hpr
      have hmc : 0 < mcount l.length := by unfold mcount; omega
      obtain ⟨g4, cap4, e4, hg4, hg4b, _⟩ := Kd.R_form HP1.out (by rw [List.length_range]; exact hmc)
      rw [List.length_range] at e4
      injection e4 with eA _ eC
      subst eA
      subst eC
      have HMC := Aside0.mk hmc
      clear hmc
      obtain ⟨mc, hmcd⟩ : ∃ mc, mc = mcount l.length := ⟨_, rfl⟩
      rw [← hmcd] at HP1 HMC ⊢
      have hyb : ((mc : Int) == 0) = false := by have := HMC.out; simp; omega
      have hyi : ¬ (mc : Int) = 0 := by have := HMC.out; omega
      have HMD := Aside0.mk hmcd
      clear hmcd
      go_wp2_with fail
      obtain ⟨n2, hn2⟩ : ∃ n2, n2 = w2.heap.size := ⟨_, rfl⟩
      have HP2 := Aside0.mk (Kd.R_mono (Kd.R_bound HP1.out) (ok' := fun k => k < n2) (fun k ok => by rw [hn2]; exact ok.2.2.1))
      have hn02 : w.heap.size ≤ n2 := by rw [hn2]; exact HB.out.size
      have hn2s : n2 ≤ w2.heap.size := by omega
      have HN2 := Aside0.mk hn2s
      clear hn2 HP1 hn2s
      go_loopw [5, 21] (fun v5 v21 wr => ∃ (i : Nat), v21 = .int .i64 (i : Int) ∧ i ≤ mc ∧ Aside0 (Kd.R (kPart ad l.length) 31 wr w.heap.size (fun k => k < n2) (.slice (some ⟨g4, 0, none⟩) mc c4) (List.range mc)) ∧ Aside0 (Kd.R kRow 31 wr w.heap.size (fun k => n2 ≤ k) v5 (msgs l i)) ∧ Aside0 (n2 ≤ wr.heap.size) ∧ Aside0 (Below w.heap.size w wr)) (fun _ v21 _ => mc - (intOf v21).toNat)
      case atStart => exact ⟨0, by simp, by omega, HP2, ⟨Kd.R_nil _ _ _ _ _⟩, HN2, HB⟩
      case round =>
        clear HP2 HN2 HB
        obtain ⟨i, rfl, hi, HP, HO, HN, HB⟩ := hrel
        by_cases hlt : i < mc
        · have hltb : decide ((i : Int) < (mc : Int)) = true := decide_eq_true (by omega)
          have hcl := Kd.R_celln (0 : Nat) HP.out (i : Int) (by omega) (by omega)
          have hrd : rdOf 0 (List.range mc) (i : Int) = i := by simp [rdOf, List.getD_eq_getElem?_getD, List.getElem?_range, hlt]
          obtain ⟨Ap, epv, hCp⟩ := part_C (Kd.C_below hrr.out HB.out) ad HA.out i (by rw [← HMD.out]; exact hlt)
          rw [hrd, epv, Int.toNat_natCast] at hcl
          obtain ⟨hc1, hc2⟩ := hcl
          have HCP := Aside0.mk hCp
          clear hrd epv hCp
          obtain ⟨z, hz⟩ : ∃ z : Bool, z = decide (i = 0) := ⟨_, rfl⟩
          obtain ⟨y, hy⟩ : ∃ y : Bool, y = decide (i + 1 = mc) := ⟨_, rfl⟩
          have hz1 : ((i : Int) == 0) = z := by rw [hz]; by_cases q : i = 0 <;> simp [q]
          have hy1 : ((i : Int) == (mc : Int) - 1) = y := by
            rw [hy]
            by_cases q : i + 1 = mc
            · rw [decide_eq_true q, beq_iff_eq]; omega
            · rw [decide_eq_false q, beq_eq_false_iff_ne]; omega
          have HZ := Aside0.mk hz
          have HY := Aside0.mk hy
          clear hz hy
          obtain ⟨n8, hn8⟩ : ∃ n8, n8 = wr.heap.size := ⟨_, rfl⟩
          have HN8 := Aside0.mk (show n8 ≤ wr.heap.size by omega)
          have HN8b := Aside0.mk (show n2 ≤ n8 by have := HN.out; omega)
          have HO8 := Aside0.mk (show ∀ k, u5.ownBlock = some k → k < n8 from fun k hk => by rw [hn8]; exact Kd.R_lt HO.out k hk)
          have HOL := Aside0.mk (show ∀ k, u5.ownBlock = some k → n2 ≤ k from fun k hk => HO.out.1 k hk)
          have HOb := Aside0.mk (Kd.R_mono (Kd.R_bound HO.out) (ok' := fun k => n2 ≤ k ∧ k < n8) (fun k ok => ⟨ok.1, by rw [hn8]; exact ok.2.2.1⟩))
          clear HO
          have HO := HOb
          clear HOb
          have HCL := Aside0.mk (show (cont l i).length ≤ 63 by rw [cont_length]; omega)
          have hmcu : mc ≤ 2000 := by have := HMD.out; unfold mcount at this; omega
          have hwr : wrap64 ((mc : Int) - 1) = (mc : Int) - 1 := by unfold wrap64; omega
          have HLM := Aside0.mk (show i ≤ 1100 by have := HMD.out; unfold mcount at this; omega)
          clear hn8
          cases z with
          | false =>
            cases y with
            | false =>
              obtain ⟨hd, hhd⟩ : ∃ hd, hd = headOf mc i := ⟨_, rfl⟩
              have HHD := Aside0.mk hhd
              have hv : (i : Int) % 64 = hd := by rw [hhd]; unfold headOf; have h1 := of_decide_eq_false HZ.out.symm; have h2 := of_decide_eq_false HY.out.symm; rw [if_neg h1, if_neg h2]; omega
              clear hhd
              have HMSG := Aside0.mk (show msg l i = [hd] ++ cont l i by unfold msg; rw [← HMD.out, ← HHD.out]; rfl)
              go_wp2_with (first | ((with_reducible refine gate_dst (N := 42) rfl ?_); refine Kd.R_lit (Kd.int .u8) (w0 := w) w.heap.size 5 ?hg (N := 42) ?hd (xs := [hd]) (inner := [.int .u8 hd]) (ok := fun k => n8 ≤ k) (okp := fun _ => False) ?hr ?hp (fun _ hk => hk.elim) HN8.out HB.out HB.out.size (by simp) ?_; (case hd => rfl); (case hg => rfl); (case hr => first | (go_simp; done) | (go_simp; rfl)); (case hp => exact Reps.one rfl (Reps.none _ _)); intro v42 w42 ho hb hg hn; have H42 := Aside0.mk ho; have HQ42 := Aside0.mk (show ∀ k, n8 ≤ k → some k ≠ none by simp); have n0 := Aside0.mk hb; have n1 := Aside0.mk (Kd.R_grown HP.out hg (fun k ok => by simp)); have n2_ := Aside0.mk (Kd.R_grown HO.out hg (fun k ok => by simp)); have n3 := Aside0.mk (Nat.le_trans HN.out hg.size); have n4 := Aside0.mk (Kd.C_below HCP.out (Below.of_grown hg)); have n5 := Aside0.mk (Nat.le_trans HN8.out hg.size); clear HB HP HO HN HCP HN8 HQ42 ho hb hg hn; have HB := n0; have HP := n1; have HO := n2_; have HN := n3; have HCP := n4; have HN8 := n5; clear n0 n1 n2_ n3 n4 n5) | ((with_reducible refine gate_builtin (b := .append) (xs := #[.tmp 42, .tmp 43]) rfl ?_); at_builtin; refine Kd.R_append_rows (Kd.int .u8) (w0 := w) w.heap.size rfl (.tmp 42) (.tmp 43) 31 5 (.int .u8 0) 1 rfl Try.underlying31 u8_infoS rfl (by decide) (by omega) v42 [hd] (cont l i) Ap (cont l i).length (cont l i).length (fun k => n8 ≤ k) (fun _ => False) rfl rfl H42.out HCP.out (fun _ _ h => h) (fun _ h => h.elim) (fun k hk => Nat.le_trans HN8.out hk) HB.out HB.out.size (by have := HCL.out; simp only [List.length_cons, List.length_nil]; omega) ?_; intro v44 w44 ho hb hg hat; have H44 := Aside0.mk ho; obtain ⟨A44, n44, c44, e44⟩ : ∃ A n c, v44 = Value.slice A n c := (by obtain ⟨A, c, e⟩ := Kd.R_slice ho; exact ⟨A, _, c, e⟩); subst e44; have n0 := Aside0.mk hb; have n1 := Aside0.mk (Kd.R_grown HP.out hg (fun k ok e => by have := H42.out.1 k e.symm; have := HN8b.out; omega)); have n2_ := Aside0.mk (Kd.R_grown HO.out hg (fun k ok e => by have := H42.out.1 k e.symm; omega)); have n3 := Aside0.mk (Nat.le_trans HN.out hg.size); have n5 := Aside0.mk (Nat.le_trans HN8.out hg.size); clear HB HP HO HN HCP HN8 H42 ho hb hg hat; have HB := n0; have HP := n1; have HO := n2_; have HN := n3; have HN8 := n5; clear n0 n1 n2_ n3 n5) | ((with_reducible refine gate_builtin (b := .append) (xs := #[.tmp 39, .tmp 45]) rfl ?_); at_builtin; refine Kd.R_append kRow (w0 := w) w.heap.size rfl (.tmp 39) (.tmp 45) 36 31 (.slice none 0 0) 24 rfl Try.underlying36 row_infoS rfl (by decide) (by omega) u5 (msgs l i) (msg l i) [.slice A44 n44 c44] (fun k => n2 ≤ k) (fun k => n8 ≤ k) rfl (by first | (go_simp; done) | (go_simp; rfl)) ⟨.slice A44 n44 c44, rfl, by rw [HMSG.out]; exact H44.out⟩ (fun k hk => ⟨Nat.le_trans HN8b.out hk, fun e => by have := HO8.out k e.symm; omega⟩) (fun k hk => Nat.le_trans HN.out hk) (Kd.R_mono HO.out (fun k hk => hk.1)) HB.out HB.out.size (by have := HLM.out; simp only [msgs, List.length_map, List.length_range]; omega) ?_; intro v46 w46 ho hb hg hat; rw [← msgs_succ] at ho; have n0 := Aside0.mk hb; have n1 := Aside0.mk (Kd.R_grown HP.out hg (fun k ok e => by have := HOL.out k e.symm; omega)); have n2_ := Aside0.mk ho; have n3 := Aside0.mk (Nat.le_trans HN.out hg.size); clear HB HP HO HN HN8 H44 ho hb hg hat; have HB := n0; have HP := n1; have HO := n2_; have HN := n3; clear n0 n1 n2_ n3) | fail)
              go_roundw
              exact ⟨i + 1, by simp, by omega, HP, HO, HN, HB⟩
              case measure => simp only [intOf]; omega
            | true =>
              obtain ⟨hd, hhd⟩ : ∃ hd, hd = headOf mc i := ⟨_, rfl⟩
              have HHD := Aside0.mk hhd
              obtain ⟨k1, hk1, hk1v⟩ : ∃ k1 : Nat, Go.bits .or .i64 ((i : Int) % 64) 64 = (k1 : Int) ∧ k1 = i % 64 + 64 := ⟨_, or64 i, rfl⟩
              have hv : (k1 : Int) % 256 = hd := by rw [hhd, hk1v]; unfold headOf; have h1 := of_decide_eq_false HZ.out.symm; have h2 := of_decide_eq_true HY.out.symm; rw [if_neg h1, if_pos h2]; omega
              clear hk1v
              clear hhd
              have HMSG := Aside0.mk (show msg l i = [hd] ++ cont l i by unfold msg; rw [← HMD.out, ← HHD.out]; rfl)
              go_wp2_with (first | ((with_reducible refine gate_dst (N := 42) rfl ?_); refine Kd.R_lit (Kd.int .u8) (w0 := w) w.heap.size 5 ?hg (N := 42) ?hd (xs := [hd]) (inner := [.int .u8 hd]) (ok := fun k => n8 ≤ k) (okp := fun _ => False) ?hr ?hp (fun _ hk => hk.elim) HN8.out HB.out HB.out.size (by simp) ?_; (case hd => rfl); (case hg => rfl); (case hr => first | (go_simp; done) | (go_simp; rfl)); (case hp => exact Reps.one rfl (Reps.none _ _)); intro v42 w42 ho hb hg hn; have H42 := Aside0.mk ho; have HQ42 := Aside0.mk (show ∀ k, n8 ≤ k → some k ≠ none by simp); have n0 := Aside0.mk hb; have n1 := Aside0.mk (Kd.R_grown HP.out hg (fun k ok => by simp)); have n2_ := Aside0.mk (Kd.R_grown HO.out hg (fun k ok => by simp)); have n3 := Aside0.mk (Nat.le_trans HN.out hg.size); have n4 := Aside0.mk (Kd.C_below HCP.out (Below.of_grown hg)); have n5 := Aside0.mk (Nat.le_trans HN8.out hg.size); clear HB HP HO HN HCP HN8 HQ42 ho hb hg hn; have HB := n0; have HP := n1; have HO := n2_; have HN := n3; have HCP := n4; have HN8 := n5; clear n0 n1 n2_ n3 n4 n5) | ((with_reducible refine gate_builtin (b := .append) (xs := #[.tmp 42, .tmp 43]) rfl ?_); at_builtin; refine Kd.R_append_rows (Kd.int .u8) (w0 := w) w.heap.size rfl (.tmp 42) (.tmp 43) 31 5 (.int .u8 0) 1 rfl Try.underlying31 u8_infoS rfl (by decide) (by omega) v42 [hd] (cont l i) Ap (cont l i).length (cont l i).length (fun k => n8 ≤ k) (fun _ => False) rfl rfl H42.out HCP.out (fun _ _ h => h) (fun _ h => h.elim) (fun k hk => Nat.le_trans HN8.out hk) HB.out HB.out.size (by have := HCL.out; simp only [List.length_cons, List.length_nil]; omega) ?_; intro v44 w44 ho hb hg hat; have H44 := Aside0.mk ho; obtain ⟨A44, n44, c44, e44⟩ : ∃ A n c, v44 = Value.slice A n c := (by obtain ⟨A, c, e⟩ := Kd.R_slice ho; exact ⟨A, _, c, e⟩); subst e44; have n0 := Aside0.mk hb; have n1 := Aside0.mk (Kd.R_grown HP.out hg (fun k ok e => by have := H42.out.1 k e.symm; have := HN8b.out; omega)); have n2_ := Aside0.mk (Kd.R_grown HO.out hg (fun k ok e => by have := H42.out.1 k e.symm; omega)); have n3 := Aside0.mk (Nat.le_trans HN.out hg.size); have n5 := Aside0.mk (Nat.le_trans HN8.out hg.size); clear HB HP HO HN HCP HN8 H42 ho hb hg hat; have HB := n0; have HP := n1; have HO := n2_; have HN := n3; have HN8 := n5; clear n0 n1 n2_ n3 n5) | ((with_reducible refine gate_builtin (b := .append) (xs := #[.tmp 39, .tmp 45]) rfl ?_); at_builtin; refine Kd.R_append kRow (w0 := w) w.heap.size rfl (.tmp 39) (.tmp 45) 36 31 (.slice none 0 0) 24 rfl Try.underlying36 row_infoS rfl (by decide) (by omega) u5 (msgs l i) (msg l i) [.slice A44 n44 c44] (fun k => n2 ≤ k) (fun k => n8 ≤ k) rfl (by first | (go_simp; done) | (go_simp; rfl)) ⟨.slice A44 n44 c44, rfl, by rw [HMSG.out]; exact H44.out⟩ (fun k hk => ⟨Nat.le_trans HN8b.out hk, fun e => by have := HO8.out k e.symm; omega⟩) (fun k hk => Nat.le_trans HN.out hk) (Kd.R_mono HO.out (fun k hk => hk.1)) HB.out HB.out.size (by have := HLM.out; simp only [msgs, List.length_map, List.length_range]; omega) ?_; intro v46 w46 ho hb hg hat; rw [← msgs_succ] at ho; have n0 := Aside0.mk hb; have n1 := Aside0.mk (Kd.R_grown HP.out hg (fun k ok e => by have := HOL.out k e.symm; omega)); have n2_ := Aside0.mk ho; have n3 := Aside0.mk (Nat.le_trans HN.out hg.size); clear HB HP HO HN HN8 H44 ho hb hg hat; have HB := n0; have HP := n1; have HO := n2_; have HN := n3; clear n0 n1 n2_ n3) | fail)
              go_roundw
              exact ⟨i + 1, by simp, by omega, HP, HO, HN, HB⟩
              case measure => simp only [intOf]; omega
          | true =>
            cases y with
            | false =>
              obtain ⟨hd, hhd⟩ : ∃ hd, hd = headOf mc i := ⟨_, rfl⟩
              have HHD := Aside0.mk hhd
              obtain ⟨k1, hk1, hk1v⟩ : ∃ k1 : Nat, Go.bits .or .i64 ((i : Int) % 64) 128 = (k1 : Int) ∧ k1 = 128 := ⟨_, or128 i (of_decide_eq_true HZ.out.symm), rfl⟩
              have hv : (k1 : Int) % 256 = hd := by rw [hhd, hk1v]; unfold headOf; have h1 := of_decide_eq_true HZ.out.symm; have h2 := of_decide_eq_false HY.out.symm; rw [if_pos h1, if_neg h2]; omega
              clear hk1v
              clear hhd
              have HMSG := Aside0.mk (show msg l i = [hd] ++ cont l i by unfold msg; rw [← HMD.out, ← HHD.out]; rfl)
              go_wp2_with (first | ((with_reducible refine gate_dst (N := 42) rfl ?_); refine Kd.R_lit (Kd.int .u8) (w0 := w) w.heap.size 5 ?hg (N := 42) ?hd (xs := [hd]) (inner := [.int .u8 hd]) (ok := fun k => n8 ≤ k) (okp := fun _ => False) ?hr ?hp (fun _ hk => hk.elim) HN8.out HB.out HB.out.size (by simp) ?_; (case hd => rfl); (case hg => rfl); (case hr => first | (go_simp; done) | (go_simp; rfl)); (case hp => exact Reps.one rfl (Reps.none _ _)); intro v42 w42 ho hb hg hn; have H42 := Aside0.mk ho; have HQ42 := Aside0.mk (show ∀ k, n8 ≤ k → some k ≠ none by simp); have n0 := Aside0.mk hb; have n1 := Aside0.mk (Kd.R_grown HP.out hg (fun k ok => by simp)); have n2_ := Aside0.mk (Kd.R_grown HO.out hg (fun k ok => by simp)); have n3 := Aside0.mk (Nat.le_trans HN.out hg.size); have n4 := Aside0.mk (Kd.C_below HCP.out (Below.of_grown hg)); have n5 := Aside0.mk (Nat.le_trans HN8.out hg.size); clear HB HP HO HN HCP HN8 HQ42 ho hb hg hn; have HB := n0; have HP := n1; have HO := n2_; have HN := n3; have HCP := n4; have HN8 := n5; clear n0 n1 n2_ n3 n4 n5) | ((with_reducible refine gate_builtin (b := .append) (xs := #[.tmp 42, .tmp 43]) rfl ?_); at_builtin; refine Kd.R_append_rows (Kd.int .u8) (w0 := w) w.heap.size rfl (.tmp 42) (.tmp 43) 31 5 (.int .u8 0) 1 rfl Try.underlying31 u8_infoS rfl (by decide) (by omega) v42 [hd] (cont l i) Ap (cont l i).length (cont l i).length (fun k => n8 ≤ k) (fun _ => False) rfl rfl H42.out HCP.out (fun _ _ h => h) (fun _ h => h.elim) (fun k hk => Nat.le_trans HN8.out hk) HB.out HB.out.size (by have := HCL.out; simp only [List.length_cons, List.length_nil]; omega) ?_; intro v44 w44 ho hb hg hat; have H44 := Aside0.mk ho; obtain ⟨A44, n44, c44, e44⟩ : ∃ A n c, v44 = Value.slice A n c := (by obtain ⟨A, c, e⟩ := Kd.R_slice ho; exact ⟨A, _, c, e⟩); subst e44; have n0 := Aside0.mk hb; have n1 := Aside0.mk (Kd.R_grown HP.out hg (fun k ok e => by have := H42.out.1 k e.symm; have := HN8b.out; omega)); have n2_ := Aside0.mk (Kd.R_grown HO.out hg (fun k ok e => by have := H42.out.1 k e.symm; omega)); have n3 := Aside0.mk (Nat.le_trans HN.out hg.size); have n5 := Aside0.mk (Nat.le_trans HN8.out hg.size); clear HB HP HO HN HCP HN8 H42 ho hb hg hat; have HB := n0; have HP := n1; have HO := n2_; have HN := n3; have HN8 := n5; clear n0 n1 n2_ n3 n5) | ((with_reducible refine gate_builtin (b := .append) (xs := #[.tmp 39, .tmp 45]) rfl ?_); at_builtin; refine Kd.R_append kRow (w0 := w) w.heap.size rfl (.tmp 39) (.tmp 45) 36 31 (.slice none 0 0) 24 rfl Try.underlying36 row_infoS rfl (by decide) (by omega) u5 (msgs l i) (msg l i) [.slice A44 n44 c44] (fun k => n2 ≤ k) (fun k => n8 ≤ k) rfl (by first | (go_simp; done) | (go_simp; rfl)) ⟨.slice A44 n44 c44, rfl, by rw [HMSG.out]; exact H44.out⟩ (fun k hk => ⟨Nat.le_trans HN8b.out hk, fun e => by have := HO8.out k e.symm; omega⟩) (fun k hk => Nat.le_trans HN.out hk) (Kd.R_mono HO.out (fun k hk => hk.1)) HB.out HB.out.size (by have := HLM.out; simp only [msgs, List.length_map, List.length_range]; omega) ?_; intro v46 w46 ho hb hg hat; rw [← msgs_succ] at ho; have n0 := Aside0.mk hb; have n1 := Aside0.mk (Kd.R_grown HP.out hg (fun k ok e => by have := HOL.out k e.symm; omega)); have n2_ := Aside0.mk ho; have n3 := Aside0.mk (Nat.le_trans HN.out hg.size); clear HB HP HO HN HN8 H44 ho hb hg hat; have HB := n0; have HP := n1; have HO := n2_; have HN := n3; clear n0 n1 n2_ n3) | fail)
              go_roundw
              exact ⟨i + 1, by simp, by omega, HP, HO, HN, HB⟩
              case measure => simp only [intOf]; omega
            | true =>
              obtain ⟨hd, hhd⟩ : ∃ hd, hd = headOf mc i := ⟨_, rfl⟩
              have HHD := Aside0.mk hhd
              obtain ⟨k1, hk1, hk1v⟩ : ∃ k1 : Nat, Go.bits .or .i64 ((i : Int) % 64) 128 = (k1 : Int) ∧ k1 = 128 := ⟨_, or128 i (of_decide_eq_true HZ.out.symm), rfl⟩
              obtain ⟨k2, hk2, hk2v⟩ : ∃ k2 : Nat, Go.bits .or .i64 (k1 : Int) 64 = (k2 : Int) ∧ k2 = 192 := ⟨192, by rw [hk1v]; decide +kernel, rfl⟩
              have hv : (k2 : Int) % 256 = hd := by rw [hhd, hk2v]; unfold headOf; have h1 := of_decide_eq_true HZ.out.symm; have h2 := of_decide_eq_true HY.out.symm; rw [if_pos h1, if_pos h2]; omega
              clear hk1v hk2v
              clear hhd
              have HMSG := Aside0.mk (show msg l i = [hd] ++ cont l i by unfold msg; rw [← HMD.out, ← HHD.out]; rfl)
              go_wp2_with (first | ((with_reducible refine gate_dst (N := 42) rfl ?_); refine Kd.R_lit (Kd.int .u8) (w0 := w) w.heap.size 5 ?hg (N := 42) ?hd (xs := [hd]) (inner := [.int .u8 hd]) (ok := fun k => n8 ≤ k) (okp := fun _ => False) ?hr ?hp (fun _ hk => hk.elim) HN8.out HB.out HB.out.size (by simp) ?_; (case hd => rfl); (case hg => rfl); (case hr => first | (go_simp; done) | (go_simp; rfl)); (case hp => exact Reps.one rfl (Reps.none _ _)); intro v42 w42 ho hb hg hn; have H42 := Aside0.mk ho; have HQ42 := Aside0.mk (show ∀ k, n8 ≤ k → some k ≠ none by simp); have n0 := Aside0.mk hb; have n1 := Aside0.mk (Kd.R_grown HP.out hg (fun k ok => by simp)); have n2_ := Aside0.mk (Kd.R_grown HO.out hg (fun k ok => by simp)); have n3 := Aside0.mk (Nat.le_trans HN.out hg.size); have n4 := Aside0.mk (Kd.C_below HCP.out (Below.of_grown hg)); have n5 := Aside0.mk (Nat.le_trans HN8.out hg.size); clear HB HP HO HN HCP HN8 HQ42 ho hb hg hn; have HB := n0; have HP := n1; have HO := n2_; have HN := n3; have HCP := n4; have HN8 := n5; clear n0 n1 n2_ n3 n4 n5) | ((with_reducible refine gate_builtin (b := .append) (xs := #[.tmp 42, .tmp 43]) rfl ?_); at_builtin; refine Kd.R_append_rows (Kd.int .u8) (w0 := w) w.heap.size rfl (.tmp 42) (.tmp 43) 31 5 (.int .u8 0) 1 rfl Try.underlying31 u8_infoS rfl (by decide) (by omega) v42 [hd] (cont l i) Ap (cont l i).length (cont l i).length (fun k => n8 ≤ k) (fun _ => False) rfl rfl H42.out HCP.out (fun _ _ h => h) (fun _ h => h.elim) (fun k hk => Nat.le_trans HN8.out hk) HB.out HB.out.size (by have := HCL.out; simp only [List.length_cons, List.length_nil]; omega) ?_; intro v44 w44 ho hb hg hat; have H44 := Aside0.mk ho; obtain ⟨A44, n44, c44, e44⟩ : ∃ A n c, v44 = Value.slice A n c := (by obtain ⟨A, c, e⟩ := Kd.R_slice ho; exact ⟨A, _, c, e⟩); subst e44; have n0 := Aside0.mk hb; have n1 := Aside0.mk (Kd.R_grown HP.out hg (fun k ok e => by have := H42.out.1 k e.symm; have := HN8b.out; omega)); have n2_ := Aside0.mk (Kd.R_grown HO.out hg (fun k ok e => by have := H42.out.1 k e.symm; omega)); have n3 := Aside0.mk (Nat.le_trans HN.out hg.size); have n5 := Aside0.mk (Nat.le_trans HN8.out hg.size); clear HB HP HO HN HCP HN8 H42 ho hb hg hat; have HB := n0; have HP := n1; have HO := n2_; have HN := n3; have HN8 := n5; clear n0 n1 n2_ n3 n5) | ((with_reducible refine gate_builtin (b := .append) (xs := #[.tmp 39, .tmp 45]) rfl ?_); at_builtin; refine Kd.R_append kRow (w0 := w) w.heap.size rfl (.tmp 39) (.tmp 45) 36 31 (.slice none 0 0) 24 rfl Try.underlying36 row_infoS rfl (by decide) (by omega) u5 (msgs l i) (msg l i) [.slice A44 n44 c44] (fun k => n2 ≤ k) (fun k => n8 ≤ k) rfl (by first | (go_simp; done) | (go_simp; rfl)) ⟨.slice A44 n44 c44, rfl, by rw [HMSG.out]; exact H44.out⟩ (fun k hk => ⟨Nat.le_trans HN8b.out hk, fun e => by have := HO8.out k e.symm; omega⟩) (fun k hk => Nat.le_trans HN.out hk) (Kd.R_mono HO.out (fun k hk => hk.1)) HB.out HB.out.size (by have := HLM.out; simp only [msgs, List.length_map, List.length_range]; omega) ?_; intro v46 w46 ho hb hg hat; rw [← msgs_succ] at ho; have n0 := Aside0.mk hb; have n1 := Aside0.mk (Kd.R_grown HP.out hg (fun k ok e => by have := HOL.out k e.symm; omega)); have n2_ := Aside0.mk ho; have n3 := Aside0.mk (Nat.le_trans HN.out hg.size); clear HB HP HO HN HN8 H44 ho hb hg hat; have HB := n0; have HP := n1; have HO := n2_; have HN := n3; clear n0 n1 n2_ n3) | fail)
              go_roundw
              exact ⟨i + 1, by simp, by omega, HP, HO, HN, HB⟩
              case measure => simp only [intOf]; omega
        · obtain rfl : mc = i := by omega
          have hltb : decide ((mc : Int) < (mc : Int)) = false := decide_eq_false (by omega)
          rw [HMD.out] at HO
          go_wp2
          go_ret2
          exact ⟨_, ⟨by simp, Kd.R_mono HO.out (fun _ _ => trivial)⟩, HB.out⟩
  · have hb1 : decide ((l.length : Int) > 65536) = true := decide_eq_true (by omega)
    have hb2 : decide ((65536 : Int) < (l.length : Int)) = true := decide_eq_true (by omega)
    simp only [if_neg hbig]
    go_enter Try.func16, Try.ntmps16
    go_wp2
    go_ret2
    exact ⟨.slice none 0 0, by simp, Below.refl _ _⟩
end Go.Proofs.Ytfplmoeahbjfmaa.P
