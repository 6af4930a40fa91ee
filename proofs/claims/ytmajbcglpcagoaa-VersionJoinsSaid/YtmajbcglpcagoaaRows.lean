/-
  No cell of these rows narrows 'for every input' (looked for: loops, veiled, ifaces, maps, wideKeys, modest, calm, conditions, laid).
  DERIVED. THE GIVEN ROWS OF THIS SEAT. 5 by the template 'for every input the law returns true; each argument reads behind the call as it read before'; 0 by the template 'total and deterministic' (their statements: YtmajbcglpcagoaaTotals.lean).
  GIVEN WITH THE SEED: the statements are not yours to turn. If you find one false, say at which input.
  Laid BY PROGRAM, IN A SANDBOX (cutbox-rows.mjs): the forced cells as the released guide's own fill.sh prints them over the translation b79459be0473b517… (all of the seat's roots in one cut). By AI agents, Wed Nov 11 2026. No macro, syntax, notation, axiom, sorry.
-/
import Derived.Test.YtmajbcglpcagoaaChecked
import GoSem.Claim
import GoSem.ClaimJoined
import GoSem.ClaimMapViews
import Derived.JoinedTies
import Derived.KernelRfl
namespace Go.Proofs.Ytmajbcglpcagoaa
/- THE CELL 'sum', in the pinned program and in every row, IS THE sha256 OF THE DUMP (.gsa) THAT YtmajbcglpcagoaaProg.lean LOADS. Nothing in Lean hashes anything: it is a label: what it is worth is what the hold of that sum in a sandbox is worth. -/
noncomputable def Try.pinned : Pinned := { name := "ytmajbcglpcagoaa", sum := "b79459be0473b517156d30f0a46c4886efa49da6dfd6125d504cd95b391c205d", checked := Try.checked }
namespace Rows
def none {H : Type} : Left H := { results := [], args := [] }

/-- 'shuttlelaw11.VersionSplits': WHATEVER THE INPUT: true; the input reads as it did. -/
def versionSplitsSpec : ChangeSpec := { name := "versionSplits", fn := fun _ => fun
  | [d] => { results := [.lit (.bool true)], args := [d] }
  | _ => none }
def versionSplitsRow : OpenClaim := { program := "ytmajbcglpcagoaa", sum := "b79459be0473b517156d30f0a46c4886efa49da6dfd6125d504cd95b391c205d", func := "shuttle/shuttlelaw11.VersionSplits", spec := "versionSplits", unfollowed := true, recurses := true, apart := false }
def VersionSplitsSaid : Prop := versionSplitsRow.holds Try.pinned (OpenSpec.ofChange versionSplitsSpec)

/-- ITS FALSE NEIGHBOUR: 'it returns false'. Refute it at one input. -/
def versionSplitsWrong : ChangeSpec := { name := "versionSplits", fn := fun _ => fun
  | [d] => { results := [.lit (.bool false)], args := [d] }
  | _ => none }
def VersionSplitsWrongFalsely : Prop := versionSplitsRow.holds Try.pinned (OpenSpec.ofChange versionSplitsWrong)

/-- 'shuttlelaw11.VersionJoins': WHATEVER THE INPUT: true; the input reads as it did. -/
def versionJoinsSpec : ChangeSpec := { name := "versionJoins", fn := fun _ => fun
  | [d1, d2, d3] => { results := [.lit (.bool true)], args := [d1, d2, d3] }
  | _ => none }
def versionJoinsRow : OpenClaim := { program := "ytmajbcglpcagoaa", sum := "b79459be0473b517156d30f0a46c4886efa49da6dfd6125d504cd95b391c205d", func := "shuttle/shuttlelaw11.VersionJoins", spec := "versionJoins", unfollowed := true, recurses := true, apart := false }
def VersionJoinsSaid : Prop := versionJoinsRow.holds Try.pinned (OpenSpec.ofChange versionJoinsSpec)

/-- ITS FALSE NEIGHBOUR: 'it returns false'. Refute it at one input. -/
def versionJoinsWrong : ChangeSpec := { name := "versionJoins", fn := fun _ => fun
  | [d1, d2, d3] => { results := [.lit (.bool false)], args := [d1, d2, d3] }
  | _ => none }
def VersionJoinsWrongFalsely : Prop := versionJoinsRow.holds Try.pinned (OpenSpec.ofChange versionJoinsWrong)

/-- 'shuttlelaw02.BitioSame': WHATEVER THE INPUT: true; the input reads as it did. -/
def bitioSameSpec : ChangeSpec := { name := "bitioSame", fn := fun _ => fun
  | [d1, d2, d3] => { results := [.lit (.bool true)], args := [d1, d2, d3] }
  | _ => none }
def bitioSameRow : OpenClaim := { program := "ytmajbcglpcagoaa", sum := "b79459be0473b517156d30f0a46c4886efa49da6dfd6125d504cd95b391c205d", func := "shuttle/shuttlelaw02.BitioSame", spec := "bitioSame", unfollowed := true, recurses := true, apart := false }
def BitioSameSaid : Prop := bitioSameRow.holds Try.pinned (OpenSpec.ofChange bitioSameSpec)

/-- ITS FALSE NEIGHBOUR: 'it returns false'. Refute it at one input. -/
def bitioSameWrong : ChangeSpec := { name := "bitioSame", fn := fun _ => fun
  | [d1, d2, d3] => { results := [.lit (.bool false)], args := [d1, d2, d3] }
  | _ => none }
def BitioSameWrongFalsely : Prop := bitioSameRow.holds Try.pinned (OpenSpec.ofChange bitioSameWrong)

/-- 'shuttlelaw02.BitioPuts': WHATEVER THE INPUT: true; the input reads as it did. -/
def bitioPutsSpec : ChangeSpec := { name := "bitioPuts", fn := fun _ => fun
  | [d] => { results := [.lit (.bool true)], args := [d] }
  | _ => none }
def bitioPutsRow : OpenClaim := { program := "ytmajbcglpcagoaa", sum := "b79459be0473b517156d30f0a46c4886efa49da6dfd6125d504cd95b391c205d", func := "shuttle/shuttlelaw02.BitioPuts", spec := "bitioPuts", unfollowed := true, recurses := true, apart := false }
def BitioPutsSaid : Prop := bitioPutsRow.holds Try.pinned (OpenSpec.ofChange bitioPutsSpec)

/-- ITS FALSE NEIGHBOUR: 'it returns false'. Refute it at one input. -/
def bitioPutsWrong : ChangeSpec := { name := "bitioPuts", fn := fun _ => fun
  | [d] => { results := [.lit (.bool false)], args := [d] }
  | _ => none }
def BitioPutsWrongFalsely : Prop := bitioPutsRow.holds Try.pinned (OpenSpec.ofChange bitioPutsWrong)

/-- 'shuttlelaw02.BitioTakes': WHATEVER THE INPUT: true; the input reads as it did. -/
def bitioTakesSpec : ChangeSpec := { name := "bitioTakes", fn := fun _ => fun
  | [d1, d2, d3] => { results := [.lit (.bool true)], args := [d1, d2, d3] }
  | _ => none }
def bitioTakesRow : OpenClaim := { program := "ytmajbcglpcagoaa", sum := "b79459be0473b517156d30f0a46c4886efa49da6dfd6125d504cd95b391c205d", func := "shuttle/shuttlelaw02.BitioTakes", spec := "bitioTakes", unfollowed := true, recurses := true, apart := false }
def BitioTakesSaid : Prop := bitioTakesRow.holds Try.pinned (OpenSpec.ofChange bitioTakesSpec)

/-- ITS FALSE NEIGHBOUR: 'it returns false'. Refute it at one input. -/
def bitioTakesWrong : ChangeSpec := { name := "bitioTakes", fn := fun _ => fun
  | [d1, d2, d3] => { results := [.lit (.bool false)], args := [d1, d2, d3] }
  | _ => none }
def BitioTakesWrongFalsely : Prop := bitioTakesRow.holds Try.pinned (OpenSpec.ofChange bitioTakesWrong)

/- THE SECOND FORM. 'bulk': how many values and letters a reading holds, each counted each time it is reached (what is shared counts as often as it is met; a slice's spare places count too). A statement '..UptoSaid' is the law's where the arguments, and the package variables that the reading takes, are together of bulk at most 1048576: NARROWER than '..Said'. Prove '..Said' where nothing that the law and all that it calls make is longer than what came in: it says more and counts as full. Else prove '..UptoSaid'. A law counts once. -/
mutual
def uptoBulk {H : Type} : DataW H → Nat
  | .lit (.string bytes) => bytes.length + 1
  | .lit _ => 1
  | .nil => 1
  | .ptr d => uptoBulk d + 1
  | .slice elems spare => uptoBulkAll elems + uptoBulkAll spare + 1
  | .agg parts => uptoBulkAll parts + 1
  | .iface _ d => uptoBulk d + 1
  | .map entries => uptoBulkEntries entries + 1
  | .held _ => 1
def uptoBulkAll {H : Type} : List (DataW H) → Nat
  | [] => 0
  | d :: r => uptoBulk d + uptoBulkAll r
def uptoBulkEntries {H : Type} : List (Lit × DataW H) → Nat
  | [] => 0
  | x :: r => uptoBulkEntry x + uptoBulkEntries r
def uptoBulkEntry {H : Type} : Lit × DataW H → Nat
  | (.string bytes, d) => bytes.length + uptoBulk d + 1
  | (_, d) => uptoBulk d + 1
 end
def uptoSmall : (H : Type) → List (DataW H) → Bool := fun _ ds => decide (uptoBulkAll ds ≤ 1048576)
def OpenSpec.upto (s : _root_.Go.ChangeSpec) : _root_.Go.OpenSpec := { _root_.Go.OpenSpec.ofChange s with cond := some uptoSmall }

/-- 'shuttlelaw11.VersionSplits', WHERE WHAT IT READS IS OF BULK AT MOST 1048576: true; the input reads as it did. -/
def versionSplitsUptoRow : OpenClaim := { program := "ytmajbcglpcagoaa", sum := "b79459be0473b517156d30f0a46c4886efa49da6dfd6125d504cd95b391c205d", func := "shuttle/shuttlelaw11.VersionSplits", spec := "versionSplits", unfollowed := true, recurses := true, apart := false, narrowed := true }
def VersionSplitsUptoSaid : Prop := versionSplitsUptoRow.holds Try.pinned (OpenSpec.upto versionSplitsSpec)

/-- 'shuttlelaw11.VersionJoins', WHERE WHAT IT READS IS OF BULK AT MOST 1048576: true; the input reads as it did. -/
def versionJoinsUptoRow : OpenClaim := { program := "ytmajbcglpcagoaa", sum := "b79459be0473b517156d30f0a46c4886efa49da6dfd6125d504cd95b391c205d", func := "shuttle/shuttlelaw11.VersionJoins", spec := "versionJoins", unfollowed := true, recurses := true, apart := false, narrowed := true }
def VersionJoinsUptoSaid : Prop := versionJoinsUptoRow.holds Try.pinned (OpenSpec.upto versionJoinsSpec)

/-- 'shuttlelaw02.BitioSame', WHERE WHAT IT READS IS OF BULK AT MOST 1048576: true; the input reads as it did. -/
def bitioSameUptoRow : OpenClaim := { program := "ytmajbcglpcagoaa", sum := "b79459be0473b517156d30f0a46c4886efa49da6dfd6125d504cd95b391c205d", func := "shuttle/shuttlelaw02.BitioSame", spec := "bitioSame", unfollowed := true, recurses := true, apart := false, narrowed := true }
def BitioSameUptoSaid : Prop := bitioSameUptoRow.holds Try.pinned (OpenSpec.upto bitioSameSpec)

/-- 'shuttlelaw02.BitioPuts', WHERE WHAT IT READS IS OF BULK AT MOST 1048576: true; the input reads as it did. -/
def bitioPutsUptoRow : OpenClaim := { program := "ytmajbcglpcagoaa", sum := "b79459be0473b517156d30f0a46c4886efa49da6dfd6125d504cd95b391c205d", func := "shuttle/shuttlelaw02.BitioPuts", spec := "bitioPuts", unfollowed := true, recurses := true, apart := false, narrowed := true }
def BitioPutsUptoSaid : Prop := bitioPutsUptoRow.holds Try.pinned (OpenSpec.upto bitioPutsSpec)

/-- 'shuttlelaw02.BitioTakes', WHERE WHAT IT READS IS OF BULK AT MOST 1048576: true; the input reads as it did. -/
def bitioTakesUptoRow : OpenClaim := { program := "ytmajbcglpcagoaa", sum := "b79459be0473b517156d30f0a46c4886efa49da6dfd6125d504cd95b391c205d", func := "shuttle/shuttlelaw02.BitioTakes", spec := "bitioTakes", unfollowed := true, recurses := true, apart := false, narrowed := true }
def BitioTakesUptoSaid : Prop := bitioTakesUptoRow.holds Try.pinned (OpenSpec.upto bitioTakesSpec)

end Rows
end Go.Proofs.Ytmajbcglpcagoaa
