/-
  No cell of these rows narrows 'for every input' (looked for: loops, veiled, ifaces, maps, wideKeys, modest, calm, conditions, laid).
  DERIVED. THE GIVEN ROWS OF THIS SEAT. 9 by the template 'for every input the law returns true; each argument reads behind the call as it read before'; 0 by the template 'total and deterministic' (their statements: YtkhpgjojbdgkfaaTotals.lean).
  GIVEN WITH THE SEED: the statements are not yours to turn. If you find one false, say at which input.
  Laid BY PROGRAM, IN A SANDBOX (cutbox-rows.mjs): the forced cells as the released guide's own fill.sh prints them over the translation 6a98ff998bb667d7… (all of the seat's roots in one cut). By AI agents, Wed Nov 11 2026. No macro, syntax, notation, axiom, sorry.
-/
import Derived.Test.YtkhpgjojbdgkfaaChecked
import GoSem.Claim
import GoSem.ClaimJoined
import GoSem.ClaimMapViews
import Derived.JoinedTies
import Derived.KernelRfl
namespace Go.Proofs.Ytkhpgjojbdgkfaa
/- THE CELL 'sum', in the pinned program and in every row, IS THE sha256 OF THE DUMP (.gsa) THAT YtkhpgjojbdgkfaaProg.lean LOADS. Nothing in Lean hashes anything: it is a label: what it is worth is what the hold of that sum in a sandbox is worth. -/
noncomputable def Try.pinned : Pinned := { name := "ytkhpgjojbdgkfaa", sum := "6a98ff998bb667d726f5ce36890c8700629b7a0148c9364fc2df0aff6084413d", checked := Try.checked }
namespace Rows
def none {H : Type} : Left H := { results := [], args := [] }

/-- 'shuttlelaw05.Crc16Adds': WHATEVER THE INPUT: true; the input reads as it did. -/
def crc16AddsSpec : ChangeSpec := { name := "crc16Adds", fn := fun _ => fun
  | [d1, d2, d3] => { results := [.lit (.bool true)], args := [d1, d2, d3] }
  | _ => none }
def crc16AddsRow : OpenClaim := { program := "ytkhpgjojbdgkfaa", sum := "6a98ff998bb667d726f5ce36890c8700629b7a0148c9364fc2df0aff6084413d", func := "shuttle/shuttlelaw05.Crc16Adds", spec := "crc16Adds", apart := false }
def Crc16AddsSaid : Prop := crc16AddsRow.holds Try.pinned (OpenSpec.ofChange crc16AddsSpec)

/-- ITS FALSE NEIGHBOUR: 'it returns false'. Refute it at one input. -/
def crc16AddsWrong : ChangeSpec := { name := "crc16Adds", fn := fun _ => fun
  | [d1, d2, d3] => { results := [.lit (.bool false)], args := [d1, d2, d3] }
  | _ => none }
def Crc16AddsWrongFalsely : Prop := crc16AddsRow.holds Try.pinned (OpenSpec.ofChange crc16AddsWrong)

/-- 'shuttlelaw04.Crc32Adds': WHATEVER THE INPUT: true; the input reads as it did. -/
def crc32AddsSpec : ChangeSpec := { name := "crc32Adds", fn := fun _ => fun
  | [d1, d2, d3] => { results := [.lit (.bool true)], args := [d1, d2, d3] }
  | _ => none }
def crc32AddsRow : OpenClaim := { program := "ytkhpgjojbdgkfaa", sum := "6a98ff998bb667d726f5ce36890c8700629b7a0148c9364fc2df0aff6084413d", func := "shuttle/shuttlelaw04.Crc32Adds", spec := "crc32Adds", apart := false }
def Crc32AddsSaid : Prop := crc32AddsRow.holds Try.pinned (OpenSpec.ofChange crc32AddsSpec)

/-- ITS FALSE NEIGHBOUR: 'it returns false'. Refute it at one input. -/
def crc32AddsWrong : ChangeSpec := { name := "crc32Adds", fn := fun _ => fun
  | [d1, d2, d3] => { results := [.lit (.bool false)], args := [d1, d2, d3] }
  | _ => none }
def Crc32AddsWrongFalsely : Prop := crc32AddsRow.holds Try.pinned (OpenSpec.ofChange crc32AddsWrong)

/-- 'shuttlelaw10.PatternPlaces': WHATEVER THE INPUT: true; the input reads as it did. -/
def patternPlacesSpec : ChangeSpec := { name := "patternPlaces", fn := fun _ => fun
  | [d1, d2] => { results := [.lit (.bool true)], args := [d1, d2] }
  | _ => none }
def patternPlacesRow : OpenClaim := { program := "ytkhpgjojbdgkfaa", sum := "6a98ff998bb667d726f5ce36890c8700629b7a0148c9364fc2df0aff6084413d", func := "shuttle/shuttlelaw10.PatternPlaces", spec := "patternPlaces", apart := false }
def PatternPlacesSaid : Prop := patternPlacesRow.holds Try.pinned (OpenSpec.ofChange patternPlacesSpec)

/-- ITS FALSE NEIGHBOUR: 'it returns false'. Refute it at one input. -/
def patternPlacesWrong : ChangeSpec := { name := "patternPlaces", fn := fun _ => fun
  | [d1, d2] => { results := [.lit (.bool false)], args := [d1, d2] }
  | _ => none }
def PatternPlacesWrongFalsely : Prop := patternPlacesRow.holds Try.pinned (OpenSpec.ofChange patternPlacesWrong)

/-- 'shuttlelaw10.PatternRound': WHATEVER THE INPUT: true; the input reads as it did. -/
def patternRoundSpec : ChangeSpec := { name := "patternRound", fn := fun _ => fun
  | [d1, d2] => { results := [.lit (.bool true)], args := [d1, d2] }
  | _ => none }
def patternRoundRow : OpenClaim := { program := "ytkhpgjojbdgkfaa", sum := "6a98ff998bb667d726f5ce36890c8700629b7a0148c9364fc2df0aff6084413d", func := "shuttle/shuttlelaw10.PatternRound", spec := "patternRound", apart := false }
def PatternRoundSaid : Prop := patternRoundRow.holds Try.pinned (OpenSpec.ofChange patternRoundSpec)

/-- ITS FALSE NEIGHBOUR: 'it returns false'. Refute it at one input. -/
def patternRoundWrong : ChangeSpec := { name := "patternRound", fn := fun _ => fun
  | [d1, d2] => { results := [.lit (.bool false)], args := [d1, d2] }
  | _ => none }
def PatternRoundWrongFalsely : Prop := patternRoundRow.holds Try.pinned (OpenSpec.ofChange patternRoundWrong)

/-- 'shuttlelaw05.Crc16Sums': WHATEVER THE INPUT: true; the input reads as it did. -/
def crc16SumsSpec : ChangeSpec := { name := "crc16Sums", fn := fun _ => fun
  | [d] => { results := [.lit (.bool true)], args := [d] }
  | _ => none }
def crc16SumsRow : OpenClaim := { program := "ytkhpgjojbdgkfaa", sum := "6a98ff998bb667d726f5ce36890c8700629b7a0148c9364fc2df0aff6084413d", func := "shuttle/shuttlelaw05.Crc16Sums", spec := "crc16Sums", apart := false }
def Crc16SumsSaid : Prop := crc16SumsRow.holds Try.pinned (OpenSpec.ofChange crc16SumsSpec)

/-- ITS FALSE NEIGHBOUR: 'it returns false'. Refute it at one input. -/
def crc16SumsWrong : ChangeSpec := { name := "crc16Sums", fn := fun _ => fun
  | [d] => { results := [.lit (.bool false)], args := [d] }
  | _ => none }
def Crc16SumsWrongFalsely : Prop := crc16SumsRow.holds Try.pinned (OpenSpec.ofChange crc16SumsWrong)

/-- 'shuttlelaw05.Crc16Bursts': WHATEVER THE INPUT: true; the input reads as it did. -/
def crc16BurstsSpec : ChangeSpec := { name := "crc16Bursts", fn := fun _ => fun
  | [d1, d2, d3] => { results := [.lit (.bool true)], args := [d1, d2, d3] }
  | _ => none }
def crc16BurstsRow : OpenClaim := { program := "ytkhpgjojbdgkfaa", sum := "6a98ff998bb667d726f5ce36890c8700629b7a0148c9364fc2df0aff6084413d", func := "shuttle/shuttlelaw05.Crc16Bursts", spec := "crc16Bursts", apart := false }
def Crc16BurstsSaid : Prop := crc16BurstsRow.holds Try.pinned (OpenSpec.ofChange crc16BurstsSpec)

/-- ITS FALSE NEIGHBOUR: 'it returns false'. Refute it at one input. -/
def crc16BurstsWrong : ChangeSpec := { name := "crc16Bursts", fn := fun _ => fun
  | [d1, d2, d3] => { results := [.lit (.bool false)], args := [d1, d2, d3] }
  | _ => none }
def Crc16BurstsWrongFalsely : Prop := crc16BurstsRow.holds Try.pinned (OpenSpec.ofChange crc16BurstsWrong)

/-- 'shuttlelaw04.Crc32Sums': WHATEVER THE INPUT: true; the input reads as it did. -/
def crc32SumsSpec : ChangeSpec := { name := "crc32Sums", fn := fun _ => fun
  | [d] => { results := [.lit (.bool true)], args := [d] }
  | _ => none }
def crc32SumsRow : OpenClaim := { program := "ytkhpgjojbdgkfaa", sum := "6a98ff998bb667d726f5ce36890c8700629b7a0148c9364fc2df0aff6084413d", func := "shuttle/shuttlelaw04.Crc32Sums", spec := "crc32Sums", apart := false }
def Crc32SumsSaid : Prop := crc32SumsRow.holds Try.pinned (OpenSpec.ofChange crc32SumsSpec)

/-- ITS FALSE NEIGHBOUR: 'it returns false'. Refute it at one input. -/
def crc32SumsWrong : ChangeSpec := { name := "crc32Sums", fn := fun _ => fun
  | [d] => { results := [.lit (.bool false)], args := [d] }
  | _ => none }
def Crc32SumsWrongFalsely : Prop := crc32SumsRow.holds Try.pinned (OpenSpec.ofChange crc32SumsWrong)

/-- 'shuttlelaw04.Crc32Bursts': WHATEVER THE INPUT: true; the input reads as it did. -/
def crc32BurstsSpec : ChangeSpec := { name := "crc32Bursts", fn := fun _ => fun
  | [d1, d2, d3] => { results := [.lit (.bool true)], args := [d1, d2, d3] }
  | _ => none }
def crc32BurstsRow : OpenClaim := { program := "ytkhpgjojbdgkfaa", sum := "6a98ff998bb667d726f5ce36890c8700629b7a0148c9364fc2df0aff6084413d", func := "shuttle/shuttlelaw04.Crc32Bursts", spec := "crc32Bursts", apart := false }
def Crc32BurstsSaid : Prop := crc32BurstsRow.holds Try.pinned (OpenSpec.ofChange crc32BurstsSpec)

/-- ITS FALSE NEIGHBOUR: 'it returns false'. Refute it at one input. -/
def crc32BurstsWrong : ChangeSpec := { name := "crc32Bursts", fn := fun _ => fun
  | [d1, d2, d3] => { results := [.lit (.bool false)], args := [d1, d2, d3] }
  | _ => none }
def Crc32BurstsWrongFalsely : Prop := crc32BurstsRow.holds Try.pinned (OpenSpec.ofChange crc32BurstsWrong)

/-- 'shuttlelaw10.PatternTells': WHATEVER THE INPUT: true; the input reads as it did. -/
def patternTellsSpec : ChangeSpec := { name := "patternTells", fn := fun _ => fun
  | [d1, d2, d3] => { results := [.lit (.bool true)], args := [d1, d2, d3] }
  | _ => none }
def patternTellsRow : OpenClaim := { program := "ytkhpgjojbdgkfaa", sum := "6a98ff998bb667d726f5ce36890c8700629b7a0148c9364fc2df0aff6084413d", func := "shuttle/shuttlelaw10.PatternTells", spec := "patternTells", apart := false }
def PatternTellsSaid : Prop := patternTellsRow.holds Try.pinned (OpenSpec.ofChange patternTellsSpec)

/-- ITS FALSE NEIGHBOUR: 'it returns false'. Refute it at one input. -/
def patternTellsWrong : ChangeSpec := { name := "patternTells", fn := fun _ => fun
  | [d1, d2, d3] => { results := [.lit (.bool false)], args := [d1, d2, d3] }
  | _ => none }
def PatternTellsWrongFalsely : Prop := patternTellsRow.holds Try.pinned (OpenSpec.ofChange patternTellsWrong)

/- THE SECOND FORM. 'bulk': how many values and letters a reading holds, each counted each time it is reached (what is shared counts as often as it is met; a slice's spare places count too). A statement '..UptoSaid' is the law's where the arguments, and the package variables that the reading takes, are together of bulk at most 1048576: NARROWER than '..Said'. Prove '..Said' where nothing that the law and all that it calls make is longer than what came in: it says more and counts as full. Else prove '..UptoSaid'. A law counts once. -/
mutual
def uptoBulk {H : Type} : DataW H → Nat
  | .lit (.string bytes) => bytes.length + 1
  | .lit _ => 1
  | .nil => 1
  | .ptr d => uptoBulk d + 1
  | .slice elems spare => uptoBulkAll elems + uptoBulkAll spare + 1
  | .agg parts => uptoBulkAll parts + 1
  | .iface _ d => uptoBulk d + 1
  | .map entries => uptoBulkEntries entries + 1
  | .held _ => 1
def uptoBulkAll {H : Type} : List (DataW H) → Nat
  | [] => 0
  | d :: r => uptoBulk d + uptoBulkAll r
def uptoBulkEntries {H : Type} : List (Lit × DataW H) → Nat
  | [] => 0
  | x :: r => uptoBulkEntry x + uptoBulkEntries r
def uptoBulkEntry {H : Type} : Lit × DataW H → Nat
  | (.string bytes, d) => bytes.length + uptoBulk d + 1
  | (_, d) => uptoBulk d + 1
 end
def uptoSmall : (H : Type) → List (DataW H) → Bool := fun _ ds => decide (uptoBulkAll ds ≤ 1048576)
def OpenSpec.upto (s : _root_.Go.ChangeSpec) : _root_.Go.OpenSpec := { _root_.Go.OpenSpec.ofChange s with cond := some uptoSmall }

/-- 'shuttlelaw05.Crc16Adds', WHERE WHAT IT READS IS OF BULK AT MOST 1048576: true; the input reads as it did. -/
def crc16AddsUptoRow : OpenClaim := { program := "ytkhpgjojbdgkfaa", sum := "6a98ff998bb667d726f5ce36890c8700629b7a0148c9364fc2df0aff6084413d", func := "shuttle/shuttlelaw05.Crc16Adds", spec := "crc16Adds", apart := false, narrowed := true }
def Crc16AddsUptoSaid : Prop := crc16AddsUptoRow.holds Try.pinned (OpenSpec.upto crc16AddsSpec)

/-- 'shuttlelaw04.Crc32Adds', WHERE WHAT IT READS IS OF BULK AT MOST 1048576: true; the input reads as it did. -/
def crc32AddsUptoRow : OpenClaim := { program := "ytkhpgjojbdgkfaa", sum := "6a98ff998bb667d726f5ce36890c8700629b7a0148c9364fc2df0aff6084413d", func := "shuttle/shuttlelaw04.Crc32Adds", spec := "crc32Adds", apart := false, narrowed := true }
def Crc32AddsUptoSaid : Prop := crc32AddsUptoRow.holds Try.pinned (OpenSpec.upto crc32AddsSpec)

/-- 'shuttlelaw10.PatternPlaces', WHERE WHAT IT READS IS OF BULK AT MOST 1048576: true; the input reads as it did. -/
def patternPlacesUptoRow : OpenClaim := { program := "ytkhpgjojbdgkfaa", sum := "6a98ff998bb667d726f5ce36890c8700629b7a0148c9364fc2df0aff6084413d", func := "shuttle/shuttlelaw10.PatternPlaces", spec := "patternPlaces", apart := false, narrowed := true }
def PatternPlacesUptoSaid : Prop := patternPlacesUptoRow.holds Try.pinned (OpenSpec.upto patternPlacesSpec)

/-- 'shuttlelaw10.PatternRound', WHERE WHAT IT READS IS OF BULK AT MOST 1048576: true; the input reads as it did. -/
def patternRoundUptoRow : OpenClaim := { program := "ytkhpgjojbdgkfaa", sum := "6a98ff998bb667d726f5ce36890c8700629b7a0148c9364fc2df0aff6084413d", func := "shuttle/shuttlelaw10.PatternRound", spec := "patternRound", apart := false, narrowed := true }
def PatternRoundUptoSaid : Prop := patternRoundUptoRow.holds Try.pinned (OpenSpec.upto patternRoundSpec)

/-- 'shuttlelaw05.Crc16Sums', WHERE WHAT IT READS IS OF BULK AT MOST 1048576: true; the input reads as it did. -/
def crc16SumsUptoRow : OpenClaim := { program := "ytkhpgjojbdgkfaa", sum := "6a98ff998bb667d726f5ce36890c8700629b7a0148c9364fc2df0aff6084413d", func := "shuttle/shuttlelaw05.Crc16Sums", spec := "crc16Sums", apart := false, narrowed := true }
def Crc16SumsUptoSaid : Prop := crc16SumsUptoRow.holds Try.pinned (OpenSpec.upto crc16SumsSpec)

/-- 'shuttlelaw05.Crc16Bursts', WHERE WHAT IT READS IS OF BULK AT MOST 1048576: true; the input reads as it did. -/
def crc16BurstsUptoRow : OpenClaim := { program := "ytkhpgjojbdgkfaa", sum := "6a98ff998bb667d726f5ce36890c8700629b7a0148c9364fc2df0aff6084413d", func := "shuttle/shuttlelaw05.Crc16Bursts", spec := "crc16Bursts", apart := false, narrowed := true }
def Crc16BurstsUptoSaid : Prop := crc16BurstsUptoRow.holds Try.pinned (OpenSpec.upto crc16BurstsSpec)

/-- 'shuttlelaw04.Crc32Sums', WHERE WHAT IT READS IS OF BULK AT MOST 1048576: true; the input reads as it did. -/
def crc32SumsUptoRow : OpenClaim := { program := "ytkhpgjojbdgkfaa", sum := "6a98ff998bb667d726f5ce36890c8700629b7a0148c9364fc2df0aff6084413d", func := "shuttle/shuttlelaw04.Crc32Sums", spec := "crc32Sums", apart := false, narrowed := true }
def Crc32SumsUptoSaid : Prop := crc32SumsUptoRow.holds Try.pinned (OpenSpec.upto crc32SumsSpec)

/-- 'shuttlelaw04.Crc32Bursts', WHERE WHAT IT READS IS OF BULK AT MOST 1048576: true; the input reads as it did. -/
def crc32BurstsUptoRow : OpenClaim := { program := "ytkhpgjojbdgkfaa", sum := "6a98ff998bb667d726f5ce36890c8700629b7a0148c9364fc2df0aff6084413d", func := "shuttle/shuttlelaw04.Crc32Bursts", spec := "crc32Bursts", apart := false, narrowed := true }
def Crc32BurstsUptoSaid : Prop := crc32BurstsUptoRow.holds Try.pinned (OpenSpec.upto crc32BurstsSpec)

/-- 'shuttlelaw10.PatternTells', WHERE WHAT IT READS IS OF BULK AT MOST 1048576: true; the input reads as it did. -/
def patternTellsUptoRow : OpenClaim := { program := "ytkhpgjojbdgkfaa", sum := "6a98ff998bb667d726f5ce36890c8700629b7a0148c9364fc2df0aff6084413d", func := "shuttle/shuttlelaw10.PatternTells", spec := "patternTells", apart := false, narrowed := true }
def PatternTellsUptoSaid : Prop := patternTellsUptoRow.holds Try.pinned (OpenSpec.upto patternTellsSpec)

end Rows
end Go.Proofs.Ytkhpgjojbdgkfaa
