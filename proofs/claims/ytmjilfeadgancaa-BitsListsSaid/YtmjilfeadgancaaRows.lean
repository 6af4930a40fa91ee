/-
  No cell of these rows narrows 'for every input' (looked for: loops, veiled, ifaces, maps, wideKeys, modest, calm, conditions, laid).
  DERIVED. THE GIVEN ROWS OF THIS SEAT. 8 by the template 'for every input the law returns true; each argument reads behind the call as it read before'; 0 by the template 'total and deterministic' (their statements: YtmjilfeadgancaaTotals.lean).
  GIVEN WITH THE SEED: the statements are not yours to turn. If you find one false, say at which input.
  Laid BY PROGRAM, IN A SANDBOX (cutbox-rows.mjs): the forced cells as the released guide's own fill.sh prints them over the translation 1548e44ecf929901… (all of the seat's roots in one cut). By AI agents, Wed Nov 11 2026. No macro, syntax, notation, axiom, sorry.
-/
import Derived.Test.YtmjilfeadgancaaChecked
import GoSem.Claim
import GoSem.ClaimJoined
import GoSem.ClaimMapViews
import Derived.JoinedTies
import Derived.KernelRfl
namespace Go.Proofs.Ytmjilfeadgancaa
/- THE CELL 'sum', in the pinned program and in every row, IS THE sha256 OF THE DUMP (.gsa) THAT YtmjilfeadgancaaProg.lean LOADS. Nothing in Lean hashes anything: it is a label: what it is worth is what the hold of that sum in a sandbox is worth. -/
noncomputable def Try.pinned : Pinned := { name := "ytmjilfeadgancaa", sum := "1548e44ecf929901e5cc5a103ed7fa426bdfdb0da2098d47a5b2222a0c630712", checked := Try.checked }
namespace Rows
def none {H : Type} : Left H := { results := [], args := [] }

/-- 'shuttlelaw08.SoftAdds': WHATEVER THE INPUT: true; the input reads as it did. -/
def softAddsSpec : ChangeSpec := { name := "softAdds", fn := fun _ => fun
  | [d1, d2, d3] => { results := [.lit (.bool true)], args := [d1, d2, d3] }
  | _ => none }
def softAddsRow : OpenClaim := { program := "ytmjilfeadgancaa", sum := "1548e44ecf929901e5cc5a103ed7fa426bdfdb0da2098d47a5b2222a0c630712", func := "shuttle/shuttlelaw08.SoftAdds", spec := "softAdds", unfollowed := true, recurses := true, apart := false }
def SoftAddsSaid : Prop := softAddsRow.holds Try.pinned (OpenSpec.ofChange softAddsSpec)

/-- ITS FALSE NEIGHBOUR: 'it returns false'. Refute it at one input. -/
def softAddsWrong : ChangeSpec := { name := "softAdds", fn := fun _ => fun
  | [d1, d2, d3] => { results := [.lit (.bool false)], args := [d1, d2, d3] }
  | _ => none }
def SoftAddsWrongFalsely : Prop := softAddsRow.holds Try.pinned (OpenSpec.ofChange softAddsWrong)

/-- 'shuttlelaw08.SoftSums': WHATEVER THE INPUT: true; the input reads as it did. -/
def softSumsSpec : ChangeSpec := { name := "softSums", fn := fun _ => fun
  | [d] => { results := [.lit (.bool true)], args := [d] }
  | _ => none }
def softSumsRow : OpenClaim := { program := "ytmjilfeadgancaa", sum := "1548e44ecf929901e5cc5a103ed7fa426bdfdb0da2098d47a5b2222a0c630712", func := "shuttle/shuttlelaw08.SoftSums", spec := "softSums", unfollowed := true, recurses := true, apart := false }
def SoftSumsSaid : Prop := softSumsRow.holds Try.pinned (OpenSpec.ofChange softSumsSpec)

/-- ITS FALSE NEIGHBOUR: 'it returns false'. Refute it at one input. -/
def softSumsWrong : ChangeSpec := { name := "softSums", fn := fun _ => fun
  | [d] => { results := [.lit (.bool false)], args := [d] }
  | _ => none }
def SoftSumsWrongFalsely : Prop := softSumsRow.holds Try.pinned (OpenSpec.ofChange softSumsWrong)

/-- 'shuttlelaw08.SoftScores': WHATEVER THE INPUT: true; the input reads as it did. -/
def softScoresSpec : ChangeSpec := { name := "softScores", fn := fun _ => fun
  | [d1, d2] => { results := [.lit (.bool true)], args := [d1, d2] }
  | _ => none }
def softScoresRow : OpenClaim := { program := "ytmjilfeadgancaa", sum := "1548e44ecf929901e5cc5a103ed7fa426bdfdb0da2098d47a5b2222a0c630712", func := "shuttle/shuttlelaw08.SoftScores", spec := "softScores", unfollowed := true, recurses := true, apart := false }
def SoftScoresSaid : Prop := softScoresRow.holds Try.pinned (OpenSpec.ofChange softScoresSpec)

/-- ITS FALSE NEIGHBOUR: 'it returns false'. Refute it at one input. -/
def softScoresWrong : ChangeSpec := { name := "softScores", fn := fun _ => fun
  | [d1, d2] => { results := [.lit (.bool false)], args := [d1, d2] }
  | _ => none }
def SoftScoresWrongFalsely : Prop := softScoresRow.holds Try.pinned (OpenSpec.ofChange softScoresWrong)

/-- 'shuttlelaw08.SoftBest': WHATEVER THE INPUT: true; the input reads as it did. -/
def softBestSpec : ChangeSpec := { name := "softBest", fn := fun _ => fun
  | [d1, d2] => { results := [.lit (.bool true)], args := [d1, d2] }
  | _ => none }
def softBestRow : OpenClaim := { program := "ytmjilfeadgancaa", sum := "1548e44ecf929901e5cc5a103ed7fa426bdfdb0da2098d47a5b2222a0c630712", func := "shuttle/shuttlelaw08.SoftBest", spec := "softBest", unfollowed := true, recurses := true, apart := false }
def SoftBestSaid : Prop := softBestRow.holds Try.pinned (OpenSpec.ofChange softBestSpec)

/-- ITS FALSE NEIGHBOUR: 'it returns false'. Refute it at one input. -/
def softBestWrong : ChangeSpec := { name := "softBest", fn := fun _ => fun
  | [d1, d2] => { results := [.lit (.bool false)], args := [d1, d2] }
  | _ => none }
def SoftBestWrongFalsely : Prop := softBestRow.holds Try.pinned (OpenSpec.ofChange softBestWrong)

/-- 'shuttlelaw01.BitsBytes': WHATEVER THE INPUT: true; the input reads as it did. -/
def bitsBytesSpec : ChangeSpec := { name := "bitsBytes", fn := fun _ => fun
  | [d] => { results := [.lit (.bool true)], args := [d] }
  | _ => none }
def bitsBytesRow : OpenClaim := { program := "ytmjilfeadgancaa", sum := "1548e44ecf929901e5cc5a103ed7fa426bdfdb0da2098d47a5b2222a0c630712", func := "shuttle/shuttlelaw01.BitsBytes", spec := "bitsBytes", unfollowed := true, recurses := true, apart := false }
def BitsBytesSaid : Prop := bitsBytesRow.holds Try.pinned (OpenSpec.ofChange bitsBytesSpec)

/-- ITS FALSE NEIGHBOUR: 'it returns false'. Refute it at one input. -/
def bitsBytesWrong : ChangeSpec := { name := "bitsBytes", fn := fun _ => fun
  | [d] => { results := [.lit (.bool false)], args := [d] }
  | _ => none }
def BitsBytesWrongFalsely : Prop := bitsBytesRow.holds Try.pinned (OpenSpec.ofChange bitsBytesWrong)

/-- 'shuttlelaw01.BitsApart': WHATEVER THE INPUT: true; the input reads as it did. -/
def bitsApartSpec : ChangeSpec := { name := "bitsApart", fn := fun _ => fun
  | [d1, d2, d3] => { results := [.lit (.bool true)], args := [d1, d2, d3] }
  | _ => none }
def bitsApartRow : OpenClaim := { program := "ytmjilfeadgancaa", sum := "1548e44ecf929901e5cc5a103ed7fa426bdfdb0da2098d47a5b2222a0c630712", func := "shuttle/shuttlelaw01.BitsApart", spec := "bitsApart", unfollowed := true, recurses := true, apart := false }
def BitsApartSaid : Prop := bitsApartRow.holds Try.pinned (OpenSpec.ofChange bitsApartSpec)

/-- ITS FALSE NEIGHBOUR: 'it returns false'. Refute it at one input. -/
def bitsApartWrong : ChangeSpec := { name := "bitsApart", fn := fun _ => fun
  | [d1, d2, d3] => { results := [.lit (.bool false)], args := [d1, d2, d3] }
  | _ => none }
def BitsApartWrongFalsely : Prop := bitsApartRow.holds Try.pinned (OpenSpec.ofChange bitsApartWrong)

/-- 'shuttlelaw01.BitsLists': WHATEVER THE INPUT: true; the input reads as it did. -/
def bitsListsSpec : ChangeSpec := { name := "bitsLists", fn := fun _ => fun
  | [d1, d2] => { results := [.lit (.bool true)], args := [d1, d2] }
  | _ => none }
def bitsListsRow : OpenClaim := { program := "ytmjilfeadgancaa", sum := "1548e44ecf929901e5cc5a103ed7fa426bdfdb0da2098d47a5b2222a0c630712", func := "shuttle/shuttlelaw01.BitsLists", spec := "bitsLists", unfollowed := true, recurses := true, apart := false }
def BitsListsSaid : Prop := bitsListsRow.holds Try.pinned (OpenSpec.ofChange bitsListsSpec)

/-- ITS FALSE NEIGHBOUR: 'it returns false'. Refute it at one input. -/
def bitsListsWrong : ChangeSpec := { name := "bitsLists", fn := fun _ => fun
  | [d1, d2] => { results := [.lit (.bool false)], args := [d1, d2] }
  | _ => none }
def BitsListsWrongFalsely : Prop := bitsListsRow.holds Try.pinned (OpenSpec.ofChange bitsListsWrong)

/-- 'shuttlelaw01.BitsTurns': WHATEVER THE INPUT: true; the input reads as it did. -/
def bitsTurnsSpec : ChangeSpec := { name := "bitsTurns", fn := fun _ => fun
  | [d1, d2] => { results := [.lit (.bool true)], args := [d1, d2] }
  | _ => none }
def bitsTurnsRow : OpenClaim := { program := "ytmjilfeadgancaa", sum := "1548e44ecf929901e5cc5a103ed7fa426bdfdb0da2098d47a5b2222a0c630712", func := "shuttle/shuttlelaw01.BitsTurns", spec := "bitsTurns", unfollowed := true, recurses := true, apart := false }
def BitsTurnsSaid : Prop := bitsTurnsRow.holds Try.pinned (OpenSpec.ofChange bitsTurnsSpec)

/-- ITS FALSE NEIGHBOUR: 'it returns false'. Refute it at one input. -/
def bitsTurnsWrong : ChangeSpec := { name := "bitsTurns", fn := fun _ => fun
  | [d1, d2] => { results := [.lit (.bool false)], args := [d1, d2] }
  | _ => none }
def BitsTurnsWrongFalsely : Prop := bitsTurnsRow.holds Try.pinned (OpenSpec.ofChange bitsTurnsWrong)

/- THE SECOND FORM. 'bulk': how many values and letters a reading holds, each counted each time it is reached (what is shared counts as often as it is met; a slice's spare places count too). A statement '..UptoSaid' is the law's where the arguments, and the package variables that the reading takes, are together of bulk at most 1048576: NARROWER than '..Said'. Prove '..Said' where nothing that the law and all that it calls make is longer than what came in: it says more and counts as full. Else prove '..UptoSaid'. A law counts once. -/
mutual
def uptoBulk {H : Type} : DataW H → Nat
  | .lit (.string bytes) => bytes.length + 1
  | .lit _ => 1
  | .nil => 1
  | .ptr d => uptoBulk d + 1
  | .slice elems spare => uptoBulkAll elems + uptoBulkAll spare + 1
  | .agg parts => uptoBulkAll parts + 1
  | .iface _ d => uptoBulk d + 1
  | .map entries => uptoBulkEntries entries + 1
  | .held _ => 1
def uptoBulkAll {H : Type} : List (DataW H) → Nat
  | [] => 0
  | d :: r => uptoBulk d + uptoBulkAll r
def uptoBulkEntries {H : Type} : List (Lit × DataW H) → Nat
  | [] => 0
  | x :: r => uptoBulkEntry x + uptoBulkEntries r
def uptoBulkEntry {H : Type} : Lit × DataW H → Nat
  | (.string bytes, d) => bytes.length + uptoBulk d + 1
  | (_, d) => uptoBulk d + 1
 end
def uptoSmall : (H : Type) → List (DataW H) → Bool := fun _ ds => decide (uptoBulkAll ds ≤ 1048576)
def OpenSpec.upto (s : _root_.Go.ChangeSpec) : _root_.Go.OpenSpec := { _root_.Go.OpenSpec.ofChange s with cond := some uptoSmall }

/-- 'shuttlelaw08.SoftAdds', WHERE WHAT IT READS IS OF BULK AT MOST 1048576: true; the input reads as it did. -/
def softAddsUptoRow : OpenClaim := { program := "ytmjilfeadgancaa", sum := "1548e44ecf929901e5cc5a103ed7fa426bdfdb0da2098d47a5b2222a0c630712", func := "shuttle/shuttlelaw08.SoftAdds", spec := "softAdds", unfollowed := true, recurses := true, apart := false, narrowed := true }
def SoftAddsUptoSaid : Prop := softAddsUptoRow.holds Try.pinned (OpenSpec.upto softAddsSpec)

/-- 'shuttlelaw08.SoftSums', WHERE WHAT IT READS IS OF BULK AT MOST 1048576: true; the input reads as it did. -/
def softSumsUptoRow : OpenClaim := { program := "ytmjilfeadgancaa", sum := "1548e44ecf929901e5cc5a103ed7fa426bdfdb0da2098d47a5b2222a0c630712", func := "shuttle/shuttlelaw08.SoftSums", spec := "softSums", unfollowed := true, recurses := true, apart := false, narrowed := true }
def SoftSumsUptoSaid : Prop := softSumsUptoRow.holds Try.pinned (OpenSpec.upto softSumsSpec)

/-- 'shuttlelaw08.SoftScores', WHERE WHAT IT READS IS OF BULK AT MOST 1048576: true; the input reads as it did. -/
def softScoresUptoRow : OpenClaim := { program := "ytmjilfeadgancaa", sum := "1548e44ecf929901e5cc5a103ed7fa426bdfdb0da2098d47a5b2222a0c630712", func := "shuttle/shuttlelaw08.SoftScores", spec := "softScores", unfollowed := true, recurses := true, apart := false, narrowed := true }
def SoftScoresUptoSaid : Prop := softScoresUptoRow.holds Try.pinned (OpenSpec.upto softScoresSpec)

/-- 'shuttlelaw08.SoftBest', WHERE WHAT IT READS IS OF BULK AT MOST 1048576: true; the input reads as it did. -/
def softBestUptoRow : OpenClaim := { program := "ytmjilfeadgancaa", sum := "1548e44ecf929901e5cc5a103ed7fa426bdfdb0da2098d47a5b2222a0c630712", func := "shuttle/shuttlelaw08.SoftBest", spec := "softBest", unfollowed := true, recurses := true, apart := false, narrowed := true }
def SoftBestUptoSaid : Prop := softBestUptoRow.holds Try.pinned (OpenSpec.upto softBestSpec)

/-- 'shuttlelaw01.BitsBytes', WHERE WHAT IT READS IS OF BULK AT MOST 1048576: true; the input reads as it did. -/
def bitsBytesUptoRow : OpenClaim := { program := "ytmjilfeadgancaa", sum := "1548e44ecf929901e5cc5a103ed7fa426bdfdb0da2098d47a5b2222a0c630712", func := "shuttle/shuttlelaw01.BitsBytes", spec := "bitsBytes", unfollowed := true, recurses := true, apart := false, narrowed := true }
def BitsBytesUptoSaid : Prop := bitsBytesUptoRow.holds Try.pinned (OpenSpec.upto bitsBytesSpec)

/-- 'shuttlelaw01.BitsApart', WHERE WHAT IT READS IS OF BULK AT MOST 1048576: true; the input reads as it did. -/
def bitsApartUptoRow : OpenClaim := { program := "ytmjilfeadgancaa", sum := "1548e44ecf929901e5cc5a103ed7fa426bdfdb0da2098d47a5b2222a0c630712", func := "shuttle/shuttlelaw01.BitsApart", spec := "bitsApart", unfollowed := true, recurses := true, apart := false, narrowed := true }
def BitsApartUptoSaid : Prop := bitsApartUptoRow.holds Try.pinned (OpenSpec.upto bitsApartSpec)

/-- 'shuttlelaw01.BitsLists', WHERE WHAT IT READS IS OF BULK AT MOST 1048576: true; the input reads as it did. -/
def bitsListsUptoRow : OpenClaim := { program := "ytmjilfeadgancaa", sum := "1548e44ecf929901e5cc5a103ed7fa426bdfdb0da2098d47a5b2222a0c630712", func := "shuttle/shuttlelaw01.BitsLists", spec := "bitsLists", unfollowed := true, recurses := true, apart := false, narrowed := true }
def BitsListsUptoSaid : Prop := bitsListsUptoRow.holds Try.pinned (OpenSpec.upto bitsListsSpec)

/-- 'shuttlelaw01.BitsTurns', WHERE WHAT IT READS IS OF BULK AT MOST 1048576: true; the input reads as it did. -/
def bitsTurnsUptoRow : OpenClaim := { program := "ytmjilfeadgancaa", sum := "1548e44ecf929901e5cc5a103ed7fa426bdfdb0da2098d47a5b2222a0c630712", func := "shuttle/shuttlelaw01.BitsTurns", spec := "bitsTurns", unfollowed := true, recurses := true, apart := false, narrowed := true }
def BitsTurnsUptoSaid : Prop := bitsTurnsUptoRow.holds Try.pinned (OpenSpec.upto bitsTurnsSpec)

end Rows
end Go.Proofs.Ytmjilfeadgancaa
