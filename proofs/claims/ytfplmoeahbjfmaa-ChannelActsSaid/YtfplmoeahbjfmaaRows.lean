/-
  No cell of these rows narrows 'for every input' (looked for: loops, veiled, ifaces, maps, wideKeys, modest, calm, conditions, laid).
  DERIVED. THE GIVEN ROWS OF THIS SEAT. 7 by the template 'for every input the law returns true; each argument reads behind the call as it read before'; 0 by the template 'total and deterministic' (their statements: YtfplmoeahbjfmaaTotals.lean).
  GIVEN WITH THE SEED: the statements are not yours to turn. If you find one false, say at which input.
  Laid BY PROGRAM, IN A SANDBOX (cutbox-rows.mjs): the forced cells as the released guide's own fill.sh prints them over the translation 0196d1f525b4c754… (all of the seat's roots in one cut). By AI agents, Wed Nov 11 2026. No macro, syntax, notation, axiom, sorry.
-/
import Derived.Test.YtfplmoeahbjfmaaChecked
import GoSem.Claim
import GoSem.ClaimJoined
import GoSem.ClaimMapViews
import Derived.JoinedTies
import Derived.KernelRfl
namespace Go.Proofs.Ytfplmoeahbjfmaa
/- THE CELL 'sum', in the pinned program and in every row, IS THE sha256 OF THE DUMP (.gsa) THAT YtfplmoeahbjfmaaProg.lean LOADS. Nothing in Lean hashes anything: it is a label: what it is worth is what the hold of that sum in a sandbox is worth. -/
noncomputable def Try.pinned : Pinned := { name := "ytfplmoeahbjfmaa", sum := "0196d1f525b4c7542047022e82fded562cf3283571f69da2f6c5da5b7eeb596d", checked := Try.checked }
namespace Rows
def none {H : Type} : Left H := { results := [], args := [] }

/-- 'shuttlelaw26.ChannelAges': WHATEVER THE INPUT: true; the input reads as it did. -/
def channelAgesSpec : ChangeSpec := { name := "channelAges", fn := fun _ => fun
  | [d1, d2] => { results := [.lit (.bool true)], args := [d1, d2] }
  | _ => none }
def channelAgesRow : OpenClaim := { program := "ytfplmoeahbjfmaa", sum := "0196d1f525b4c7542047022e82fded562cf3283571f69da2f6c5da5b7eeb596d", func := "shuttle/shuttlelaw26.ChannelAges", spec := "channelAges", unfollowed := true, recurses := true, apart := false }
def ChannelAgesSaid : Prop := channelAgesRow.holds Try.pinned (OpenSpec.ofChange channelAgesSpec)

/-- ITS FALSE NEIGHBOUR: 'it returns false'. Refute it at one input. -/
def channelAgesWrong : ChangeSpec := { name := "channelAges", fn := fun _ => fun
  | [d1, d2] => { results := [.lit (.bool false)], args := [d1, d2] }
  | _ => none }
def ChannelAgesWrongFalsely : Prop := channelAgesRow.holds Try.pinned (OpenSpec.ofChange channelAgesWrong)

/-- 'shuttlelaw26.ChannelFull': WHATEVER THE INPUT: true; the input reads as it did. -/
def channelFullSpec : ChangeSpec := { name := "channelFull", fn := fun _ => fun
  | [d] => { results := [.lit (.bool true)], args := [d] }
  | _ => none }
def channelFullRow : OpenClaim := { program := "ytfplmoeahbjfmaa", sum := "0196d1f525b4c7542047022e82fded562cf3283571f69da2f6c5da5b7eeb596d", func := "shuttle/shuttlelaw26.ChannelFull", spec := "channelFull", unfollowed := true, recurses := true, apart := false }
def ChannelFullSaid : Prop := channelFullRow.holds Try.pinned (OpenSpec.ofChange channelFullSpec)

/-- ITS FALSE NEIGHBOUR: 'it returns false'. Refute it at one input. -/
def channelFullWrong : ChangeSpec := { name := "channelFull", fn := fun _ => fun
  | [d] => { results := [.lit (.bool false)], args := [d] }
  | _ => none }
def ChannelFullWrongFalsely : Prop := channelFullRow.holds Try.pinned (OpenSpec.ofChange channelFullWrong)

/-- 'shuttlelaw34.PiecesLong': WHATEVER THE INPUT: true; the input reads as it did. -/
def piecesLongSpec : ChangeSpec := { name := "piecesLong", fn := fun _ => fun
  | [d] => { results := [.lit (.bool true)], args := [d] }
  | _ => none }
def piecesLongRow : OpenClaim := { program := "ytfplmoeahbjfmaa", sum := "0196d1f525b4c7542047022e82fded562cf3283571f69da2f6c5da5b7eeb596d", func := "shuttle/shuttlelaw34.PiecesLong", spec := "piecesLong", unfollowed := true, recurses := true, apart := false }
def PiecesLongSaid : Prop := piecesLongRow.holds Try.pinned (OpenSpec.ofChange piecesLongSpec)

/-- ITS FALSE NEIGHBOUR: 'it returns false'. Refute it at one input. -/
def piecesLongWrong : ChangeSpec := { name := "piecesLong", fn := fun _ => fun
  | [d] => { results := [.lit (.bool false)], args := [d] }
  | _ => none }
def PiecesLongWrongFalsely : Prop := piecesLongRow.holds Try.pinned (OpenSpec.ofChange piecesLongWrong)

/-- 'shuttlelaw34.PiecesSizes': WHATEVER THE INPUT: true; the input reads as it did. -/
def piecesSizesSpec : ChangeSpec := { name := "piecesSizes", fn := fun _ => fun
  | [d] => { results := [.lit (.bool true)], args := [d] }
  | _ => none }
def piecesSizesRow : OpenClaim := { program := "ytfplmoeahbjfmaa", sum := "0196d1f525b4c7542047022e82fded562cf3283571f69da2f6c5da5b7eeb596d", func := "shuttle/shuttlelaw34.PiecesSizes", spec := "piecesSizes", unfollowed := true, recurses := true, apart := false }
def PiecesSizesSaid : Prop := piecesSizesRow.holds Try.pinned (OpenSpec.ofChange piecesSizesSpec)

/-- ITS FALSE NEIGHBOUR: 'it returns false'. Refute it at one input. -/
def piecesSizesWrong : ChangeSpec := { name := "piecesSizes", fn := fun _ => fun
  | [d] => { results := [.lit (.bool false)], args := [d] }
  | _ => none }
def PiecesSizesWrongFalsely : Prop := piecesSizesRow.holds Try.pinned (OpenSpec.ofChange piecesSizesWrong)

/-- 'shuttlelaw34.PiecesAgain': WHATEVER THE INPUT: true; the input reads as it did. -/
def piecesAgainSpec : ChangeSpec := { name := "piecesAgain", fn := fun _ => fun
  | [d1, d2] => { results := [.lit (.bool true)], args := [d1, d2] }
  | _ => none }
def piecesAgainRow : OpenClaim := { program := "ytfplmoeahbjfmaa", sum := "0196d1f525b4c7542047022e82fded562cf3283571f69da2f6c5da5b7eeb596d", func := "shuttle/shuttlelaw34.PiecesAgain", spec := "piecesAgain", unfollowed := true, recurses := true, apart := false }
def PiecesAgainSaid : Prop := piecesAgainRow.holds Try.pinned (OpenSpec.ofChange piecesAgainSpec)

/-- ITS FALSE NEIGHBOUR: 'it returns false'. Refute it at one input. -/
def piecesAgainWrong : ChangeSpec := { name := "piecesAgain", fn := fun _ => fun
  | [d1, d2] => { results := [.lit (.bool false)], args := [d1, d2] }
  | _ => none }
def PiecesAgainWrongFalsely : Prop := piecesAgainRow.holds Try.pinned (OpenSpec.ofChange piecesAgainWrong)

/-- 'shuttlelaw34.PiecesSplits': WHATEVER THE INPUT: true; the input reads as it did. -/
def piecesSplitsSpec : ChangeSpec := { name := "piecesSplits", fn := fun _ => fun
  | [d1, d2] => { results := [.lit (.bool true)], args := [d1, d2] }
  | _ => none }
def piecesSplitsRow : OpenClaim := { program := "ytfplmoeahbjfmaa", sum := "0196d1f525b4c7542047022e82fded562cf3283571f69da2f6c5da5b7eeb596d", func := "shuttle/shuttlelaw34.PiecesSplits", spec := "piecesSplits", unfollowed := true, recurses := true, apart := false }
def PiecesSplitsSaid : Prop := piecesSplitsRow.holds Try.pinned (OpenSpec.ofChange piecesSplitsSpec)

/-- ITS FALSE NEIGHBOUR: 'it returns false'. Refute it at one input. -/
def piecesSplitsWrong : ChangeSpec := { name := "piecesSplits", fn := fun _ => fun
  | [d1, d2] => { results := [.lit (.bool false)], args := [d1, d2] }
  | _ => none }
def PiecesSplitsWrongFalsely : Prop := piecesSplitsRow.holds Try.pinned (OpenSpec.ofChange piecesSplitsWrong)

/-- 'shuttlelaw26.ChannelActs': WHATEVER THE INPUT: true; the input reads as it did. -/
def channelActsSpec : ChangeSpec := { name := "channelActs", fn := fun _ => fun
  | [d1, d2] => { results := [.lit (.bool true)], args := [d1, d2] }
  | _ => none }
def channelActsRow : OpenClaim := { program := "ytfplmoeahbjfmaa", sum := "0196d1f525b4c7542047022e82fded562cf3283571f69da2f6c5da5b7eeb596d", func := "shuttle/shuttlelaw26.ChannelActs", spec := "channelActs", unfollowed := true, recurses := true, apart := false }
def ChannelActsSaid : Prop := channelActsRow.holds Try.pinned (OpenSpec.ofChange channelActsSpec)

/-- ITS FALSE NEIGHBOUR: 'it returns false'. Refute it at one input. -/
def channelActsWrong : ChangeSpec := { name := "channelActs", fn := fun _ => fun
  | [d1, d2] => { results := [.lit (.bool false)], args := [d1, d2] }
  | _ => none }
def ChannelActsWrongFalsely : Prop := channelActsRow.holds Try.pinned (OpenSpec.ofChange channelActsWrong)

/- THE SECOND FORM. 'bulk': how many values and letters a reading holds, each counted each time it is reached (what is shared counts as often as it is met; a slice's spare places count too). A statement '..UptoSaid' is the law's where the arguments, and the package variables that the reading takes, are together of bulk at most 1048576: NARROWER than '..Said'. Prove '..Said' where nothing that the law and all that it calls make is longer than what came in: it says more and counts as full. Else prove '..UptoSaid'. A law counts once. -/
mutual
def uptoBulk {H : Type} : DataW H → Nat
  | .lit (.string bytes) => bytes.length + 1
  | .lit _ => 1
  | .nil => 1
  | .ptr d => uptoBulk d + 1
  | .slice elems spare => uptoBulkAll elems + uptoBulkAll spare + 1
  | .agg parts => uptoBulkAll parts + 1
  | .iface _ d => uptoBulk d + 1
  | .map entries => uptoBulkEntries entries + 1
  | .held _ => 1
def uptoBulkAll {H : Type} : List (DataW H) → Nat
  | [] => 0
  | d :: r => uptoBulk d + uptoBulkAll r
def uptoBulkEntries {H : Type} : List (Lit × DataW H) → Nat
  | [] => 0
  | x :: r => uptoBulkEntry x + uptoBulkEntries r
def uptoBulkEntry {H : Type} : Lit × DataW H → Nat
  | (.string bytes, d) => bytes.length + uptoBulk d + 1
  | (_, d) => uptoBulk d + 1
 end
def uptoSmall : (H : Type) → List (DataW H) → Bool := fun _ ds => decide (uptoBulkAll ds ≤ 1048576)
def OpenSpec.upto (s : _root_.Go.ChangeSpec) : _root_.Go.OpenSpec := { _root_.Go.OpenSpec.ofChange s with cond := some uptoSmall }

/-- 'shuttlelaw26.ChannelAges', WHERE WHAT IT READS IS OF BULK AT MOST 1048576: true; the input reads as it did. -/
def channelAgesUptoRow : OpenClaim := { program := "ytfplmoeahbjfmaa", sum := "0196d1f525b4c7542047022e82fded562cf3283571f69da2f6c5da5b7eeb596d", func := "shuttle/shuttlelaw26.ChannelAges", spec := "channelAges", unfollowed := true, recurses := true, apart := false, narrowed := true }
def ChannelAgesUptoSaid : Prop := channelAgesUptoRow.holds Try.pinned (OpenSpec.upto channelAgesSpec)

/-- 'shuttlelaw26.ChannelFull', WHERE WHAT IT READS IS OF BULK AT MOST 1048576: true; the input reads as it did. -/
def channelFullUptoRow : OpenClaim := { program := "ytfplmoeahbjfmaa", sum := "0196d1f525b4c7542047022e82fded562cf3283571f69da2f6c5da5b7eeb596d", func := "shuttle/shuttlelaw26.ChannelFull", spec := "channelFull", unfollowed := true, recurses := true, apart := false, narrowed := true }
def ChannelFullUptoSaid : Prop := channelFullUptoRow.holds Try.pinned (OpenSpec.upto channelFullSpec)

/-- 'shuttlelaw34.PiecesLong', WHERE WHAT IT READS IS OF BULK AT MOST 1048576: true; the input reads as it did. -/
def piecesLongUptoRow : OpenClaim := { program := "ytfplmoeahbjfmaa", sum := "0196d1f525b4c7542047022e82fded562cf3283571f69da2f6c5da5b7eeb596d", func := "shuttle/shuttlelaw34.PiecesLong", spec := "piecesLong", unfollowed := true, recurses := true, apart := false, narrowed := true }
def PiecesLongUptoSaid : Prop := piecesLongUptoRow.holds Try.pinned (OpenSpec.upto piecesLongSpec)

/-- 'shuttlelaw34.PiecesSizes', WHERE WHAT IT READS IS OF BULK AT MOST 1048576: true; the input reads as it did. -/
def piecesSizesUptoRow : OpenClaim := { program := "ytfplmoeahbjfmaa", sum := "0196d1f525b4c7542047022e82fded562cf3283571f69da2f6c5da5b7eeb596d", func := "shuttle/shuttlelaw34.PiecesSizes", spec := "piecesSizes", unfollowed := true, recurses := true, apart := false, narrowed := true }
def PiecesSizesUptoSaid : Prop := piecesSizesUptoRow.holds Try.pinned (OpenSpec.upto piecesSizesSpec)

/-- 'shuttlelaw34.PiecesAgain', WHERE WHAT IT READS IS OF BULK AT MOST 1048576: true; the input reads as it did. -/
def piecesAgainUptoRow : OpenClaim := { program := "ytfplmoeahbjfmaa", sum := "0196d1f525b4c7542047022e82fded562cf3283571f69da2f6c5da5b7eeb596d", func := "shuttle/shuttlelaw34.PiecesAgain", spec := "piecesAgain", unfollowed := true, recurses := true, apart := false, narrowed := true }
def PiecesAgainUptoSaid : Prop := piecesAgainUptoRow.holds Try.pinned (OpenSpec.upto piecesAgainSpec)

/-- 'shuttlelaw34.PiecesSplits', WHERE WHAT IT READS IS OF BULK AT MOST 1048576: true; the input reads as it did. -/
def piecesSplitsUptoRow : OpenClaim := { program := "ytfplmoeahbjfmaa", sum := "0196d1f525b4c7542047022e82fded562cf3283571f69da2f6c5da5b7eeb596d", func := "shuttle/shuttlelaw34.PiecesSplits", spec := "piecesSplits", unfollowed := true, recurses := true, apart := false, narrowed := true }
def PiecesSplitsUptoSaid : Prop := piecesSplitsUptoRow.holds Try.pinned (OpenSpec.upto piecesSplitsSpec)

/-- 'shuttlelaw26.ChannelActs', WHERE WHAT IT READS IS OF BULK AT MOST 1048576: true; the input reads as it did. -/
def channelActsUptoRow : OpenClaim := { program := "ytfplmoeahbjfmaa", sum := "0196d1f525b4c7542047022e82fded562cf3283571f69da2f6c5da5b7eeb596d", func := "shuttle/shuttlelaw26.ChannelActs", spec := "channelActs", unfollowed := true, recurses := true, apart := false, narrowed := true }
def ChannelActsUptoSaid : Prop := channelActsUptoRow.holds Try.pinned (OpenSpec.upto channelActsSpec)

end Rows
end Go.Proofs.Ytfplmoeahbjfmaa
