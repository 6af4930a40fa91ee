/-
  NARROWER THAN 'FOR EVERY INPUT', by the rows' own cells (each row's printed sentence says how): SpectrumCounts: laid · SpectrumLeast: laid · SpectrumFirst: laid · SpectrumAll: laid · DistanceHolds: laid · DistanceGrows: laid · DistanceTurns: laid · DistanceLeast: laid.
  DERIVED. THE GIVEN ROWS OF THIS SEAT. 8 by the template 'for every input the law returns true; each argument reads behind the call as it read before'; 0 by the template 'total and deterministic' (their statements: YtijpnlmejphfhaaDoorTotals.lean).
  GIVEN WITH THE SEED: the statements are not yours to turn. If you find one false, say at which input.
  Laid BY PROGRAM, IN A SANDBOX (cutbox-rows.mjs): the forced cells as the released guide's own fill.sh prints them over the translation 2f1619d473b6c3a3… (all of the seat's roots in one cut). By AI agents, Wed Nov 11 2026. No macro, syntax, notation, axiom, sorry.
-/
import Derived.Test.YtijpnlmejphfhaaDoorChecked
import GoSem.Claim
import GoSem.ClaimJoined
import GoSem.ClaimMapViews
import Derived.JoinedTies
import Derived.KernelRfl
namespace Go.Proofs.YtijpnlmejphfhaaDoor
/- THE CELL 'sum', in the pinned program and in every row, IS THE sha256 OF THE DUMP (.gsa) THAT YtijpnlmejphfhaaDoorProg.lean LOADS. Nothing in Lean hashes anything: it is a label: what it is worth is what the hold of that sum in a sandbox is worth. -/
noncomputable def Tryd.pinned : Pinned := { name := "ytijpnlmejphfhaadoor", sum := "2f1619d473b6c3a31a09fa8dfe06beeb2476a88547cf88f00b79a151b52ce585", checked := Tryd.checked }
namespace Rows
def none {H : Type} : Left H := { results := [], args := [] }

/- WHAT THE LISTED PACKAGE-LEVEL VARIABLES READ AS WHEN THE CALL BEGINS. Each datum BY PROGRAM (the guide's laid-datum.mjs) off the statement by which the dump's own 'gosem.cut.vars' lays the variable. In a bare row this is a premise. The card (YtijpnlmejphfhaaDoorCards.lean) ties it to the program's text. -/
def laid_shuttle_conv_taps {H : Type} : DataW H := .agg [.lit (.int .u64 79), .lit (.int .u64 87), .lit (.int .u64 109), .lit (.int .u64 121)]

/-- 'shuttlelaw32.SpectrumCounts': WHATEVER THE INPUT: true; the input reads as it did. -/
def spectrumCountsSpec : ChangeSpec := { name := "spectrumCounts", fn := fun _ => fun
  | [d1, d2] => { results := [.lit (.bool true)], args := [d1, d2] }
  | _ => none }
def spectrumCountsRow : OpenClaim := { program := "ytijpnlmejphfhaadoor", sum := "2f1619d473b6c3a31a09fa8dfe06beeb2476a88547cf88f00b79a151b52ce585", func := "shuttle/shuttlelaw32.SpectrumCounts", spec := "spectrumCounts", unfollowed := true, recurses := true, named := ["shuttle/conv.taps"], plainKeys := false, apart := false, laid := [("shuttle/conv.taps", laid_shuttle_conv_taps)] }
def SpectrumCountsSaid : Prop := spectrumCountsRow.holds Tryd.pinned (OpenSpec.ofChange spectrumCountsSpec)

/-- ITS FALSE NEIGHBOUR: 'it returns false'. Refute it at one input. -/
def spectrumCountsWrong : ChangeSpec := { name := "spectrumCounts", fn := fun _ => fun
  | [d1, d2] => { results := [.lit (.bool false)], args := [d1, d2] }
  | _ => none }
def SpectrumCountsWrongFalsely : Prop := spectrumCountsRow.holds Tryd.pinned (OpenSpec.ofChange spectrumCountsWrong)

/-- 'shuttlelaw32.SpectrumLeast': WHATEVER THE INPUT: true; the input reads as it did. -/
def spectrumLeastSpec : ChangeSpec := { name := "spectrumLeast", fn := fun _ => fun
  | [d1, d2] => { results := [.lit (.bool true)], args := [d1, d2] }
  | _ => none }
def spectrumLeastRow : OpenClaim := { program := "ytijpnlmejphfhaadoor", sum := "2f1619d473b6c3a31a09fa8dfe06beeb2476a88547cf88f00b79a151b52ce585", func := "shuttle/shuttlelaw32.SpectrumLeast", spec := "spectrumLeast", unfollowed := true, recurses := true, named := ["shuttle/conv.taps"], plainKeys := false, apart := false, laid := [("shuttle/conv.taps", laid_shuttle_conv_taps)] }
def SpectrumLeastSaid : Prop := spectrumLeastRow.holds Tryd.pinned (OpenSpec.ofChange spectrumLeastSpec)

/-- ITS FALSE NEIGHBOUR: 'it returns false'. Refute it at one input. -/
def spectrumLeastWrong : ChangeSpec := { name := "spectrumLeast", fn := fun _ => fun
  | [d1, d2] => { results := [.lit (.bool false)], args := [d1, d2] }
  | _ => none }
def SpectrumLeastWrongFalsely : Prop := spectrumLeastRow.holds Tryd.pinned (OpenSpec.ofChange spectrumLeastWrong)

/-- 'shuttlelaw32.SpectrumFirst': WHATEVER THE INPUT: true; the input reads as it did. -/
def spectrumFirstSpec : ChangeSpec := { name := "spectrumFirst", fn := fun _ => fun
  | [d] => { results := [.lit (.bool true)], args := [d] }
  | _ => none }
def spectrumFirstRow : OpenClaim := { program := "ytijpnlmejphfhaadoor", sum := "2f1619d473b6c3a31a09fa8dfe06beeb2476a88547cf88f00b79a151b52ce585", func := "shuttle/shuttlelaw32.SpectrumFirst", spec := "spectrumFirst", unfollowed := true, recurses := true, named := ["shuttle/conv.taps"], plainKeys := false, apart := false, laid := [("shuttle/conv.taps", laid_shuttle_conv_taps)] }
def SpectrumFirstSaid : Prop := spectrumFirstRow.holds Tryd.pinned (OpenSpec.ofChange spectrumFirstSpec)

/-- ITS FALSE NEIGHBOUR: 'it returns false'. Refute it at one input. -/
def spectrumFirstWrong : ChangeSpec := { name := "spectrumFirst", fn := fun _ => fun
  | [d] => { results := [.lit (.bool false)], args := [d] }
  | _ => none }
def SpectrumFirstWrongFalsely : Prop := spectrumFirstRow.holds Tryd.pinned (OpenSpec.ofChange spectrumFirstWrong)

/-- 'shuttlelaw32.SpectrumAll': WHATEVER THE INPUT: true; the input reads as it did. -/
def spectrumAllSpec : ChangeSpec := { name := "spectrumAll", fn := fun _ => fun
  | [d1, d2] => { results := [.lit (.bool true)], args := [d1, d2] }
  | _ => none }
def spectrumAllRow : OpenClaim := { program := "ytijpnlmejphfhaadoor", sum := "2f1619d473b6c3a31a09fa8dfe06beeb2476a88547cf88f00b79a151b52ce585", func := "shuttle/shuttlelaw32.SpectrumAll", spec := "spectrumAll", unfollowed := true, recurses := true, named := ["shuttle/conv.taps"], plainKeys := false, apart := false, laid := [("shuttle/conv.taps", laid_shuttle_conv_taps)] }
def SpectrumAllSaid : Prop := spectrumAllRow.holds Tryd.pinned (OpenSpec.ofChange spectrumAllSpec)

/-- ITS FALSE NEIGHBOUR: 'it returns false'. Refute it at one input. -/
def spectrumAllWrong : ChangeSpec := { name := "spectrumAll", fn := fun _ => fun
  | [d1, d2] => { results := [.lit (.bool false)], args := [d1, d2] }
  | _ => none }
def SpectrumAllWrongFalsely : Prop := spectrumAllRow.holds Tryd.pinned (OpenSpec.ofChange spectrumAllWrong)

/-- 'shuttlelaw12.DistanceHolds': WHATEVER THE INPUT: true; the input reads as it did. -/
def distanceHoldsSpec : ChangeSpec := { name := "distanceHolds", fn := fun _ => fun
  | [d1, d2, d3] => { results := [.lit (.bool true)], args := [d1, d2, d3] }
  | _ => none }
def distanceHoldsRow : OpenClaim := { program := "ytijpnlmejphfhaadoor", sum := "2f1619d473b6c3a31a09fa8dfe06beeb2476a88547cf88f00b79a151b52ce585", func := "shuttle/shuttlelaw12.DistanceHolds", spec := "distanceHolds", unfollowed := true, recurses := true, named := ["shuttle/conv.taps"], plainKeys := false, apart := false, laid := [("shuttle/conv.taps", laid_shuttle_conv_taps)] }
def DistanceHoldsSaid : Prop := distanceHoldsRow.holds Tryd.pinned (OpenSpec.ofChange distanceHoldsSpec)

/-- ITS FALSE NEIGHBOUR: 'it returns false'. Refute it at one input. -/
def distanceHoldsWrong : ChangeSpec := { name := "distanceHolds", fn := fun _ => fun
  | [d1, d2, d3] => { results := [.lit (.bool false)], args := [d1, d2, d3] }
  | _ => none }
def DistanceHoldsWrongFalsely : Prop := distanceHoldsRow.holds Tryd.pinned (OpenSpec.ofChange distanceHoldsWrong)

/-- 'shuttlelaw12.DistanceGrows': WHATEVER THE INPUT: true; the input reads as it did. -/
def distanceGrowsSpec : ChangeSpec := { name := "distanceGrows", fn := fun _ => fun
  | [d1, d2] => { results := [.lit (.bool true)], args := [d1, d2] }
  | _ => none }
def distanceGrowsRow : OpenClaim := { program := "ytijpnlmejphfhaadoor", sum := "2f1619d473b6c3a31a09fa8dfe06beeb2476a88547cf88f00b79a151b52ce585", func := "shuttle/shuttlelaw12.DistanceGrows", spec := "distanceGrows", unfollowed := true, recurses := true, named := ["shuttle/conv.taps"], plainKeys := false, apart := false, laid := [("shuttle/conv.taps", laid_shuttle_conv_taps)] }
def DistanceGrowsSaid : Prop := distanceGrowsRow.holds Tryd.pinned (OpenSpec.ofChange distanceGrowsSpec)

/-- ITS FALSE NEIGHBOUR: 'it returns false'. Refute it at one input. -/
def distanceGrowsWrong : ChangeSpec := { name := "distanceGrows", fn := fun _ => fun
  | [d1, d2] => { results := [.lit (.bool false)], args := [d1, d2] }
  | _ => none }
def DistanceGrowsWrongFalsely : Prop := distanceGrowsRow.holds Tryd.pinned (OpenSpec.ofChange distanceGrowsWrong)

/-- 'shuttlelaw12.DistanceTurns': WHATEVER THE INPUT: true; the input reads as it did. -/
def distanceTurnsSpec : ChangeSpec := { name := "distanceTurns", fn := fun _ => fun
  | [d1, d2] => { results := [.lit (.bool true)], args := [d1, d2] }
  | _ => none }
def distanceTurnsRow : OpenClaim := { program := "ytijpnlmejphfhaadoor", sum := "2f1619d473b6c3a31a09fa8dfe06beeb2476a88547cf88f00b79a151b52ce585", func := "shuttle/shuttlelaw12.DistanceTurns", spec := "distanceTurns", unfollowed := true, recurses := true, named := ["shuttle/conv.taps"], plainKeys := false, apart := false, laid := [("shuttle/conv.taps", laid_shuttle_conv_taps)] }
def DistanceTurnsSaid : Prop := distanceTurnsRow.holds Tryd.pinned (OpenSpec.ofChange distanceTurnsSpec)

/-- ITS FALSE NEIGHBOUR: 'it returns false'. Refute it at one input. -/
def distanceTurnsWrong : ChangeSpec := { name := "distanceTurns", fn := fun _ => fun
  | [d1, d2] => { results := [.lit (.bool false)], args := [d1, d2] }
  | _ => none }
def DistanceTurnsWrongFalsely : Prop := distanceTurnsRow.holds Tryd.pinned (OpenSpec.ofChange distanceTurnsWrong)

/-- 'shuttlelaw12.DistanceLeast': WHATEVER THE INPUT: true; the input reads as it did. -/
def distanceLeastSpec : ChangeSpec := { name := "distanceLeast", fn := fun _ => fun
  | [d] => { results := [.lit (.bool true)], args := [d] }
  | _ => none }
def distanceLeastRow : OpenClaim := { program := "ytijpnlmejphfhaadoor", sum := "2f1619d473b6c3a31a09fa8dfe06beeb2476a88547cf88f00b79a151b52ce585", func := "shuttle/shuttlelaw12.DistanceLeast", spec := "distanceLeast", unfollowed := true, recurses := true, named := ["shuttle/conv.taps"], plainKeys := false, apart := false, laid := [("shuttle/conv.taps", laid_shuttle_conv_taps)] }
def DistanceLeastSaid : Prop := distanceLeastRow.holds Tryd.pinned (OpenSpec.ofChange distanceLeastSpec)

/-- ITS FALSE NEIGHBOUR: 'it returns false'. Refute it at one input. -/
def distanceLeastWrong : ChangeSpec := { name := "distanceLeast", fn := fun _ => fun
  | [d] => { results := [.lit (.bool false)], args := [d] }
  | _ => none }
def DistanceLeastWrongFalsely : Prop := distanceLeastRow.holds Tryd.pinned (OpenSpec.ofChange distanceLeastWrong)

/- THE SECOND FORM. 'bulk': how many values and letters a reading holds, each counted each time it is reached (what is shared counts as often as it is met; a slice's spare places count too). A statement '..UptoSaid' is the law's where the arguments, and the package variables that the reading takes, are together of bulk at most 1048576: NARROWER than '..Said'. Prove '..Said' where nothing that the law and all that it calls make is longer than what came in: it says more and counts as full. Else prove '..UptoSaid'. A law counts once. -/
mutual
def uptoBulk {H : Type} : DataW H → Nat
  | .lit (.string bytes) => bytes.length + 1
  | .lit _ => 1
  | .nil => 1
  | .ptr d => uptoBulk d + 1
  | .slice elems spare => uptoBulkAll elems + uptoBulkAll spare + 1
  | .agg parts => uptoBulkAll parts + 1
  | .iface _ d => uptoBulk d + 1
  | .map entries => uptoBulkEntries entries + 1
  | .held _ => 1
def uptoBulkAll {H : Type} : List (DataW H) → Nat
  | [] => 0
  | d :: r => uptoBulk d + uptoBulkAll r
def uptoBulkEntries {H : Type} : List (Lit × DataW H) → Nat
  | [] => 0
  | x :: r => uptoBulkEntry x + uptoBulkEntries r
def uptoBulkEntry {H : Type} : Lit × DataW H → Nat
  | (.string bytes, d) => bytes.length + uptoBulk d + 1
  | (_, d) => uptoBulk d + 1
 end
def uptoSmall : (H : Type) → List (DataW H) → Bool := fun _ ds => decide (uptoBulkAll ds ≤ 1048576)
def OpenSpec.upto (s : _root_.Go.ChangeSpec) : _root_.Go.OpenSpec := { _root_.Go.OpenSpec.ofChange s with cond := some uptoSmall }

/-- 'shuttlelaw32.SpectrumCounts', WHERE WHAT IT READS IS OF BULK AT MOST 1048576: true; the input reads as it did. -/
def spectrumCountsUptoRow : OpenClaim := { program := "ytijpnlmejphfhaadoor", sum := "2f1619d473b6c3a31a09fa8dfe06beeb2476a88547cf88f00b79a151b52ce585", func := "shuttle/shuttlelaw32.SpectrumCounts", spec := "spectrumCounts", unfollowed := true, recurses := true, named := ["shuttle/conv.taps"], plainKeys := false, apart := false, laid := [("shuttle/conv.taps", laid_shuttle_conv_taps)], narrowed := true }
def SpectrumCountsUptoSaid : Prop := spectrumCountsUptoRow.holds Tryd.pinned (OpenSpec.upto spectrumCountsSpec)

/-- 'shuttlelaw32.SpectrumLeast', WHERE WHAT IT READS IS OF BULK AT MOST 1048576: true; the input reads as it did. -/
def spectrumLeastUptoRow : OpenClaim := { program := "ytijpnlmejphfhaadoor", sum := "2f1619d473b6c3a31a09fa8dfe06beeb2476a88547cf88f00b79a151b52ce585", func := "shuttle/shuttlelaw32.SpectrumLeast", spec := "spectrumLeast", unfollowed := true, recurses := true, named := ["shuttle/conv.taps"], plainKeys := false, apart := false, laid := [("shuttle/conv.taps", laid_shuttle_conv_taps)], narrowed := true }
def SpectrumLeastUptoSaid : Prop := spectrumLeastUptoRow.holds Tryd.pinned (OpenSpec.upto spectrumLeastSpec)

/-- 'shuttlelaw32.SpectrumFirst', WHERE WHAT IT READS IS OF BULK AT MOST 1048576: true; the input reads as it did. -/
def spectrumFirstUptoRow : OpenClaim := { program := "ytijpnlmejphfhaadoor", sum := "2f1619d473b6c3a31a09fa8dfe06beeb2476a88547cf88f00b79a151b52ce585", func := "shuttle/shuttlelaw32.SpectrumFirst", spec := "spectrumFirst", unfollowed := true, recurses := true, named := ["shuttle/conv.taps"], plainKeys := false, apart := false, laid := [("shuttle/conv.taps", laid_shuttle_conv_taps)], narrowed := true }
def SpectrumFirstUptoSaid : Prop := spectrumFirstUptoRow.holds Tryd.pinned (OpenSpec.upto spectrumFirstSpec)

/-- 'shuttlelaw32.SpectrumAll', WHERE WHAT IT READS IS OF BULK AT MOST 1048576: true; the input reads as it did. -/
def spectrumAllUptoRow : OpenClaim := { program := "ytijpnlmejphfhaadoor", sum := "2f1619d473b6c3a31a09fa8dfe06beeb2476a88547cf88f00b79a151b52ce585", func := "shuttle/shuttlelaw32.SpectrumAll", spec := "spectrumAll", unfollowed := true, recurses := true, named := ["shuttle/conv.taps"], plainKeys := false, apart := false, laid := [("shuttle/conv.taps", laid_shuttle_conv_taps)], narrowed := true }
def SpectrumAllUptoSaid : Prop := spectrumAllUptoRow.holds Tryd.pinned (OpenSpec.upto spectrumAllSpec)

/-- 'shuttlelaw12.DistanceHolds', WHERE WHAT IT READS IS OF BULK AT MOST 1048576: true; the input reads as it did. -/
def distanceHoldsUptoRow : OpenClaim := { program := "ytijpnlmejphfhaadoor", sum := "2f1619d473b6c3a31a09fa8dfe06beeb2476a88547cf88f00b79a151b52ce585", func := "shuttle/shuttlelaw12.DistanceHolds", spec := "distanceHolds", unfollowed := true, recurses := true, named := ["shuttle/conv.taps"], plainKeys := false, apart := false, laid := [("shuttle/conv.taps", laid_shuttle_conv_taps)], narrowed := true }
def DistanceHoldsUptoSaid : Prop := distanceHoldsUptoRow.holds Tryd.pinned (OpenSpec.upto distanceHoldsSpec)

/-- 'shuttlelaw12.DistanceGrows', WHERE WHAT IT READS IS OF BULK AT MOST 1048576: true; the input reads as it did. -/
def distanceGrowsUptoRow : OpenClaim := { program := "ytijpnlmejphfhaadoor", sum := "2f1619d473b6c3a31a09fa8dfe06beeb2476a88547cf88f00b79a151b52ce585", func := "shuttle/shuttlelaw12.DistanceGrows", spec := "distanceGrows", unfollowed := true, recurses := true, named := ["shuttle/conv.taps"], plainKeys := false, apart := false, laid := [("shuttle/conv.taps", laid_shuttle_conv_taps)], narrowed := true }
def DistanceGrowsUptoSaid : Prop := distanceGrowsUptoRow.holds Tryd.pinned (OpenSpec.upto distanceGrowsSpec)

/-- 'shuttlelaw12.DistanceTurns', WHERE WHAT IT READS IS OF BULK AT MOST 1048576: true; the input reads as it did. -/
def distanceTurnsUptoRow : OpenClaim := { program := "ytijpnlmejphfhaadoor", sum := "2f1619d473b6c3a31a09fa8dfe06beeb2476a88547cf88f00b79a151b52ce585", func := "shuttle/shuttlelaw12.DistanceTurns", spec := "distanceTurns", unfollowed := true, recurses := true, named := ["shuttle/conv.taps"], plainKeys := false, apart := false, laid := [("shuttle/conv.taps", laid_shuttle_conv_taps)], narrowed := true }
def DistanceTurnsUptoSaid : Prop := distanceTurnsUptoRow.holds Tryd.pinned (OpenSpec.upto distanceTurnsSpec)

/-- 'shuttlelaw12.DistanceLeast', WHERE WHAT IT READS IS OF BULK AT MOST 1048576: true; the input reads as it did. -/
def distanceLeastUptoRow : OpenClaim := { program := "ytijpnlmejphfhaadoor", sum := "2f1619d473b6c3a31a09fa8dfe06beeb2476a88547cf88f00b79a151b52ce585", func := "shuttle/shuttlelaw12.DistanceLeast", spec := "distanceLeast", unfollowed := true, recurses := true, named := ["shuttle/conv.taps"], plainKeys := false, apart := false, laid := [("shuttle/conv.taps", laid_shuttle_conv_taps)], narrowed := true }
def DistanceLeastUptoSaid : Prop := distanceLeastUptoRow.holds Tryd.pinned (OpenSpec.upto distanceLeastSpec)

end Rows
end Go.Proofs.YtijpnlmejphfhaaDoor
