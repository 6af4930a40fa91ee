/-
  NARROWER THAN 'FOR EVERY INPUT', by the rows' own cells (each row's printed sentence says how): TrellisEdges: laid · TrellisBack: laid · TrellisPaths: laid · VersionAlone: laid · VersionCodes: laid · VersionTurned: laid.
  DERIVED. THE GIVEN ROWS OF THIS SEAT. 6 by the template 'for every input the law returns true; each argument reads behind the call as it read before'; 0 by the template 'total and deterministic' (their statements: YtmajbcglpcagoaaDoorTotals.lean).
  GIVEN WITH THE SEED: the statements are not yours to turn. If you find one false, say at which input.
  Laid BY PROGRAM, IN A SANDBOX (cutbox-rows.mjs): the forced cells as the released guide's own fill.sh prints them over the translation c6143d425164a032… (all of the seat's roots in one cut). By AI agents, Wed Nov 11 2026. No macro, syntax, notation, axiom, sorry.
-/
import Derived.Test.YtmajbcglpcagoaaDoorChecked
import GoSem.Claim
import GoSem.ClaimJoined
import GoSem.ClaimMapViews
import Derived.JoinedTies
import Derived.KernelRfl
namespace Go.Proofs.YtmajbcglpcagoaaDoor
/- THE CELL 'sum', in the pinned program and in every row, IS THE sha256 OF THE DUMP (.gsa) THAT YtmajbcglpcagoaaDoorProg.lean LOADS. Nothing in Lean hashes anything: it is a label: what it is worth is what the hold of that sum in a sandbox is worth. -/
noncomputable def Tryd.pinned : Pinned := { name := "ytmajbcglpcagoaadoor", sum := "c6143d425164a0325e9f5bbad79f9f72c71edb1442a6078f7c470a7c30f33bec", checked := Tryd.checked }
namespace Rows
def none {H : Type} : Left H := { results := [], args := [] }

/- WHAT THE LISTED PACKAGE-LEVEL VARIABLES READ AS WHEN THE CALL BEGINS. Each datum BY PROGRAM (the guide's laid-datum.mjs) off the statement by which the dump's own 'gosem.cut.vars' lays the variable. In a bare row this is a premise. The card (YtmajbcglpcagoaaDoorCards.lean) ties it to the program's text. -/
def laid_shuttle_conv_taps {H : Type} : DataW H := .agg [.lit (.int .u64 79), .lit (.int .u64 87), .lit (.int .u64 109), .lit (.int .u64 121)]

/-- 'shuttlelaw07.TrellisEdges': WHATEVER THE INPUT: true; the input reads as it did. -/
def trellisEdgesSpec : ChangeSpec := { name := "trellisEdges", fn := fun _ => fun
  | [d] => { results := [.lit (.bool true)], args := [d] }
  | _ => none }
def trellisEdgesRow : OpenClaim := { program := "ytmajbcglpcagoaadoor", sum := "c6143d425164a0325e9f5bbad79f9f72c71edb1442a6078f7c470a7c30f33bec", func := "shuttle/shuttlelaw07.TrellisEdges", spec := "trellisEdges", named := ["shuttle/conv.taps"], apart := false, laid := [("shuttle/conv.taps", laid_shuttle_conv_taps)] }
def TrellisEdgesSaid : Prop := trellisEdgesRow.holds Tryd.pinned (OpenSpec.ofChange trellisEdgesSpec)

/-- ITS FALSE NEIGHBOUR: 'it returns false'. Refute it at one input. -/
def trellisEdgesWrong : ChangeSpec := { name := "trellisEdges", fn := fun _ => fun
  | [d] => { results := [.lit (.bool false)], args := [d] }
  | _ => none }
def TrellisEdgesWrongFalsely : Prop := trellisEdgesRow.holds Tryd.pinned (OpenSpec.ofChange trellisEdgesWrong)

/-- 'shuttlelaw07.TrellisBack': WHATEVER THE INPUT: true; the input reads as it did. -/
def trellisBackSpec : ChangeSpec := { name := "trellisBack", fn := fun _ => fun
  | [d] => { results := [.lit (.bool true)], args := [d] }
  | _ => none }
def trellisBackRow : OpenClaim := { program := "ytmajbcglpcagoaadoor", sum := "c6143d425164a0325e9f5bbad79f9f72c71edb1442a6078f7c470a7c30f33bec", func := "shuttle/shuttlelaw07.TrellisBack", spec := "trellisBack", named := ["shuttle/conv.taps"], apart := false, laid := [("shuttle/conv.taps", laid_shuttle_conv_taps)] }
def TrellisBackSaid : Prop := trellisBackRow.holds Tryd.pinned (OpenSpec.ofChange trellisBackSpec)

/-- ITS FALSE NEIGHBOUR: 'it returns false'. Refute it at one input. -/
def trellisBackWrong : ChangeSpec := { name := "trellisBack", fn := fun _ => fun
  | [d] => { results := [.lit (.bool false)], args := [d] }
  | _ => none }
def TrellisBackWrongFalsely : Prop := trellisBackRow.holds Tryd.pinned (OpenSpec.ofChange trellisBackWrong)

/-- 'shuttlelaw07.TrellisPaths': WHATEVER THE INPUT: true; the input reads as it did. -/
def trellisPathsSpec : ChangeSpec := { name := "trellisPaths", fn := fun _ => fun
  | [d] => { results := [.lit (.bool true)], args := [d] }
  | _ => none }
def trellisPathsRow : OpenClaim := { program := "ytmajbcglpcagoaadoor", sum := "c6143d425164a0325e9f5bbad79f9f72c71edb1442a6078f7c470a7c30f33bec", func := "shuttle/shuttlelaw07.TrellisPaths", spec := "trellisPaths", unfollowed := true, recurses := true, named := ["shuttle/conv.taps"], apart := false, laid := [("shuttle/conv.taps", laid_shuttle_conv_taps)] }
def TrellisPathsSaid : Prop := trellisPathsRow.holds Tryd.pinned (OpenSpec.ofChange trellisPathsSpec)

/-- ITS FALSE NEIGHBOUR: 'it returns false'. Refute it at one input. -/
def trellisPathsWrong : ChangeSpec := { name := "trellisPaths", fn := fun _ => fun
  | [d] => { results := [.lit (.bool false)], args := [d] }
  | _ => none }
def TrellisPathsWrongFalsely : Prop := trellisPathsRow.holds Tryd.pinned (OpenSpec.ofChange trellisPathsWrong)

/-- 'shuttlelaw11.VersionAlone': WHATEVER THE INPUT: true; the input reads as it did. -/
def versionAloneSpec : ChangeSpec := { name := "versionAlone", fn := fun _ => fun
  | [d1, d2] => { results := [.lit (.bool true)], args := [d1, d2] }
  | _ => none }
def versionAloneRow : OpenClaim := { program := "ytmajbcglpcagoaadoor", sum := "c6143d425164a0325e9f5bbad79f9f72c71edb1442a6078f7c470a7c30f33bec", func := "shuttle/shuttlelaw11.VersionAlone", spec := "versionAlone", unfollowed := true, recurses := true, named := ["shuttle/conv.taps"], apart := false, laid := [("shuttle/conv.taps", laid_shuttle_conv_taps)] }
def VersionAloneSaid : Prop := versionAloneRow.holds Tryd.pinned (OpenSpec.ofChange versionAloneSpec)

/-- ITS FALSE NEIGHBOUR: 'it returns false'. Refute it at one input. -/
def versionAloneWrong : ChangeSpec := { name := "versionAlone", fn := fun _ => fun
  | [d1, d2] => { results := [.lit (.bool false)], args := [d1, d2] }
  | _ => none }
def VersionAloneWrongFalsely : Prop := versionAloneRow.holds Tryd.pinned (OpenSpec.ofChange versionAloneWrong)

/-- 'shuttlelaw11.VersionCodes': WHATEVER THE INPUT: true; the input reads as it did. -/
def versionCodesSpec : ChangeSpec := { name := "versionCodes", fn := fun _ => fun
  | [d1, d2] => { results := [.lit (.bool true)], args := [d1, d2] }
  | _ => none }
def versionCodesRow : OpenClaim := { program := "ytmajbcglpcagoaadoor", sum := "c6143d425164a0325e9f5bbad79f9f72c71edb1442a6078f7c470a7c30f33bec", func := "shuttle/shuttlelaw11.VersionCodes", spec := "versionCodes", unfollowed := true, recurses := true, named := ["shuttle/conv.taps"], apart := false, laid := [("shuttle/conv.taps", laid_shuttle_conv_taps)] }
def VersionCodesSaid : Prop := versionCodesRow.holds Tryd.pinned (OpenSpec.ofChange versionCodesSpec)

/-- ITS FALSE NEIGHBOUR: 'it returns false'. Refute it at one input. -/
def versionCodesWrong : ChangeSpec := { name := "versionCodes", fn := fun _ => fun
  | [d1, d2] => { results := [.lit (.bool false)], args := [d1, d2] }
  | _ => none }
def VersionCodesWrongFalsely : Prop := versionCodesRow.holds Tryd.pinned (OpenSpec.ofChange versionCodesWrong)

/-- 'shuttlelaw11.VersionTurned': WHATEVER THE INPUT: true; the input reads as it did. -/
def versionTurnedSpec : ChangeSpec := { name := "versionTurned", fn := fun _ => fun
  | [d1, d2, d3] => { results := [.lit (.bool true)], args := [d1, d2, d3] }
  | _ => none }
def versionTurnedRow : OpenClaim := { program := "ytmajbcglpcagoaadoor", sum := "c6143d425164a0325e9f5bbad79f9f72c71edb1442a6078f7c470a7c30f33bec", func := "shuttle/shuttlelaw11.VersionTurned", spec := "versionTurned", unfollowed := true, recurses := true, named := ["shuttle/conv.taps"], apart := false, laid := [("shuttle/conv.taps", laid_shuttle_conv_taps)] }
def VersionTurnedSaid : Prop := versionTurnedRow.holds Tryd.pinned (OpenSpec.ofChange versionTurnedSpec)

/-- ITS FALSE NEIGHBOUR: 'it returns false'. Refute it at one input. -/
def versionTurnedWrong : ChangeSpec := { name := "versionTurned", fn := fun _ => fun
  | [d1, d2, d3] => { results := [.lit (.bool false)], args := [d1, d2, d3] }
  | _ => none }
def VersionTurnedWrongFalsely : Prop := versionTurnedRow.holds Tryd.pinned (OpenSpec.ofChange versionTurnedWrong)

/- THE SECOND FORM. 'bulk': how many values and letters a reading holds, each counted each time it is reached (what is shared counts as often as it is met; a slice's spare places count too). A statement '..UptoSaid' is the law's where the arguments, and the package variables that the reading takes, are together of bulk at most 1048576: NARROWER than '..Said'. Prove '..Said' where nothing that the law and all that it calls make is longer than what came in: it says more and counts as full. Else prove '..UptoSaid'. A law counts once. -/
mutual
def uptoBulk {H : Type} : DataW H → Nat
  | .lit (.string bytes) => bytes.length + 1
  | .lit _ => 1
  | .nil => 1
  | .ptr d => uptoBulk d + 1
  | .slice elems spare => uptoBulkAll elems + uptoBulkAll spare + 1
  | .agg parts => uptoBulkAll parts + 1
  | .iface _ d => uptoBulk d + 1
  | .map entries => uptoBulkEntries entries + 1
  | .held _ => 1
def uptoBulkAll {H : Type} : List (DataW H) → Nat
  | [] => 0
  | d :: r => uptoBulk d + uptoBulkAll r
def uptoBulkEntries {H : Type} : List (Lit × DataW H) → Nat
  | [] => 0
  | x :: r => uptoBulkEntry x + uptoBulkEntries r
def uptoBulkEntry {H : Type} : Lit × DataW H → Nat
  | (.string bytes, d) => bytes.length + uptoBulk d + 1
  | (_, d) => uptoBulk d + 1
 end
def uptoSmall : (H : Type) → List (DataW H) → Bool := fun _ ds => decide (uptoBulkAll ds ≤ 1048576)
def OpenSpec.upto (s : _root_.Go.ChangeSpec) : _root_.Go.OpenSpec := { _root_.Go.OpenSpec.ofChange s with cond := some uptoSmall }

/-- 'shuttlelaw07.TrellisEdges', WHERE WHAT IT READS IS OF BULK AT MOST 1048576: true; the input reads as it did. -/
def trellisEdgesUptoRow : OpenClaim := { program := "ytmajbcglpcagoaadoor", sum := "c6143d425164a0325e9f5bbad79f9f72c71edb1442a6078f7c470a7c30f33bec", func := "shuttle/shuttlelaw07.TrellisEdges", spec := "trellisEdges", named := ["shuttle/conv.taps"], apart := false, laid := [("shuttle/conv.taps", laid_shuttle_conv_taps)], narrowed := true }
def TrellisEdgesUptoSaid : Prop := trellisEdgesUptoRow.holds Tryd.pinned (OpenSpec.upto trellisEdgesSpec)

/-- 'shuttlelaw07.TrellisBack', WHERE WHAT IT READS IS OF BULK AT MOST 1048576: true; the input reads as it did. -/
def trellisBackUptoRow : OpenClaim := { program := "ytmajbcglpcagoaadoor", sum := "c6143d425164a0325e9f5bbad79f9f72c71edb1442a6078f7c470a7c30f33bec", func := "shuttle/shuttlelaw07.TrellisBack", spec := "trellisBack", named := ["shuttle/conv.taps"], apart := false, laid := [("shuttle/conv.taps", laid_shuttle_conv_taps)], narrowed := true }
def TrellisBackUptoSaid : Prop := trellisBackUptoRow.holds Tryd.pinned (OpenSpec.upto trellisBackSpec)

/-- 'shuttlelaw07.TrellisPaths', WHERE WHAT IT READS IS OF BULK AT MOST 1048576: true; the input reads as it did. -/
def trellisPathsUptoRow : OpenClaim := { program := "ytmajbcglpcagoaadoor", sum := "c6143d425164a0325e9f5bbad79f9f72c71edb1442a6078f7c470a7c30f33bec", func := "shuttle/shuttlelaw07.TrellisPaths", spec := "trellisPaths", unfollowed := true, recurses := true, named := ["shuttle/conv.taps"], apart := false, laid := [("shuttle/conv.taps", laid_shuttle_conv_taps)], narrowed := true }
def TrellisPathsUptoSaid : Prop := trellisPathsUptoRow.holds Tryd.pinned (OpenSpec.upto trellisPathsSpec)

/-- 'shuttlelaw11.VersionAlone', WHERE WHAT IT READS IS OF BULK AT MOST 1048576: true; the input reads as it did. -/
def versionAloneUptoRow : OpenClaim := { program := "ytmajbcglpcagoaadoor", sum := "c6143d425164a0325e9f5bbad79f9f72c71edb1442a6078f7c470a7c30f33bec", func := "shuttle/shuttlelaw11.VersionAlone", spec := "versionAlone", unfollowed := true, recurses := true, named := ["shuttle/conv.taps"], apart := false, laid := [("shuttle/conv.taps", laid_shuttle_conv_taps)], narrowed := true }
def VersionAloneUptoSaid : Prop := versionAloneUptoRow.holds Tryd.pinned (OpenSpec.upto versionAloneSpec)

/-- 'shuttlelaw11.VersionCodes', WHERE WHAT IT READS IS OF BULK AT MOST 1048576: true; the input reads as it did. -/
def versionCodesUptoRow : OpenClaim := { program := "ytmajbcglpcagoaadoor", sum := "c6143d425164a0325e9f5bbad79f9f72c71edb1442a6078f7c470a7c30f33bec", func := "shuttle/shuttlelaw11.VersionCodes", spec := "versionCodes", unfollowed := true, recurses := true, named := ["shuttle/conv.taps"], apart := false, laid := [("shuttle/conv.taps", laid_shuttle_conv_taps)], narrowed := true }
def VersionCodesUptoSaid : Prop := versionCodesUptoRow.holds Tryd.pinned (OpenSpec.upto versionCodesSpec)

/-- 'shuttlelaw11.VersionTurned', WHERE WHAT IT READS IS OF BULK AT MOST 1048576: true; the input reads as it did. -/
def versionTurnedUptoRow : OpenClaim := { program := "ytmajbcglpcagoaadoor", sum := "c6143d425164a0325e9f5bbad79f9f72c71edb1442a6078f7c470a7c30f33bec", func := "shuttle/shuttlelaw11.VersionTurned", spec := "versionTurned", unfollowed := true, recurses := true, named := ["shuttle/conv.taps"], apart := false, laid := [("shuttle/conv.taps", laid_shuttle_conv_taps)], narrowed := true }
def VersionTurnedUptoSaid : Prop := versionTurnedUptoRow.holds Tryd.pinned (OpenSpec.upto versionTurnedSpec)

end Rows
end Go.Proofs.YtmajbcglpcagoaaDoor
