/-
  NARROWER THAN 'FOR EVERY INPUT', by the rows' own cells (each row's printed sentence says how): ShuttleHands: calm, laid · ShuttleRound: calm, laid.
  DERIVED. THE GIVEN ROWS OF THIS SEAT. 2 by the template 'for every input the law returns true; each argument reads behind the call as it read before'; 0 by the template 'total and deterministic' (their statements: YtajiggmeappfaaaGreatDoorTotals.lean).
  GIVEN WITH THE SEED: the statements are not yours to turn. If you find one false, say at which input.
  Laid BY PROGRAM, IN A SANDBOX (cutbox-rows.mjs): the forced cells as the released guide's own fill.sh prints them over the translation a5599c8d4dc3b8e9… (all of the seat's roots in one cut). By AI agents, Wed Nov 11 2026. No macro, syntax, notation, axiom, sorry.
-/
import Derived.Test.YtajiggmeappfaaaGreatDoorChecked
import GoSem.Claim
import GoSem.ClaimJoined
import GoSem.ClaimMapViews
import Derived.JoinedTies
import Derived.KernelRfl
namespace Go.Proofs.YtajiggmeappfaaaGreatDoor
/- THE CELL 'sum', in the pinned program and in every row, IS THE sha256 OF THE DUMP (.gsa) THAT YtajiggmeappfaaaGreatDoorProg.lean LOADS. Nothing in Lean hashes anything: it is a label: what it is worth is what the hold of that sum in a sandbox is worth. -/
noncomputable def Tryz.pinned : Pinned := { name := "ytajiggmeappfaaagreatdoor", sum := "a5599c8d4dc3b8e92c009ab5ba87d8fac804803543dcb5ab9a42f465f5a79e56", checked := Tryz.checked }
namespace Rows
def none {H : Type} : Left H := { results := [], args := [] }

/- WHAT THE LISTED PACKAGE-LEVEL VARIABLES READ AS WHEN THE CALL BEGINS. Each datum BY PROGRAM (the guide's laid-datum.mjs) off the statement by which the dump's own 'gosem.cut.vars' lays the variable. In a bare row this is a premise. The card (YtajiggmeappfaaaGreatDoorCards.lean) ties it to the program's text. -/
def laid_errors_errorType {H : Type} : DataW H := .iface "internal/reflectlite.rtype" (.agg [.ptr (.lit (.string [101, 114, 114, 111, 114]))])
def laid_shuttle_conv_taps {H : Type} : DataW H := .agg [.lit (.int .u64 79), .lit (.int .u64 87), .lit (.int .u64 109), .lit (.int .u64 121)]

/-- 'shuttletop.ShuttleHands': WHATEVER THE INPUT: true; the input reads as it did. -/
def shuttleHandsSpec : ChangeSpec := { name := "shuttleHands", fn := fun _ => fun
  | [d1, d2, d3] => { results := [.lit (.bool true)], args := [d1, d2, d3] }
  | _ => none }
def shuttleHandsRow : OpenClaim := { program := "ytajiggmeappfaaagreatdoor", sum := "a5599c8d4dc3b8e92c009ab5ba87d8fac804803543dcb5ab9a42f465f5a79e56", func := "shuttle/shuttletop.ShuttleHands", spec := "shuttleHands", inPlace := ["internal/reflectlite.TypeOf", "internal/reflectlite.ValueOf", "(internal/reflectlite.Value).Type", "(internal/reflectlite.Value).IsNil", "(internal/reflectlite.Value).Elem", "(internal/reflectlite.Value).Set"], unfollowed := true, recurses := true, named := ["shuttle/conv.taps", "shuttle/frame.errEnd", "errors.errorType"], apart := false, calm := true, outside := [.timePasses], laid := [("errors.errorType", laid_errors_errorType), ("shuttle/conv.taps", laid_shuttle_conv_taps)] }
def ShuttleHandsSaid : Prop := shuttleHandsRow.holds Tryz.pinned (OpenSpec.ofChange shuttleHandsSpec)

/-- ITS FALSE NEIGHBOUR: 'it returns false'. Refute it at one input. -/
def shuttleHandsWrong : ChangeSpec := { name := "shuttleHands", fn := fun _ => fun
  | [d1, d2, d3] => { results := [.lit (.bool false)], args := [d1, d2, d3] }
  | _ => none }
def ShuttleHandsWrongFalsely : Prop := shuttleHandsRow.holds Tryz.pinned (OpenSpec.ofChange shuttleHandsWrong)

/-- 'shuttletop.ShuttleRound': WHATEVER THE INPUT: true; the input reads as it did. -/
def shuttleRoundSpec : ChangeSpec := { name := "shuttleRound", fn := fun _ => fun
  | [d1, d2, d3] => { results := [.lit (.bool true)], args := [d1, d2, d3] }
  | _ => none }
def shuttleRoundRow : OpenClaim := { program := "ytajiggmeappfaaagreatdoor", sum := "a5599c8d4dc3b8e92c009ab5ba87d8fac804803543dcb5ab9a42f465f5a79e56", func := "shuttle/shuttletop.ShuttleRound", spec := "shuttleRound", inPlace := ["internal/reflectlite.TypeOf", "internal/reflectlite.ValueOf", "(internal/reflectlite.Value).Type", "(internal/reflectlite.Value).IsNil", "(internal/reflectlite.Value).Elem", "(internal/reflectlite.Value).Set"], unfollowed := true, recurses := true, named := ["shuttle/conv.taps", "shuttle/frame.errEnd", "errors.errorType"], apart := false, calm := true, outside := [.timePasses], laid := [("errors.errorType", laid_errors_errorType), ("shuttle/conv.taps", laid_shuttle_conv_taps)] }
def ShuttleRoundSaid : Prop := shuttleRoundRow.holds Tryz.pinned (OpenSpec.ofChange shuttleRoundSpec)

/-- ITS FALSE NEIGHBOUR: 'it returns false'. Refute it at one input. -/
def shuttleRoundWrong : ChangeSpec := { name := "shuttleRound", fn := fun _ => fun
  | [d1, d2, d3] => { results := [.lit (.bool false)], args := [d1, d2, d3] }
  | _ => none }
def ShuttleRoundWrongFalsely : Prop := shuttleRoundRow.holds Tryz.pinned (OpenSpec.ofChange shuttleRoundWrong)

end Rows
end Go.Proofs.YtajiggmeappfaaaGreatDoor
