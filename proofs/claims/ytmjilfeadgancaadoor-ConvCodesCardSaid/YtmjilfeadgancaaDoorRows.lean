/-
  NARROWER THAN 'FOR EVERY INPUT', by the rows' own cells (each row's printed sentence says how): ConvSteps: laid · ConvCodes: laid · ConvAdds: laid · ConvAlone: laid · ConvLate: laid.
  DERIVED. THE GIVEN ROWS OF THIS SEAT. 5 by the template 'for every input the law returns true; each argument reads behind the call as it read before'; 0 by the template 'total and deterministic' (their statements: YtmjilfeadgancaaDoorTotals.lean).
  GIVEN WITH THE SEED: the statements are not yours to turn. If you find one false, say at which input.
  Laid BY PROGRAM, IN A SANDBOX (cutbox-rows.mjs): the forced cells as the released guide's own fill.sh prints them over the translation d6b4c1c7edfef29d… (all of the seat's roots in one cut). By AI agents, Wed Nov 11 2026. No macro, syntax, notation, axiom, sorry.
-/
import Derived.Test.YtmjilfeadgancaaDoorChecked
import GoSem.Claim
import GoSem.ClaimJoined
import GoSem.ClaimMapViews
import Derived.JoinedTies
import Derived.KernelRfl
namespace Go.Proofs.YtmjilfeadgancaaDoor
/- THE CELL 'sum', in the pinned program and in every row, IS THE sha256 OF THE DUMP (.gsa) THAT YtmjilfeadgancaaDoorProg.lean LOADS. Nothing in Lean hashes anything: it is a label: what it is worth is what the hold of that sum in a sandbox is worth. -/
noncomputable def Tryd.pinned : Pinned := { name := "ytmjilfeadgancaadoor", sum := "d6b4c1c7edfef29d584d2006d997fcdaec857dc47c671062d1ecd6ca3d81c419", checked := Tryd.checked }
namespace Rows
def none {H : Type} : Left H := { results := [], args := [] }

/- WHAT THE LISTED PACKAGE-LEVEL VARIABLES READ AS WHEN THE CALL BEGINS. Each datum BY PROGRAM (the guide's laid-datum.mjs) off the statement by which the dump's own 'gosem.cut.vars' lays the variable. In a bare row this is a premise. The card (YtmjilfeadgancaaDoorCards.lean) ties it to the program's text. -/
def laid_shuttle_conv_taps {H : Type} : DataW H := .agg [.lit (.int .u64 79), .lit (.int .u64 87), .lit (.int .u64 109), .lit (.int .u64 121)]

/-- 'shuttlelaw06.ConvSteps': WHATEVER THE INPUT: true; the input reads as it did. -/
def convStepsSpec : ChangeSpec := { name := "convSteps", fn := fun _ => fun
  | [d1, d2, d3] => { results := [.lit (.bool true)], args := [d1, d2, d3] }
  | _ => none }
def convStepsRow : OpenClaim := { program := "ytmjilfeadgancaadoor", sum := "d6b4c1c7edfef29d584d2006d997fcdaec857dc47c671062d1ecd6ca3d81c419", func := "shuttle/shuttlelaw06.ConvSteps", spec := "convSteps", named := ["shuttle/conv.taps"], apart := false, laid := [("shuttle/conv.taps", laid_shuttle_conv_taps)] }
def ConvStepsSaid : Prop := convStepsRow.holds Tryd.pinned (OpenSpec.ofChange convStepsSpec)

/-- ITS FALSE NEIGHBOUR: 'it returns false'. Refute it at one input. -/
def convStepsWrong : ChangeSpec := { name := "convSteps", fn := fun _ => fun
  | [d1, d2, d3] => { results := [.lit (.bool false)], args := [d1, d2, d3] }
  | _ => none }
def ConvStepsWrongFalsely : Prop := convStepsRow.holds Tryd.pinned (OpenSpec.ofChange convStepsWrong)

/-- 'shuttlelaw06.ConvCodes': WHATEVER THE INPUT: true; the input reads as it did. -/
def convCodesSpec : ChangeSpec := { name := "convCodes", fn := fun _ => fun
  | [d] => { results := [.lit (.bool true)], args := [d] }
  | _ => none }
def convCodesRow : OpenClaim := { program := "ytmjilfeadgancaadoor", sum := "d6b4c1c7edfef29d584d2006d997fcdaec857dc47c671062d1ecd6ca3d81c419", func := "shuttle/shuttlelaw06.ConvCodes", spec := "convCodes", unfollowed := true, recurses := true, named := ["shuttle/conv.taps"], apart := false, laid := [("shuttle/conv.taps", laid_shuttle_conv_taps)] }
def ConvCodesSaid : Prop := convCodesRow.holds Tryd.pinned (OpenSpec.ofChange convCodesSpec)

/-- ITS FALSE NEIGHBOUR: 'it returns false'. Refute it at one input. -/
def convCodesWrong : ChangeSpec := { name := "convCodes", fn := fun _ => fun
  | [d] => { results := [.lit (.bool false)], args := [d] }
  | _ => none }
def ConvCodesWrongFalsely : Prop := convCodesRow.holds Tryd.pinned (OpenSpec.ofChange convCodesWrong)

/-- 'shuttlelaw06.ConvAdds': WHATEVER THE INPUT: true; the input reads as it did. -/
def convAddsSpec : ChangeSpec := { name := "convAdds", fn := fun _ => fun
  | [d1, d2] => { results := [.lit (.bool true)], args := [d1, d2] }
  | _ => none }
def convAddsRow : OpenClaim := { program := "ytmjilfeadgancaadoor", sum := "d6b4c1c7edfef29d584d2006d997fcdaec857dc47c671062d1ecd6ca3d81c419", func := "shuttle/shuttlelaw06.ConvAdds", spec := "convAdds", unfollowed := true, recurses := true, named := ["shuttle/conv.taps"], apart := false, laid := [("shuttle/conv.taps", laid_shuttle_conv_taps)] }
def ConvAddsSaid : Prop := convAddsRow.holds Tryd.pinned (OpenSpec.ofChange convAddsSpec)

/-- ITS FALSE NEIGHBOUR: 'it returns false'. Refute it at one input. -/
def convAddsWrong : ChangeSpec := { name := "convAdds", fn := fun _ => fun
  | [d1, d2] => { results := [.lit (.bool false)], args := [d1, d2] }
  | _ => none }
def ConvAddsWrongFalsely : Prop := convAddsRow.holds Tryd.pinned (OpenSpec.ofChange convAddsWrong)

/-- 'shuttlelaw06.ConvAlone': WHATEVER THE INPUT: true; the input reads as it did. -/
def convAloneSpec : ChangeSpec := { name := "convAlone", fn := fun _ => fun
  | [d1, d2, d3] => { results := [.lit (.bool true)], args := [d1, d2, d3] }
  | _ => none }
def convAloneRow : OpenClaim := { program := "ytmjilfeadgancaadoor", sum := "d6b4c1c7edfef29d584d2006d997fcdaec857dc47c671062d1ecd6ca3d81c419", func := "shuttle/shuttlelaw06.ConvAlone", spec := "convAlone", unfollowed := true, recurses := true, named := ["shuttle/conv.taps"], apart := false, laid := [("shuttle/conv.taps", laid_shuttle_conv_taps)] }
def ConvAloneSaid : Prop := convAloneRow.holds Tryd.pinned (OpenSpec.ofChange convAloneSpec)

/-- ITS FALSE NEIGHBOUR: 'it returns false'. Refute it at one input. -/
def convAloneWrong : ChangeSpec := { name := "convAlone", fn := fun _ => fun
  | [d1, d2, d3] => { results := [.lit (.bool false)], args := [d1, d2, d3] }
  | _ => none }
def ConvAloneWrongFalsely : Prop := convAloneRow.holds Tryd.pinned (OpenSpec.ofChange convAloneWrong)

/-- 'shuttlelaw06.ConvLate': WHATEVER THE INPUT: true; the input reads as it did. -/
def convLateSpec : ChangeSpec := { name := "convLate", fn := fun _ => fun
  | [d1, d2] => { results := [.lit (.bool true)], args := [d1, d2] }
  | _ => none }
def convLateRow : OpenClaim := { program := "ytmjilfeadgancaadoor", sum := "d6b4c1c7edfef29d584d2006d997fcdaec857dc47c671062d1ecd6ca3d81c419", func := "shuttle/shuttlelaw06.ConvLate", spec := "convLate", unfollowed := true, recurses := true, named := ["shuttle/conv.taps"], apart := false, laid := [("shuttle/conv.taps", laid_shuttle_conv_taps)] }
def ConvLateSaid : Prop := convLateRow.holds Tryd.pinned (OpenSpec.ofChange convLateSpec)

/-- ITS FALSE NEIGHBOUR: 'it returns false'. Refute it at one input. -/
def convLateWrong : ChangeSpec := { name := "convLate", fn := fun _ => fun
  | [d1, d2] => { results := [.lit (.bool false)], args := [d1, d2] }
  | _ => none }
def ConvLateWrongFalsely : Prop := convLateRow.holds Tryd.pinned (OpenSpec.ofChange convLateWrong)

/- THE SECOND FORM. 'bulk': how many values and letters a reading holds, each counted each time it is reached (what is shared counts as often as it is met; a slice's spare places count too). A statement '..UptoSaid' is the law's where the arguments, and the package variables that the reading takes, are together of bulk at most 1048576: NARROWER than '..Said'. Prove '..Said' where nothing that the law and all that it calls make is longer than what came in: it says more and counts as full. Else prove '..UptoSaid'. A law counts once. -/
mutual
def uptoBulk {H : Type} : DataW H → Nat
  | .lit (.string bytes) => bytes.length + 1
  | .lit _ => 1
  | .nil => 1
  | .ptr d => uptoBulk d + 1
  | .slice elems spare => uptoBulkAll elems + uptoBulkAll spare + 1
  | .agg parts => uptoBulkAll parts + 1
  | .iface _ d => uptoBulk d + 1
  | .map entries => uptoBulkEntries entries + 1
  | .held _ => 1
def uptoBulkAll {H : Type} : List (DataW H) → Nat
  | [] => 0
  | d :: r => uptoBulk d + uptoBulkAll r
def uptoBulkEntries {H : Type} : List (Lit × DataW H) → Nat
  | [] => 0
  | x :: r => uptoBulkEntry x + uptoBulkEntries r
def uptoBulkEntry {H : Type} : Lit × DataW H → Nat
  | (.string bytes, d) => bytes.length + uptoBulk d + 1
  | (_, d) => uptoBulk d + 1
 end
def uptoSmall : (H : Type) → List (DataW H) → Bool := fun _ ds => decide (uptoBulkAll ds ≤ 1048576)
def OpenSpec.upto (s : _root_.Go.ChangeSpec) : _root_.Go.OpenSpec := { _root_.Go.OpenSpec.ofChange s with cond := some uptoSmall }

/-- 'shuttlelaw06.ConvSteps', WHERE WHAT IT READS IS OF BULK AT MOST 1048576: true; the input reads as it did. -/
def convStepsUptoRow : OpenClaim := { program := "ytmjilfeadgancaadoor", sum := "d6b4c1c7edfef29d584d2006d997fcdaec857dc47c671062d1ecd6ca3d81c419", func := "shuttle/shuttlelaw06.ConvSteps", spec := "convSteps", named := ["shuttle/conv.taps"], apart := false, laid := [("shuttle/conv.taps", laid_shuttle_conv_taps)], narrowed := true }
def ConvStepsUptoSaid : Prop := convStepsUptoRow.holds Tryd.pinned (OpenSpec.upto convStepsSpec)

/-- 'shuttlelaw06.ConvCodes', WHERE WHAT IT READS IS OF BULK AT MOST 1048576: true; the input reads as it did. -/
def convCodesUptoRow : OpenClaim := { program := "ytmjilfeadgancaadoor", sum := "d6b4c1c7edfef29d584d2006d997fcdaec857dc47c671062d1ecd6ca3d81c419", func := "shuttle/shuttlelaw06.ConvCodes", spec := "convCodes", unfollowed := true, recurses := true, named := ["shuttle/conv.taps"], apart := false, laid := [("shuttle/conv.taps", laid_shuttle_conv_taps)], narrowed := true }
def ConvCodesUptoSaid : Prop := convCodesUptoRow.holds Tryd.pinned (OpenSpec.upto convCodesSpec)

/-- 'shuttlelaw06.ConvAdds', WHERE WHAT IT READS IS OF BULK AT MOST 1048576: true; the input reads as it did. -/
def convAddsUptoRow : OpenClaim := { program := "ytmjilfeadgancaadoor", sum := "d6b4c1c7edfef29d584d2006d997fcdaec857dc47c671062d1ecd6ca3d81c419", func := "shuttle/shuttlelaw06.ConvAdds", spec := "convAdds", unfollowed := true, recurses := true, named := ["shuttle/conv.taps"], apart := false, laid := [("shuttle/conv.taps", laid_shuttle_conv_taps)], narrowed := true }
def ConvAddsUptoSaid : Prop := convAddsUptoRow.holds Tryd.pinned (OpenSpec.upto convAddsSpec)

/-- 'shuttlelaw06.ConvAlone', WHERE WHAT IT READS IS OF BULK AT MOST 1048576: true; the input reads as it did. -/
def convAloneUptoRow : OpenClaim := { program := "ytmjilfeadgancaadoor", sum := "d6b4c1c7edfef29d584d2006d997fcdaec857dc47c671062d1ecd6ca3d81c419", func := "shuttle/shuttlelaw06.ConvAlone", spec := "convAlone", unfollowed := true, recurses := true, named := ["shuttle/conv.taps"], apart := false, laid := [("shuttle/conv.taps", laid_shuttle_conv_taps)], narrowed := true }
def ConvAloneUptoSaid : Prop := convAloneUptoRow.holds Tryd.pinned (OpenSpec.upto convAloneSpec)

/-- 'shuttlelaw06.ConvLate', WHERE WHAT IT READS IS OF BULK AT MOST 1048576: true; the input reads as it did. -/
def convLateUptoRow : OpenClaim := { program := "ytmjilfeadgancaadoor", sum := "d6b4c1c7edfef29d584d2006d997fcdaec857dc47c671062d1ecd6ca3d81c419", func := "shuttle/shuttlelaw06.ConvLate", spec := "convLate", unfollowed := true, recurses := true, named := ["shuttle/conv.taps"], apart := false, laid := [("shuttle/conv.taps", laid_shuttle_conv_taps)], narrowed := true }
def ConvLateUptoSaid : Prop := convLateUptoRow.holds Tryd.pinned (OpenSpec.upto convLateSpec)

end Rows
end Go.Proofs.YtmjilfeadgancaaDoor
