/-
  DERIVED. GIVEN WITH THE SEED: THE CARDS: each row of YtknanbnjbilciaaGreatDoorRows.lean that lists a variable, with what it lists TIED to the program's text (the seventh form; the later family's looks); each row that meets fmt, with fmt's text TOLD by the authors' own Lean function (tested against real Go, not proved from fmt's source: count such statements apart). THE CARD IS WHAT COUNTS. Prove the row's statement (the work); the ties are given (YtknanbnjbilciaaGreatDoorTie.lean); close each card by the builder's one call (the guide's Derived/Test/ToyasCard.lean, 'card_holds'). Laid BY PROGRAM, IN A SANDBOX (cutbox-door.mjs). By AI agents, Wed Nov 11 2026. No macro, syntax, notation, axiom, sorry.
-/
import Derived.Test.YtknanbnjbilciaaGreatDoorRows
import GoSem.ClaimSeven
namespace Go.Proofs.YtknanbnjbilciaaGreatDoor
namespace Rows

/-- THE TIED CARD OF 'shuttletop.ShuttlePools'. -/
def shuttlePoolsCard : Claim7 := { stood := { row := shuttlePoolsRow, standIns := [], harness := (true, "a502af5d5be2e4bb88d263063ac2108da8bdcd45db5cb3654e8116d730ec3141"), looks := true }, kinds := [], alts := [], laidByText := true, laidKinds := [.handle, .data], laidTests := true, laidLooks := .later }
def ShuttlePoolsCardSaid : Prop := Claim7.holds Tryz.pinned (.plain (OpenSpec.ofChange shuttlePoolsSpec)) shuttlePoolsCard

/-- THE SECOND FORM's CARD OF 'shuttletop.ShuttlePools'. -/
def shuttlePoolsUptoCard : Claim7 := { stood := { row := shuttlePoolsUptoRow, standIns := [], harness := (true, "a502af5d5be2e4bb88d263063ac2108da8bdcd45db5cb3654e8116d730ec3141"), looks := true }, kinds := [], alts := [], laidByText := true, laidKinds := [.handle, .data], laidTests := true, laidLooks := .later }
def ShuttlePoolsUptoCardSaid : Prop := Claim7.holds Tryz.pinned (.plain (OpenSpec.upto shuttlePoolsSpec)) shuttlePoolsUptoCard
end Rows
end Go.Proofs.YtknanbnjbilciaaGreatDoor
