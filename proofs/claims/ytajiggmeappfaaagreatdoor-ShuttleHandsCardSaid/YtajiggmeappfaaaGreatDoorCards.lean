/-
  DERIVED. GIVEN WITH THE SEED: THE CARDS: each row of YtajiggmeappfaaaGreatDoorRows.lean that lists a variable, with what it lists TIED to the program's text (the seventh form; the later family's looks); each row that meets fmt, with fmt's text TOLD by the authors' own Lean function (tested against real Go, not proved from fmt's source: count such statements apart). THE CARD IS WHAT COUNTS. Prove the row's statement (the work); the ties are given (YtajiggmeappfaaaGreatDoorTie.lean); close each card by the builder's one call (the guide's Derived/Test/ToyasCard.lean, 'card_holds'). Laid BY PROGRAM, IN A SANDBOX (cutbox-door.mjs). By AI agents, Wed Nov 11 2026. No macro, syntax, notation, axiom, sorry.
-/
import Derived.Test.YtajiggmeappfaaaGreatDoorRows
import GoSem.ClaimSeven
namespace Go.Proofs.YtajiggmeappfaaaGreatDoor
namespace Rows

/-- THE TIED CARD OF 'shuttletop.ShuttleHands'. -/
def shuttleHandsCard : Claim7 := { stood := { row := shuttleHandsRow, standIns := [], harness := (true, "935b7199b929dfb010f2b53209a542c2374c5fe42c24c406f5f617cc3355e6f2"), looks := true }, kinds := [], alts := [], laidByText := true, laidKinds := [.handle, .data], laidTests := true, laidLooks := .later }
def ShuttleHandsCardSaid : Prop := Claim7.holds Tryz.pinned (.plain (OpenSpec.ofChange shuttleHandsSpec)) shuttleHandsCard

/-- THE TIED CARD OF 'shuttletop.ShuttleRound'. -/
def shuttleRoundCard : Claim7 := { stood := { row := shuttleRoundRow, standIns := [], harness := (true, "935b7199b929dfb010f2b53209a542c2374c5fe42c24c406f5f617cc3355e6f2"), looks := true }, kinds := [], alts := [], laidByText := true, laidKinds := [.handle, .data], laidTests := true, laidLooks := .later }
def ShuttleRoundCardSaid : Prop := Claim7.holds Tryz.pinned (.plain (OpenSpec.ofChange shuttleRoundSpec)) shuttleRoundCard
end Rows
end Go.Proofs.YtajiggmeappfaaaGreatDoor
