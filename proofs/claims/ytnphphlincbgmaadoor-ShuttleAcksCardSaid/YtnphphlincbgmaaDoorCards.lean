/-
  DERIVED. GIVEN WITH THE SEED: THE CARDS: each row of YtnphphlincbgmaaDoorRows.lean that lists a variable, with what it lists TIED to the program's text (the seventh form; the later family's looks); each row that meets fmt, with fmt's text TOLD by the authors' own Lean function (tested against real Go, not proved from fmt's source: count such statements apart). THE CARD IS WHAT COUNTS. Prove the row's statement (the work); the ties are given (YtnphphlincbgmaaDoorTie.lean); close each card by the builder's one call (the guide's Derived/Test/ToyasCard.lean, 'card_holds'). Laid BY PROGRAM, IN A SANDBOX (cutbox-door.mjs). By AI agents, Wed Nov 11 2026. No macro, syntax, notation, axiom, sorry.
-/
import Derived.Test.YtnphphlincbgmaaDoorRows
import GoSem.ClaimSeven
namespace Go.Proofs.YtnphphlincbgmaaDoor
namespace Rows

/-- THE TIED CARD OF 'shuttletop.ShuttleAcks'. -/
def shuttleAcksCard : Claim7 := { stood := { row := shuttleAcksRow, standIns := [], harness := (true, "f54c0ba50a1c626b87049a8eeab9cbed9bae110b6158107fb7f20ae5f67c70da"), looks := true }, kinds := [], alts := [], laidByText := true, laidKinds := [.handle], laidTests := true, laidLooks := .later }
def ShuttleAcksCardSaid : Prop := Claim7.holds Tryd.pinned (.plain (OpenSpec.ofChange shuttleAcksSpec)) shuttleAcksCard

/-- THE SECOND FORM's CARD OF 'shuttletop.ShuttleAcks'. -/
def shuttleAcksUptoCard : Claim7 := { stood := { row := shuttleAcksUptoRow, standIns := [], harness := (true, "f54c0ba50a1c626b87049a8eeab9cbed9bae110b6158107fb7f20ae5f67c70da"), looks := true }, kinds := [], alts := [], laidByText := true, laidKinds := [.handle], laidTests := true, laidLooks := .later }
def ShuttleAcksUptoCardSaid : Prop := Claim7.holds Tryd.pinned (.plain (OpenSpec.upto shuttleAcksSpec)) shuttleAcksUptoCard
end Rows
end Go.Proofs.YtnphphlincbgmaaDoor
