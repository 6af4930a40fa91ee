/-
  DERIVED. GIVEN WITH THE SEED: THE CARDS: each row of YteileaajmnbmpaaDoorRows.lean that lists a variable, with what it lists TIED to the program's text (the seventh form; the later family's looks); each row that meets fmt, with fmt's text TOLD by the authors' own Lean function (tested against real Go, not proved from fmt's source: count such statements apart). THE CARD IS WHAT COUNTS. Prove the row's statement (the work); the ties are given (YteileaajmnbmpaaDoorTie.lean); close each card by the builder's one call (the guide's Derived/Test/ToyasCard.lean, 'card_holds'). Laid BY PROGRAM, IN A SANDBOX (cutbox-door.mjs). By AI agents, Wed Nov 11 2026. No macro, syntax, notation, axiom, sorry.
-/
import Derived.Test.YteileaajmnbmpaaDoorRows
import GoSem.ClaimSeven
namespace Go.Proofs.YteileaajmnbmpaaDoor
namespace Rows

/-- THE TIED CARD OF 'shuttletop.ShuttleMends'. -/
def shuttleMendsCard : Claim7 := { stood := { row := shuttleMendsRow, standIns := [], harness := (true, "5f9ecdb3b7c43d61254d3a17404fff3193c17c8621efd1f9244adb0445fce06f"), looks := true }, kinds := [], alts := [], laidByText := true, laidKinds := [.data], laidTests := true, laidLooks := .later }
def ShuttleMendsCardSaid : Prop := Claim7.holds Tryd.pinned (.plain (OpenSpec.ofChange shuttleMendsSpec)) shuttleMendsCard

/-- THE SECOND FORM's CARD OF 'shuttletop.ShuttleMends'. -/
def shuttleMendsUptoCard : Claim7 := { stood := { row := shuttleMendsUptoRow, standIns := [], harness := (true, "5f9ecdb3b7c43d61254d3a17404fff3193c17c8621efd1f9244adb0445fce06f"), looks := true }, kinds := [], alts := [], laidByText := true, laidKinds := [.data], laidTests := true, laidLooks := .later }
def ShuttleMendsUptoCardSaid : Prop := Claim7.holds Tryd.pinned (.plain (OpenSpec.upto shuttleMendsSpec)) shuttleMendsUptoCard
end Rows
end Go.Proofs.YteileaajmnbmpaaDoor
