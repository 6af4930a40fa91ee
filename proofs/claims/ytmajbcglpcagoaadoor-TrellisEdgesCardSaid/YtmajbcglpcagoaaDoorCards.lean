/-
  DERIVED. GIVEN WITH THE SEED: THE CARDS: each row of YtmajbcglpcagoaaDoorRows.lean that lists a variable, with what it lists TIED to the program's text (the seventh form; the later family's looks); each row that meets fmt, with fmt's text TOLD by the authors' own Lean function (tested against real Go, not proved from fmt's source: count such statements apart). THE CARD IS WHAT COUNTS. Prove the row's statement (the work); the ties are given (YtmajbcglpcagoaaDoorTie.lean); close each card by the builder's one call (the guide's Derived/Test/ToyasCard.lean, 'card_holds'). Laid BY PROGRAM, IN A SANDBOX (cutbox-door.mjs). By AI agents, Wed Nov 11 2026. No macro, syntax, notation, axiom, sorry.
-/
import Derived.Test.YtmajbcglpcagoaaDoorRows
import GoSem.ClaimSeven
namespace Go.Proofs.YtmajbcglpcagoaaDoor
namespace Rows

/-- THE TIED CARD OF 'shuttlelaw07.TrellisEdges'. -/
def trellisEdgesCard : Claim7 := { stood := { row := trellisEdgesRow, standIns := [], harness := (true, "373e87419b29adaae443cb72c1d89a581e092f41f805755742b24d7df304a0a8"), looks := false }, kinds := [], alts := [], laidByText := true, laidKinds := [.data], laidTests := true, laidLooks := .later }
def TrellisEdgesCardSaid : Prop := Claim7.holds Tryd.pinned (.plain (OpenSpec.ofChange trellisEdgesSpec)) trellisEdgesCard

/-- THE TIED CARD OF 'shuttlelaw07.TrellisBack'. -/
def trellisBackCard : Claim7 := { stood := { row := trellisBackRow, standIns := [], harness := (true, "373e87419b29adaae443cb72c1d89a581e092f41f805755742b24d7df304a0a8"), looks := false }, kinds := [], alts := [], laidByText := true, laidKinds := [.data], laidTests := true, laidLooks := .later }
def TrellisBackCardSaid : Prop := Claim7.holds Tryd.pinned (.plain (OpenSpec.ofChange trellisBackSpec)) trellisBackCard

/-- THE TIED CARD OF 'shuttlelaw07.TrellisPaths'. -/
def trellisPathsCard : Claim7 := { stood := { row := trellisPathsRow, standIns := [], harness := (true, "373e87419b29adaae443cb72c1d89a581e092f41f805755742b24d7df304a0a8"), looks := false }, kinds := [], alts := [], laidByText := true, laidKinds := [.data], laidTests := true, laidLooks := .later }
def TrellisPathsCardSaid : Prop := Claim7.holds Tryd.pinned (.plain (OpenSpec.ofChange trellisPathsSpec)) trellisPathsCard

/-- THE TIED CARD OF 'shuttlelaw11.VersionAlone'. -/
def versionAloneCard : Claim7 := { stood := { row := versionAloneRow, standIns := [], harness := (true, "373e87419b29adaae443cb72c1d89a581e092f41f805755742b24d7df304a0a8"), looks := false }, kinds := [], alts := [], laidByText := true, laidKinds := [.data], laidTests := true, laidLooks := .later }
def VersionAloneCardSaid : Prop := Claim7.holds Tryd.pinned (.plain (OpenSpec.ofChange versionAloneSpec)) versionAloneCard

/-- THE TIED CARD OF 'shuttlelaw11.VersionCodes'. -/
def versionCodesCard : Claim7 := { stood := { row := versionCodesRow, standIns := [], harness := (true, "373e87419b29adaae443cb72c1d89a581e092f41f805755742b24d7df304a0a8"), looks := false }, kinds := [], alts := [], laidByText := true, laidKinds := [.data], laidTests := true, laidLooks := .later }
def VersionCodesCardSaid : Prop := Claim7.holds Tryd.pinned (.plain (OpenSpec.ofChange versionCodesSpec)) versionCodesCard

/-- THE TIED CARD OF 'shuttlelaw11.VersionTurned'. -/
def versionTurnedCard : Claim7 := { stood := { row := versionTurnedRow, standIns := [], harness := (true, "373e87419b29adaae443cb72c1d89a581e092f41f805755742b24d7df304a0a8"), looks := false }, kinds := [], alts := [], laidByText := true, laidKinds := [.data], laidTests := true, laidLooks := .later }
def VersionTurnedCardSaid : Prop := Claim7.holds Tryd.pinned (.plain (OpenSpec.ofChange versionTurnedSpec)) versionTurnedCard

/-- THE SECOND FORM's CARD OF 'shuttlelaw07.TrellisEdges'. -/
def trellisEdgesUptoCard : Claim7 := { stood := { row := trellisEdgesUptoRow, standIns := [], harness := (true, "373e87419b29adaae443cb72c1d89a581e092f41f805755742b24d7df304a0a8"), looks := false }, kinds := [], alts := [], laidByText := true, laidKinds := [.data], laidTests := true, laidLooks := .later }
def TrellisEdgesUptoCardSaid : Prop := Claim7.holds Tryd.pinned (.plain (OpenSpec.upto trellisEdgesSpec)) trellisEdgesUptoCard

/-- THE SECOND FORM's CARD OF 'shuttlelaw07.TrellisBack'. -/
def trellisBackUptoCard : Claim7 := { stood := { row := trellisBackUptoRow, standIns := [], harness := (true, "373e87419b29adaae443cb72c1d89a581e092f41f805755742b24d7df304a0a8"), looks := false }, kinds := [], alts := [], laidByText := true, laidKinds := [.data], laidTests := true, laidLooks := .later }
def TrellisBackUptoCardSaid : Prop := Claim7.holds Tryd.pinned (.plain (OpenSpec.upto trellisBackSpec)) trellisBackUptoCard

/-- THE SECOND FORM's CARD OF 'shuttlelaw07.TrellisPaths'. -/
def trellisPathsUptoCard : Claim7 := { stood := { row := trellisPathsUptoRow, standIns := [], harness := (true, "373e87419b29adaae443cb72c1d89a581e092f41f805755742b24d7df304a0a8"), looks := false }, kinds := [], alts := [], laidByText := true, laidKinds := [.data], laidTests := true, laidLooks := .later }
def TrellisPathsUptoCardSaid : Prop := Claim7.holds Tryd.pinned (.plain (OpenSpec.upto trellisPathsSpec)) trellisPathsUptoCard

/-- THE SECOND FORM's CARD OF 'shuttlelaw11.VersionAlone'. -/
def versionAloneUptoCard : Claim7 := { stood := { row := versionAloneUptoRow, standIns := [], harness := (true, "373e87419b29adaae443cb72c1d89a581e092f41f805755742b24d7df304a0a8"), looks := false }, kinds := [], alts := [], laidByText := true, laidKinds := [.data], laidTests := true, laidLooks := .later }
def VersionAloneUptoCardSaid : Prop := Claim7.holds Tryd.pinned (.plain (OpenSpec.upto versionAloneSpec)) versionAloneUptoCard

/-- THE SECOND FORM's CARD OF 'shuttlelaw11.VersionCodes'. -/
def versionCodesUptoCard : Claim7 := { stood := { row := versionCodesUptoRow, standIns := [], harness := (true, "373e87419b29adaae443cb72c1d89a581e092f41f805755742b24d7df304a0a8"), looks := false }, kinds := [], alts := [], laidByText := true, laidKinds := [.data], laidTests := true, laidLooks := .later }
def VersionCodesUptoCardSaid : Prop := Claim7.holds Tryd.pinned (.plain (OpenSpec.upto versionCodesSpec)) versionCodesUptoCard

/-- THE SECOND FORM's CARD OF 'shuttlelaw11.VersionTurned'. -/
def versionTurnedUptoCard : Claim7 := { stood := { row := versionTurnedUptoRow, standIns := [], harness := (true, "373e87419b29adaae443cb72c1d89a581e092f41f805755742b24d7df304a0a8"), looks := false }, kinds := [], alts := [], laidByText := true, laidKinds := [.data], laidTests := true, laidLooks := .later }
def VersionTurnedUptoCardSaid : Prop := Claim7.holds Tryd.pinned (.plain (OpenSpec.upto versionTurnedSpec)) versionTurnedUptoCard
end Rows
end Go.Proofs.YtmajbcglpcagoaaDoor
