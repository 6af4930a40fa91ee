/-
  DERIVED. GIVEN WITH THE SEED: THE CARDS: each row of YtmjilfeadgancaaDoorRows.lean that lists a variable, with what it lists TIED to the program's text (the seventh form; the later family's looks); each row that meets fmt, with fmt's text TOLD by the authors' own Lean function (tested against real Go, not proved from fmt's source: count such statements apart). THE CARD IS WHAT COUNTS. Prove the row's statement (the work); the ties are given (YtmjilfeadgancaaDoorTie.lean); close each card by the builder's one call (the guide's Derived/Test/ToyasCard.lean, 'card_holds'). Laid BY PROGRAM, IN A SANDBOX (cutbox-door.mjs). By AI agents, Wed Nov 11 2026. No macro, syntax, notation, axiom, sorry.
-/
import Derived.Test.YtmjilfeadgancaaDoorRows
import GoSem.ClaimSeven
namespace Go.Proofs.YtmjilfeadgancaaDoor
namespace Rows

/-- THE TIED CARD OF 'shuttlelaw06.ConvSteps'. -/
def convStepsCard : Claim7 := { stood := { row := convStepsRow, standIns := [], harness := (true, "839986c00b400e5dce77d35ab98f57e7a63d97f47a610b5b74a215951f328e59"), looks := false }, kinds := [], alts := [], laidByText := true, laidKinds := [.data], laidTests := true, laidLooks := .later }
def ConvStepsCardSaid : Prop := Claim7.holds Tryd.pinned (.plain (OpenSpec.ofChange convStepsSpec)) convStepsCard

/-- THE TIED CARD OF 'shuttlelaw06.ConvCodes'. -/
def convCodesCard : Claim7 := { stood := { row := convCodesRow, standIns := [], harness := (true, "839986c00b400e5dce77d35ab98f57e7a63d97f47a610b5b74a215951f328e59"), looks := false }, kinds := [], alts := [], laidByText := true, laidKinds := [.data], laidTests := true, laidLooks := .later }
def ConvCodesCardSaid : Prop := Claim7.holds Tryd.pinned (.plain (OpenSpec.ofChange convCodesSpec)) convCodesCard

/-- THE TIED CARD OF 'shuttlelaw06.ConvAdds'. -/
def convAddsCard : Claim7 := { stood := { row := convAddsRow, standIns := [], harness := (true, "839986c00b400e5dce77d35ab98f57e7a63d97f47a610b5b74a215951f328e59"), looks := false }, kinds := [], alts := [], laidByText := true, laidKinds := [.data], laidTests := true, laidLooks := .later }
def ConvAddsCardSaid : Prop := Claim7.holds Tryd.pinned (.plain (OpenSpec.ofChange convAddsSpec)) convAddsCard

/-- THE TIED CARD OF 'shuttlelaw06.ConvAlone'. -/
def convAloneCard : Claim7 := { stood := { row := convAloneRow, standIns := [], harness := (true, "839986c00b400e5dce77d35ab98f57e7a63d97f47a610b5b74a215951f328e59"), looks := false }, kinds := [], alts := [], laidByText := true, laidKinds := [.data], laidTests := true, laidLooks := .later }
def ConvAloneCardSaid : Prop := Claim7.holds Tryd.pinned (.plain (OpenSpec.ofChange convAloneSpec)) convAloneCard

/-- THE TIED CARD OF 'shuttlelaw06.ConvLate'. -/
def convLateCard : Claim7 := { stood := { row := convLateRow, standIns := [], harness := (true, "839986c00b400e5dce77d35ab98f57e7a63d97f47a610b5b74a215951f328e59"), looks := false }, kinds := [], alts := [], laidByText := true, laidKinds := [.data], laidTests := true, laidLooks := .later }
def ConvLateCardSaid : Prop := Claim7.holds Tryd.pinned (.plain (OpenSpec.ofChange convLateSpec)) convLateCard

/-- THE SECOND FORM's CARD OF 'shuttlelaw06.ConvSteps'. -/
def convStepsUptoCard : Claim7 := { stood := { row := convStepsUptoRow, standIns := [], harness := (true, "839986c00b400e5dce77d35ab98f57e7a63d97f47a610b5b74a215951f328e59"), looks := false }, kinds := [], alts := [], laidByText := true, laidKinds := [.data], laidTests := true, laidLooks := .later }
def ConvStepsUptoCardSaid : Prop := Claim7.holds Tryd.pinned (.plain (OpenSpec.upto convStepsSpec)) convStepsUptoCard

/-- THE SECOND FORM's CARD OF 'shuttlelaw06.ConvCodes'. -/
def convCodesUptoCard : Claim7 := { stood := { row := convCodesUptoRow, standIns := [], harness := (true, "839986c00b400e5dce77d35ab98f57e7a63d97f47a610b5b74a215951f328e59"), looks := false }, kinds := [], alts := [], laidByText := true, laidKinds := [.data], laidTests := true, laidLooks := .later }
def ConvCodesUptoCardSaid : Prop := Claim7.holds Tryd.pinned (.plain (OpenSpec.upto convCodesSpec)) convCodesUptoCard

/-- THE SECOND FORM's CARD OF 'shuttlelaw06.ConvAdds'. -/
def convAddsUptoCard : Claim7 := { stood := { row := convAddsUptoRow, standIns := [], harness := (true, "839986c00b400e5dce77d35ab98f57e7a63d97f47a610b5b74a215951f328e59"), looks := false }, kinds := [], alts := [], laidByText := true, laidKinds := [.data], laidTests := true, laidLooks := .later }
def ConvAddsUptoCardSaid : Prop := Claim7.holds Tryd.pinned (.plain (OpenSpec.upto convAddsSpec)) convAddsUptoCard

/-- THE SECOND FORM's CARD OF 'shuttlelaw06.ConvAlone'. -/
def convAloneUptoCard : Claim7 := { stood := { row := convAloneUptoRow, standIns := [], harness := (true, "839986c00b400e5dce77d35ab98f57e7a63d97f47a610b5b74a215951f328e59"), looks := false }, kinds := [], alts := [], laidByText := true, laidKinds := [.data], laidTests := true, laidLooks := .later }
def ConvAloneUptoCardSaid : Prop := Claim7.holds Tryd.pinned (.plain (OpenSpec.upto convAloneSpec)) convAloneUptoCard

/-- THE SECOND FORM's CARD OF 'shuttlelaw06.ConvLate'. -/
def convLateUptoCard : Claim7 := { stood := { row := convLateUptoRow, standIns := [], harness := (true, "839986c00b400e5dce77d35ab98f57e7a63d97f47a610b5b74a215951f328e59"), looks := false }, kinds := [], alts := [], laidByText := true, laidKinds := [.data], laidTests := true, laidLooks := .later }
def ConvLateUptoCardSaid : Prop := Claim7.holds Tryd.pinned (.plain (OpenSpec.upto convLateSpec)) convLateUptoCard
end Rows
end Go.Proofs.YtmjilfeadgancaaDoor
